/- Part Qag of the proof: a machine with trees for values, its soundness, and walks on it. -/
import Derived.Test.YtfncabcldhemkaaDoorQaf
import Derived.Test.YtfncabcldhemkaaDoorProg
import Derived.Carry
import Derived.ChangeSame
import Derived.ChangeVars
import Derived.JoinedOf
import Derived.RowKit
import Derived.RowKitTokens
import Derived.LaidLaws
import Derived.LaidHandle
import Derived.Stop.Joined
import Derived.Handed
import Derived.SevenTiedAt
import Derived.Test.YtfncabcldhemkaaDoorRows
import Derived.MakeChecks
set_option linter.unusedVariables false
set_option linter.unusedSimpArgs false
set_option maxRecDepth 10000
section
namespace Go.Ideal
section
variable {P : Program} {G : GG} {N : Nat} {st : St} {K : St -> Prop} {T : List (Nat × AV)} {u : Nat}
def cvK (N d : Nat) (o : Option (St × Nat × Nat × List AV)) : Option St := match o with
 | some r => gO (r.2.1 = 1 /\ 0 < r.2.2.1) (some ((r.1.put N (.own r.2.1 r.2.2.1 r.2.2.2)).thru N d (.own r.2.1 r.2.2.1 r.2.2.2)))
 | none => none
@[congr] theorem d8t {d : Nat} {o o' : Option (St × Nat × Nat × List AV)} (h : o = o') : cvK N d o = cvK N d o' := by rw [h]
@[go_sem] theorem e5w {d sz n : Nat} {ks : List AV} : cvK N d (some (st, sz, n, ks)) = gO (sz = 1 /\ 0 < n) (some ((st.put N (.own sz n ks)).thru N d (.own sz n ks))) := (rfl)
@[go_sem] theorem d9e {d : Nat} {s t : TypeId} {x : X} : evS G N (some d) (.conv s t .keep x) st = cvK N d (tkS st N x (rdv st x)) := by
 simp only [evS, a07, Ev.run_bind, b8w, Option.bind]
 cases tkS st N x (rdv st x) with
 | none => rfl
 | some r =>
  simp only [Option.map, a1l, St.put_s, if_true, a0f, Ev.run_bind, Option.bind, cvK, gO]
  by_cases h1 : r.2.1 = 1
  ·by_cases h2 : 0 < r.2.2.1
   ·simp only [h1, h2, beq_self_eq_true, decide_true, Bool.and_self, if_true, and_self, a6t]
   ·simp only [h1, h2, beq_self_eq_true, decide_false, Bool.and_false, Bool.false_eq_true, if_false, and_false]
  ·have : (r.2.1 == 1) = false := by simpa using h1
   simp only [this, Bool.false_and, Bool.false_eq_true, if_false, h1, false_and]
def lkB {α : Type} (b : Bool) (v : α) (o : Option α) : Option α := if b then some v else o
@[congr] theorem e0y {α : Type} {b b' : Bool} {v : α} {o : Option α} (h : b = b') : lkB b v o = lkB b' v o := by rw [h]
@[go_sem] theorem g0e {α : Type} {v : α} {o : Option α} : lkB true v o = some v := (rfl)
@[go_sem] theorem g0d {α : Type} {v : α} {o : Option α} : lkB false v o = o := (rfl)
@[go_sem] theorem e7i {α : Type} {a b : Nat} {v : α} {T : List (Nat × α)} : List.lookup a ((b, v) :: T) = lkB (a == b) v (List.lookup a T) := by
 simp only [List.lookup_cons, lkB]
 cases a == b <;> rfl
def d2j (b : Bool) (o : Option AV) (T : List (Nat × AV)) (v : AV) : AV := if b then (match o with
 | some av => av
 | none => a05 (a8n T) v) else .dead
@[congr] theorem d52 {b b' : Bool} {o o' : Option AV} {v : AV} (h : b = b') (h2 : o = o') : d2j b o T v = d2j b' o' T v := by rw [h, h2]
@[go_sem] theorem f7v {o : Option AV} {v : AV} : d2j false o T v = .dead := (rfl)
@[go_sem] theorem f7x {av v : AV} : d2j true (some av) T v = av := (rfl)
@[go_sem] theorem f7w {v : AV} : d2j true none T v = a05 (a8n T) v := (rfl)
@[go_sem] theorem f2e : (st.lentS N T).s u = d2j (decide (u < N)) (T.lookup u) T (st.s u) := by
 simp only [St.lentS, d2j, decide_eq_true_eq]
 cases T.lookup u <;> rfl
@[go_sem] theorem e69 : (st.lentS N T).ep u = st.ep u := (rfl)
def b7y (o : Option AV) : Bool := match o with
 | some (.var ks) => !a0n ks
 | _ => false
@[congr] theorem d2k {o o' : Option AV} (h : o = o') : b7y o = b7y o' := by rw [h]
@[go_sem] theorem f2c : b7y none = false := (rfl)
@[go_sem] theorem f2d {ks : List AV} : b7y (some (.var ks)) = !a0n ks := (rfl)
theorem b4p {t i : Nat} {q : List Nat} : a8n T t (i :: q) = b7y (T.lookup t) := by
 simp only [a8n, b7y]
 cases T.lookup t with
 | none => rfl
 | some av => cases av <;> rfl
def d0o (b : Bool) (v : AV) : AV := if b then .dead else v
@[congr] theorem d5s {b b' : Bool} {v : AV} (h : b = b') : d0o b v = d0o b' v := by rw [h]
@[go_sem] theorem f7q {v : AV} : d0o true v = .dead := (rfl)
@[go_sem] theorem f7p {v : AV} : d0o false v = v := (rfl)
@[go_sem] theorem d5x {t o e : Nat} : a05 (a8n T) (.ref t [] o e) = .ref t [] o e := by simp [a05, a8n]
@[go_sem] theorem d5y {t i o e : Nat} {q : List Nat} : a05 (a8n T) (.ref t (i :: q) o e) = d0o (b7y (T.lookup t)) (.ref t (i :: q) o e) := by simp only [a05, b4p, d0o]
@[go_sem] theorem d5t {t lo n e : Nat} : a05 (a8n T) (.bor t [] lo n e) = .bor t [] lo n e := by simp [a05, a8n]
@[go_sem] theorem d5u {t i lo n e : Nat} {q : List Nat} : a05 (a8n T) (.bor t (i :: q) lo n e) = d0o (b7y (T.lookup t)) (.bor t (i :: q) lo n e) := by simp only [a05, b4p, d0o]
def c15 (b : Bool) (o : Option (List AV × List (Nat × Nat))) : Option (List AV × List (Nat × Nat)) := if b then o else none
@[congr] theorem d6h {b b' : Bool} {o : Option (List AV × List (Nat × Nat))} (h : b = b') : c15 b o = c15 b' o := by rw [h]
@[go_sem] theorem f8i {o : Option (List AV × List (Nat × Nat))} : c15 true o = o := (rfl)
section
variable {st1 : St} {acc : List AV} {L : List (Nat × Nat)} {es : List (Option Nat × AV)}
def pxV (N : Nat) (st1 st : St) (acc : List AV) (L : List (Nat × Nat)) (t : Nat) (v v1 : AV) (es : List (Option Nat × AV)) : Option (List AV × List (Nat × Nat)) := match v, v1 with
 | .var (k :: ks), .var (_ :: _) => pX N st1 st (acc ++ [.var (k :: ks)]) (L ++ [(t, acc.length)]) es
 | _, _ => none
def pxR (N : Nat) (st1 st : St) (acc : List AV) (L : List (Nat × Nat)) (t e : Nat) (o : Option Nat) (es : List (Option Nat × AV)) : Option (List AV × List (Nat × Nat)) := match o with
 | some j => c15 (decide (e = st.ep t)) (pX N st1 st (acc ++ [.ref j [] 0 0]) L es)
 | none => c15 (decide (e = st.ep t) && decide (t < N)) (pxV N st1 st acc L t (st.s t) (st1.s t) es)
def pxT (N : Nat) (st1 st : St) (acc : List AV) (L : List (Nat × Nat)) (o : Option AV) (es : List (Option Nat × AV)) : Option (List AV × List (Nat × Nat)) := match o with
 | some p => pX N st1 st (acc ++ [p]) L es
 | none => none
@[congr] theorem e29 {t : Nat} {v v' v1 v1' : AV} (h : v = v') (h1 : v1 = v1') : pxV N st1 st acc L t v v1 es = pxV N st1 st acc L t v' v1' es := by rw [h, h1]
@[congr] theorem e26 {t e : Nat} {o o' : Option Nat} (h : o = o') : pxR N st1 st acc L t e o es = pxR N st1 st acc L t e o' es := by rw [h]
@[congr] theorem e28 {o o' : Option AV} (h : o = o') : pxT N st1 st acc L o es = pxT N st1 st acc L o' es := by rw [h]
@[congr] theorem e79 {acc' : List AV} {L' : List (Nat × Nat)} {es' : List (Option Nat × AV)} (h1 : acc = acc') (h2 : L = L') (h3 : es = es') : pX N st1 st acc L es = pX N st1 st acc' L' es' := by rw [h1, h2, h3]
@[go_sem] theorem f30 {t : Nat} {k k1 : AV} {ks ks1 : List AV} : pxV N st1 st acc L t (.var (k :: ks)) (.var (k1 :: ks1)) es = pX N st1 st (acc ++ [.var (k :: ks)]) (L ++ [(t, acc.length)]) es := (rfl)
@[go_sem] theorem g0n {t e j : Nat} : pxR N st1 st acc L t e (some j) es = c15 (decide (e = st.ep t)) (pX N st1 st (acc ++ [.ref j [] 0 0]) L es) := (rfl)
@[go_sem] theorem g0m {t e : Nat} : pxR N st1 st acc L t e none es = c15 (decide (e = st.ep t) && decide (t < N)) (pxV N st1 st acc L t (st.s t) (st1.s t) es) := (rfl)
@[go_sem] theorem g0o {p : AV} : pxT N st1 st acc L (some p) es = pX N st1 st (acc ++ [p]) L es := (rfl)
@[go_sem] theorem f8m : pX N st1 st acc L [] = some (acc, L) := (rfl)
@[go_sem] theorem g1f {k : Nat} {av : AV} : pX N st1 st acc L ((some k, av) :: es) = c15 (a0r av) (pX N st1 st (acc ++ [av]) L es) := by
 simp only [pX, c15]
@[go_sem] theorem f8n {t e : Nat} : pX N st1 st acc L ((none, .ref t [] 0 e) :: es) = pxR N st1 st acc L t e (L.lookup t) es := by
 simp only [pX, pxR, c15, pxV, decide_eq_true_eq, Bool.and_eq_true]
 cases L.lookup t <;> rfl
@[go_sem] theorem f8l {v : Value} : pX N st1 st acc L ((none, .lit v) :: es) = pX N st1 st (acc ++ [.lit v]) L es := (rfl)
@[go_sem] theorem g0j {n : Nat} {ks : List AV} : pX N st1 st acc L ((none, .sl n ks) :: es) = pX N st1 st (acc ++ [.sl n ks]) L es := (rfl)
@[go_sem] theorem g0i {n : Nat} {ks : List AV} : pX N st1 st acc L ((none, .ip ks n) :: es) = pX N st1 st (acc ++ [.ip ks n]) L es := (rfl)
@[go_sem] theorem f8j {ks : List AV} : pX N st1 st acc L ((none, .agg ks) :: es) = c15 (a0n ks) (pX N st1 st (acc ++ [.agg ks]) L es) := by
 simp only [pX, trA, a0l, c15]
 by_cases h : a0n ks = true <;> simp [h]
@[go_sem] theorem f8k {t : TypeId} {k : AV} : pX N st1 st acc L ((none, .ifc t k) :: es) = c15 (a0l k) (pX N st1 st (acc ++ [.ifc t k]) L es) := by
 simp only [pX, trA, a0l, c15]
 by_cases h : a0l k = true <;> simp [h]
@[go_sem] theorem g0h {f : FuncId} {fs cs : List AV} : pX N st1 st acc L ((none, .fn f fs cs) :: es) = pxT N st1 st acc L (trA st L (.fn f fs cs)) es := (rfl)
def fn2 (f : FuncId) (a b : Option (List AV)) : Option AV := match a, b with
 | some a, some b => some (.fn f a b)
 | _, _ => none
@[go_sem] theorem f9v {f : FuncId} {a b : List AV} : fn2 f (some a) (some b) = some (.fn f a b) := (rfl)
@[go_sem] theorem f84 {f : FuncId} {fs cs : List AV} : trA st L (.fn f fs cs) = fn2 f (trL st L fs) (trL st L cs) := by
 simp only [trA, fn2]
 cases trL st L fs <;> cases trL st L cs <;> rfl
@[go_sem] theorem f4y : trL st L [] = some [] := by simp only [trL]
@[go_sem] theorem e9g {k : AV} {ks : List AV} : trL st L (k :: ks) = avs (trA st L k) (trL st L ks) := by
 simp only [trL, avs]
 cases trA st L k <;> cases trL st L ks <;> rfl
@[go_sem] theorem f4w {v : Value} : trA st L (.lit v) = some (.lit v) := by simp only [trA, a0l, if_true]
@[go_sem] theorem f87 {n : Nat} {ks : List AV} : trA st L (.sl n ks) = some (.sl n ks) := by simp only [trA, a0l, if_true]
@[go_sem] theorem f86 {n : Nat} {ks : List AV} : trA st L (.ip ks n) = some (.ip ks n) := by simp only [trA, a0l, if_true]
def e4t (b : Bool) (l : Option Nat) (o : Nat) : Option AV := if b then l.map fun i => .ref i [] o 0 else none
@[congr] theorem d7h {b b' : Bool} {l l' : Option Nat} {o : Nat} (h : b = b') (h2 : l = l') : e4t b l o = e4t b' l' o := by rw [h, h2]
@[go_sem] theorem f9a {i o : Nat} : e4t true (some i) o = some (.ref i [] o 0) := (rfl)
@[go_sem] theorem f4x {t o e : Nat} : trA st L (.ref t [] o e) = e4t (decide (e = st.ep t)) (L.lookup t) o := by simp [trA, e4t]
@[go_sem] theorem g1j {t : Nat} : xv st (.t t) = st.s t := (rfl)
@[go_sem] theorem g1g {v : Value} : xv st (.c v) = .lit v := (rfl)
@[go_sem] theorem g1h {n : Nat} : xv st (.f n) = .fn n [] [] := (rfl)
@[go_sem] theorem g1i {n : Nat} : xv st (.g n) = .lit (.pointer (some ⟨n, 0, none⟩)) := (rfl)
@[go_sem] theorem f0k {fs cs : List AV} {lay : List CS} : b5q N st fs lay cs = fs.map (fun a => (none, a)) ++ (lay.map (c3y N st) ++ cs.map (fun a => (none, a))) := (rfl)
@[go_sem] theorem f5r {k : Nat} : c3y N st (.p k) = (some k, st.s (N + 2 + k)) := (rfl)
@[go_sem] theorem f5s {y : X} : c3y N st (.x y) = (none, xv st y) := (rfl)
end
def c69 (st : St) (N : Nat) (T : List (Nat × AV)) (d : Option Nat) (res : AV) : St := match d with
 | some d => (st.lentS N T).thru N d res
 | none => st.lentS N T
@[go_sem] theorem d9t {d : Nat} {res : AV} : c69 st N T (some d) res = (st.lentS N T).thru N d res := (rfl)
@[go_sem] theorem d9s {res : AV} : c69 st N T none res = st.lentS N T := (rfl)
def c5f : AV -> Bool
 | .var _ => true
 | _ => false
def clx (P : Program) (G : GG) (N : Nat) (d : Option Nat) (f : FuncId) (pre : List AV) (L : List (Nat × Nat)) (st1 st2 : St) (K : St -> Prop) : Prop :=
 ∃ res posts, ACallsX P G f pre res posts /\ a0r res = true /\ posts.map (·.1) = L.map (·.2) /\ (posts.all fun p => c5f p.2) = true /\ K (c69 (if a0x res && posts.all fun p => a0x p.2 then st1 else st2) N ((L.map (·.1)).zip (posts.map (·.2))) d res)
def d4s (P : Program) (G : GG) (N : Nat) (d : Option Nat) (f : FuncId) (st1 st2 : St) (o : Option (List AV × List (Nat × Nat))) (K : St -> Prop) : Prop := match o with
 | some x => clx P G N d f x.1 x.2 st1 st2 K
 | none => False
def d1l (P : Program) (G : GG) (N : Nat) (d : Option Nat) (v : AV) (lay : List CS) (st1 st2 : St) (K : St -> Prop) : Prop := match v with
 | .fn f fs cs => fnB P f = true /\ d4s P G N d f st1 st2 (pX N st1 st2 [] [] (b5q N st2 fs lay cs)) K
 | _ => False
def c71 (P : Program) (G : GG) (N : Nat) (d : Option Nat) (cv : X) (lay : List CS) (o1 o2 : Option St) (K : St -> Prop) : Prop := match o1, o2 with
 | some st1, some st2 => d1l P G N d (xv st2 cv) lay st1 st2 K
 | _, _ => False
def d1m (P : Program) (G : GG) (N : Nat) (d : Option Nat) (cv : X) (args : List (Bool × X)) (lay : List CS) (o1 : Option St) (K : St -> Prop) : Prop := c71 P G N d cv lay o1 (pss N (N + 2) args o1) K
section
variable {d : Option Nat} {cv : X} {args : List (Bool × X)} {lay : List CS} {st1 st2 : St} {f : FuncId}
@[congr] theorem d4q {o o' : Option St} (h : o = o') : d1m P G N d cv args lay o K = d1m P G N d cv args lay o' K := by rw [h]
@[congr] theorem d4r {o1 o o' : Option St} (h : o = o') : c71 P G N d cv lay o1 o K = c71 P G N d cv lay o1 o' K := by rw [h]
@[congr] theorem d4p {v v' : AV} (h : v = v') : d1l P G N d v lay st1 st2 K = d1l P G N d v' lay st1 st2 K := by rw [h]
@[congr] theorem d4t {o o' : Option (List AV × List (Nat × Nat))} (h : o = o') : d4s P G N d f st1 st2 o K = d4s P G N d f st1 st2 o' K := by rw [h]
@[congr] theorem d8p {pre pre' : List AV} {L L' : List (Nat × Nat)} (h : pre = pre') (h2 : L = L') : clx P G N d f pre L st1 st2 K = clx P G N d f pre' L' st1 st2 K := by rw [h, h2]
@[go_sem] theorem d8m : d1m P G N d cv args lay (some st) K = c71 P G N d cv lay (some st) (pss N (N + 2) args (some st)) K := (rfl)
@[go_sem] theorem d8n : c71 P G N d cv lay (some st1) (some st2) K = d1l P G N d (xv st2 cv) lay st1 st2 K := (rfl)
@[go_sem] theorem e90 {fs cs : List AV} : d1l P G N d (.fn f fs cs) lay st1 st2 K = (fnB P f = true /\ d4s P G N d f st1 st2 (pX N st1 st2 [] [] (b5q N st2 fs lay cs)) K) := (rfl)
@[go_sem] theorem d8o {pre : List AV} {L : List (Nat × Nat)} : d4s P G N d f st1 st2 (some (pre, L)) K = clx P G N d f pre L st1 st2 K := (rfl)
@[go_sem] theorem d35 {tys : List TypeId} {rest : List AO} : a9d P G N (⟨d, .callx cv args lay tys, none⟩ :: rest) K st = d1m P G N d cv args lay (gvs N (N + 2) args (some st)) (a9d P G N rest K) := by
 simp only [a9d, a82, b30, c1h]
 rw [<- a6s]
 have hvar : ∀ {posts : List (Nat × AV)}, (∀ i av, (i, av) ∈ posts -> ∃ ks, av = .var ks) ↔ (posts.all fun p => c5f p.2) = true := by
  intro posts
  simp only [List.all_eq_true]
  constructor
  ·rintro h ⟨i, av⟩ hm
   obtain ⟨ks, rfl⟩ := h i av hm
   rfl
  ·intro h i av hm
   have := h _ hm
   cases av <;> simp [c5f] at this
   exact ⟨_, rfl⟩
 apply propext
 constructor
 ·rintro ⟨f, fs, cs, st1, st2, L, pre, res, posts, st3, h1, h2, h3, h4, h5, h6, h7, h8, h9, h10, h11⟩
  have e2 := a3q (N := N) args (N + 2) st1
  rw [h2] at e2
  simp only [h1, Option.map, d1m, c71, <- e2, h3, d1l, h5, d4s]
  refine ⟨h4, res, posts, h6, h7, h8, hvar.1 h9, ?_⟩
  have : c69 (if a0x res && posts.all fun p => a0x p.2 then st1 else st2) N ((L.map (·.1)).zip (posts.map (·.2))) d res = st3 := by
   cases d with
   | none =>
    simp only [b9b, Ev.run_pure, Option.some.injEq, Prod.mk.injEq, true_and] at h10
    exact h10
   | some d =>
    simp only [b9b, a6t, Option.some.injEq, Prod.mk.injEq, true_and] at h10
    exact h10
  rw [this]; exact h11
 ·cases h1 : (a4z N (N + 2) args).run st with
  | none => intro h; simp only [Option.map, d1m, c71] at h
  | some r =>
   obtain ⟨_, st1⟩ := r
   simp only [Option.map, d1m]
   rw [<- a3q]
   cases h2 : (a3e N (N + 2) args).run st1 with
   | none => intro h; simp only [Option.map, c71] at h
   | some r2 =>
    obtain ⟨_, st2⟩ := r2
    simp only [Option.map, c71]
    cases h3 : xv st2 cv <;> simp only [d1l] <;> try exact False.elim
    rename_i f fs cs
    rintro ⟨h4, h⟩
    cases h5 : pX N st1 st2 [] [] (b5q N st2 fs lay cs) with
    | none => rw [h5] at h; exact h.elim
    | some x =>
     obtain ⟨pre, L⟩ := x
     rw [h5] at h
     obtain ⟨res, posts, h6, h7, h8, h9, h10⟩ := h
     refine ⟨f, fs, cs, st1, st2, L, pre, res, posts, _, rfl, h2, h3, h4, h5, h6, h7, h8, hvar.2 h9, ?_, h10⟩
     cases d <;> rfl
theorem d1n {pre : List AV} {L : List (Nat × Nat)} {res : AV} {posts : List (Nat × AV)} (hA : ACallsX P G f pre res posts) (hn : a0r res = true) (hp : posts.map (·.1) = L.map (·.2)) (hv : (posts.all fun p => c5f p.2) = true)
  (h : K (c69 st1 N ((L.map (·.1)).zip (posts.map (·.2))) d res)) (h2 : K (c69 st2 N ((L.map (·.1)).zip (posts.map (·.2))) d res)) : clx P G N d f pre L st1 st2 K := ⟨res, posts, hA, hn, hp, hv, by split; exact h; exact h2⟩
end
section
variable {d : Option Nat} {cv : X} {args : List (Bool × X)} {lay : List CS} {f : FuncId} {aft : DA} {rest : List AO} {fps : List (List Nat × List Nat)} {K : St -> Prop} {ex : List Nat}
def f43 : AV -> Bool
 | .var ks => a0n ks
 | _ => false
@[go_sem] theorem e4x {ks : List AV} : f43 (.var ks) = a0n ks := (rfl)
@[go_sem] theorem e7a {v : Value} : c85 (.lit v) = true := (rfl)
@[go_sem] theorem e4e {rd : List Nat} {n : Nat} : a4y rd (.t n) = rd.contains n := (rfl)
@[go_sem] theorem e4b {rd : List Nat} {v : Value} : a4y rd (.c v) = true := (rfl)
@[go_sem] theorem e4c {rd : List Nat} {n : Nat} : a4y rd (.f n) = true := (rfl)
@[go_sem] theorem e4d {rd : List Nat} {n : Nat} : a4y rd (.g n) = true := (rfl)
@[go_sem] theorem d6z {rd : List Nat} {t : Nat} {q : List Nat} {o e : Nat} : a20 rd (.ref t q o e) = rd.contains t := by simp only [a20]
@[go_sem] theorem d6x {rd : List Nat} {t : Nat} {q : List Nat} {lo n e : Nat} : a20 rd (.bor t q lo n e) = rd.contains t := by simp only [a20]
@[go_sem] theorem e3g {rd : List Nat} {f : FuncId} {a c : List AV} : a20 rd (.fn f a c) = (a2r rd a && a2r rd c) := by simp only [a20]
@[go_sem] theorem d6y {rd : List Nat} {v : Value} : a20 rd (.lit v) = true := by simp only [a20]
@[go_sem] theorem e3h {rd : List Nat} {n : Nat} {ks : List AV} : a20 rd (.sl n ks) = true := by simp only [a20]
@[go_sem] theorem d3d {rd : List Nat} : a2r rd [] = true := by simp only [a2r]
@[go_sem] theorem d0w {rd : List Nat} {k : AV} {ks : List AV} : a2r rd (k :: ks) = (a20 rd k && a2r rd ks) := by simp only [a2r]
@[go_sem] theorem d53 {rd : List Nat} : c0m st rd args = args.all fun p => !p.1 && (c85 (rdv st p.2) && a4y rd p.2) := (rfl)
@[go_sem] theorem d3a {j : Nat} : a1i st j [] = st := (rfl)
@[go_sem] theorem d0u {j : Nat} {p : Bool × X} : a1i st j (p :: args) = a1i (st.put j (rdv st p.2)) (j + 1) args := (rfl)
@[go_sem] theorem e0u {rd : List Nat} {n : Nat} : c0l st rd n [] = true := (rfl)
@[go_sem] theorem f17 {rd : List Nat} {n k : Nat} : c0l st rd n (.p k :: lay) = (decide (k < n) && c0l st rd n lay) := (rfl)
@[go_sem] theorem f18 {rd : List Nat} {n : Nat} {y : X} : c0l st rd n (.x y :: lay) = ((a4y rd y && a20 rd (xv st y)) && c0l st rd n lay) := (rfl)
def dCx (P : Program) (G : GG) (N : Nat) (aft : DA) (ex : List Nat) (d : Option Nat) (cv : X) (args : List (Bool × X)) (lay : List CS) (rest : List AO) (fps : List (List Nat × List Nat)) (K : St -> Prop) (st : St) : Prop :=
 c4p P G N aft ex d (.callx cv args lay []) fps (fun fps st => a6v aft.2 st /\ a6w P G N aft rest fps K st) st
@[congr] theorem d8x {st' : St} (h : st = st') : dCx P G N aft ex d cv args lay rest fps K st = dCx P G N aft ex d cv args lay rest fps K st' := by rw [h]
@[go_sem] theorem d44 {tys : List TypeId} : a6w P G N aft (⟨d, .callx cv args lay tys, none⟩ :: rest) fps K st = dCx P G N aft [] d cv args lay rest fps K st := (rfl)
end
def b94 (rs : List RV) (res : AV) (posts : List (Nat × AV)) : Exit -> St -> Prop
 | .normal, st | .ret, st => d63 rs st = some res /\ ∀ p ∈ posts, st.s p.1 = p.2
 | _, _ => False
section
variable {rs : List RV} {res : AV} {posts : List (Nat × AV)}
@[congr] theorem d10 {e : Exit} {st' : St} (h2 : st = st') : b94 rs res posts e st = b94 rs res posts e st' := by rw [h2]
def poK : List (Nat × AV) -> St -> Prop
 | [], _ => True
 | p :: ps, st => st.s p.1 = p.2 /\ poK ps st
@[congr] theorem e2x {ps : List (Nat × AV)} {st' : St} (h : st = st') : poK ps st = poK ps st' := by rw [h]
@[go_sem] theorem f3j : poK [] st = True := (rfl)
@[go_sem] theorem e8b {t : Nat} {v : AV} {ps : List (Nat × AV)} : poK ((t, v) :: ps) st = (st.s t = v /\ poK ps st) := (rfl)
theorem c0z : ∀ {ps : List (Nat × AV)}, (∀ p ∈ ps, st.s p.1 = p.2) = poK ps st
 | [] => by simp [poK]
 | p :: ps => by simp only [List.mem_cons, forall_eq_or_imp, poK, c0z (ps := ps)]
@[go_sem] theorem f0l : b94 rs res posts .normal st = (d31 (rvL rs st) = some res /\ poK posts st) := by rw [<- c0z]; rfl
@[go_sem] theorem f0m : b94 rs res posts .ret st = (d31 (rvL rs st) = some res /\ poK posts st) := by rw [<- c0z]; rfl
theorem b95 {vs : List ResultVar} (h : b8y P N rs vs = true) : ∀ e st, b94 rs res posts e st -> f6u P N vs res posts e st := by
 intro e st hq
 have key : d63 rs st = some res -> b27 P N st vs = some res := by
  intro hk
  unfold d63 at hk
  cases hl : rvL rs st with
  | none => rw [hl] at hk; cases hk
  | some ks =>
   rw [hl] at hk
   simp only [b27, b3h h hl]
   exact hk
 cases e <;> first | exact ⟨key hq.1, hq.2⟩ | exact hq
end
theorem ACallsX.of_walk {P : Program} {G : GG} {f : FuncId} {fn : Func} {c : Code} {N : Nat} {vs : List ResultVar} {rs : List RV} {ic : IC} (hord : P.follows .mixedOrders = true) (hf : P.funcs[f]? = some fn) (hb : fn.body = some c) (hN : fn.ntmps = N) (hrs : fn.results.toList = vs) (hnd : (vs.map rvT).Nodup)
  (he : a8l c = ic.ec) (hok : ic.ok P N = true) (hr : b8y P N rs vs = true) {pins : List Nat} (hpin : ic.pin pins = true) {pre : List AV} {res : AV} {posts : List (Nat × AV)} (hsz : pre.length <= N) (hpo : posts.map (·.1) = pins) (hpr : pins.all (fun t => !(vs.map rvT).contains t && decide (t < pre.length)) = true) (hnr : (posts.all fun p => a0r p.2) = true)
  (h : AW P G N ic (b94 rs res posts) (St.init pre)) : ACallsX P G f pre res posts :=
 a7n hf hb hN hrs hnd hsz (fun p hp => by
  have := List.all_eq_true.1 hpr p.1 (by rw [<- hpo]; exact List.mem_map.2 ⟨p, hp, rfl⟩)
  simp only [Bool.and_eq_true, Bool.not_eq_true', decide_eq_true_eq] at this
  exact ⟨fun hm => by simp [hm] at this, this.2, List.all_eq_true.1 hnr p hp⟩) (by rw [hpo]; exact (c1f hord ic c _ _ he hok hpin h).mono (b95 hr))
end
end Go.Ideal
end
section
namespace Go.Ideal
abbrev oo (d : Nat) (i : IOp) : AO := ⟨some d, .op i, none⟩
abbrev om (d t : Nat) : AO := ⟨some d, .op (.mv (.t t)), none⟩
abbrev ov (i : IOp) : AO := ⟨none, .op i, none⟩
abbrev og (d : Nat) (i : IOp) (j t : Nat) (b : Bool) : AO := ⟨some d, .op i, some (j, t, b)⟩
abbrev oc (d : Nat) (f : FuncId) (args : List (Bool × X)) (tys : List TypeId) : AO := ⟨some d, .call f args tys, none⟩
abbrev X.n (k : Int) : X := .c (.int .i64 k)
abbrev fnK : Type := Bool × Option Func × Option EC × Nat × List ResultVar × Bool × Bool × Bool
def fnL (P : Program) (f : FuncId) (fn : Func) (N : Nat) (rs : List RV) (vs : List ResultVar) (ic : IC) : fnK :=
 (P.follows .mixedOrders, P.funcs[f]?, fn.body.map a8l, fn.ntmps, fn.results.toList, decide ((vs.map rvT).Nodup), ic.ok P N, b8y P N rs vs)
def fnR (fn : Func) (N : Nat) (vs : List ResultVar) (ic : IC) : fnK := (true, some fn, some ic.ec, N, vs, true, true, true)
abbrev fnC (P : Program) (f : FuncId) (N : Nat) (rs : List RV) (ic : IC) : Prop :=
 ∀ {G : GG} {pre : List AV} {res : AV} (hsz : decide (pre.length <= N) = true) (hw : AW P G N ic (d1z rs res) (St.init pre)), ACalls P G f pre res
abbrev fnX (P : Program) (f : FuncId) (N : Nat) (rs : List RV) (vs : List ResultVar) (ic : IC) : Prop :=
 ∀ {G : GG} {pre : List AV} {res : AV} {posts : List (Nat × AV)} {pins : List Nat} (hpin : ic.pin pins = true) (hpo : posts.map (·.1) = pins)
  (hpr : pins.all (fun t => !(vs.map rvT).contains t && decide (t < pre.length)) = true) (hnr : (posts.all fun p => a0r p.2) = true) (hsz : decide (pre.length <= N) = true) (hw : AW P G N ic (b94 rs res posts) (St.init pre)), ACallsX P G f pre res posts
section
variable {P : Program} {f : FuncId} {N : Nat} {rs : List RV} {ic : IC}
theorem a09 (fn : Func) (vs : List ResultVar) (h : fnL P f fn N rs vs ic = fnR fn N vs ic) : fnC P f N rs ic := by
 intro G pre res hsz hw
 simp only [fnL, fnR, Prod.mk.injEq, Option.map_eq_some_iff, decide_eq_true_eq] at h
 obtain ⟨h1, h2, ⟨c, hc, he⟩, h4, h5, h6, h7, h8⟩ := h
 exact ACalls.of_walk h1 h2 hc h4 h5 h6 he h7 h8 (of_decide_eq_true hsz) hw
theorem c48 (fn : Func) {vs : List ResultVar} (h : fnL P f fn N rs vs ic = fnR fn N vs ic) : fnX P f N rs vs ic := by
 intro G pre res posts pins hpin hpo hpr hnr hsz hw
 simp only [fnL, fnR, Prod.mk.injEq, Option.map_eq_some_iff, decide_eq_true_eq] at h
 obtain ⟨h1, h2, ⟨c, hc, he⟩, h4, h5, h6, h7, h8⟩ := h
 exact ACallsX.of_walk h1 h2 hc h4 h5 h6 he h7 h8 hpin (of_decide_eq_true hsz) hpo hpr hnr hw
end
end Go.Ideal
end
section
namespace Go.Ideal.Tryd
noncomputable abbrev pg : Program := Go.Proofs.Tryd.prog
@[go_sem] def order_Sort_r10 : List AO := [om 43 6,
 oo 44 (.load 45 none (.g 0)),
 oo 45 (.build 114 [.lit (.int .i64 0), .lit .nilIface] [(0, 0, 1, (.t 43)), (1, 1, 1, (.t 44))]),
 oo 46 (.box 114 2 (.t 45)),
 oo 47 (.mki 110 (.t 46)),
 oo 2 (.asg (.nl 1)),
 oo 3 (.asg (.t 47))]
def a26 : IC := (.seq (.reg [oo 32 (.bin .lss 3 0 (.t 31) (.t 30) 3)]) (.seq (.cond (.t 32) .skip (.exit 2)) (.seq (.block 3 (.seq (.reg [oo 33 (.iaddr 24 1 (.t 29) (.t 31)),
 oo 34 (.load 3 none (.t 33)),
 oo 9 (.asg (.t 34))]) (.seq (.seq (.reg [om 35 9,
 oo 36 (.bin .lss 3 0 (.t 35) (.n 0) 3),
 om 37 36,
 og 38 (.mv (.t 9)) 2 37 false,
 og 39 (.mv (.t 0)) 2 37 false,
 og 40 (.len 95 false (.t 39)) 2 37 false,
 og 41 (.bin .geq 3 0 (.t 38) (.t 40) 3) 2 37 false,
 oo 42 (.pick (.t 37) (.c (.bool true)) (.t 41))]) (.cond (.t 42) (.seq (.draw order_Sort_r10 [[], [], [0, 1], [2], [3], [], [4, 5, 0, 1, 2, 3, 4, 5]]) .ret) .skip)) (.seq (.reg [om 48 5,
 om 49 9,
 om 50 5,
 om 51 9,
 oo 52 (.iaddr 95 1 (.t 50) (.t 51)),
 oo 53 (.load 24 none (.t 52)),
 om 54 6,
 oo 55 (.bslice 24 3 1 1 [.lit (.int .i64 0)] [(0, (.t 54))]),
 oo 56 (.app 24 3 1 8 (.t 53) (.t 55)),
 oo 57 (.iaddr 95 1 (.t 48) (.t 49)),
 ov (.store 24 1 (.t 57) (.t 56))]) (.reg [om 58 4,
 om 59 6,
 oo 60 (.iaddr 24 1 (.t 58) (.t 59)),
 oo 61 (.load 3 none (.t 60)),
 oo 62 (.bin .add 3 0 (.t 61) (.n 1) 3),
 oo 63 (.iaddr 24 1 (.t 58) (.t 59)),
 ov (.store 3 1 (.t 63) (.t 62))]))))) (.reg [oo 64 (.bin .add 3 0 (.t 31) (.n 1) 3),
 om 31 64]))))
def a45 : IC := (.seq (.reg [oo 25 (.bin .lss 3 0 (.t 24) (.t 23) 3)]) (.seq (.cond (.t 25) .skip (.exit 0)) (.seq (.block 1 (.seq (.reg [om 26 24,
 oo 27 (.iaddr 95 1 (.t 22) (.t 24)),
 oo 28 (.load 24 none (.t 27)),
 oo 6 (.asg (.t 26)),
 oo 7 (.asg (.t 28))]) (.seq (.reg [om 29 7,
 oo 30 (.len 24 false (.t 29)),
 oo 31 (.mv (.n 0))]) (.block 2 (.loop a26))))) (.reg [oo 65 (.bin .add 3 0 (.t 24) (.n 1) 3),
 om 24 65]))))
def a46 : IC := (.seq (.reg [oo 98 (.bin .lss 3 0 (.t 97) (.t 96) 3)]) (.seq (.cond (.t 98) .skip (.exit 8)) (.seq (.block 9 (.seq (.reg [oo 99 (.iaddr 24 1 (.t 95) (.t 97)),
 oo 100 (.load 3 none (.t 99)),
 oo 14 (.asg (.t 100))]) (.reg [om 101 4,
 om 102 14,
 oo 103 (.iaddr 24 1 (.t 101) (.t 102)),
 oo 104 (.load 3 none (.t 103)),
 oo 105 (.bin .sub 3 0 (.t 104) (.n 1) 3),
 oo 106 (.iaddr 24 1 (.t 101) (.t 102)),
 ov (.store 3 1 (.t 106) (.t 105))]))) (.reg [oo 107 (.bin .add 3 0 (.t 97) (.n 1) 3),
 om 97 107]))))
def a27 : IC := (.seq (.reg [oo 72 (.bin .lss 3 0 (.t 71) (.t 70) 3)]) (.seq (.cond (.t 72) .skip (.exit 6)) (.seq (.block 7 (.seq (.reg [om 73 71,
 oo 12 (.asg (.t 73))]) (.seq (.seq (.reg [om 74 11,
 om 75 12,
 oo 76 (.iaddr 123 1 (.t 74) (.t 75)),
 oo 77 (.load 4 none (.t 76)),
 om 78 77,
 og 79 (.mv (.t 4)) 4 78 false,
 og 80 (.mv (.t 12)) 4 78 false,
 og 81 (.iaddr 24 1 (.t 79) (.t 80)) 4 78 false,
 og 82 (.load 3 none (.t 81)) 4 78 false,
 og 83 (.bin .gtr 3 0 (.t 82) (.n 0) 3) 4 78 false,
 oo 84 (.pick (.t 78) (.c (.bool true)) (.t 83))]) (.cond (.t 84) (.exit 7) .skip)) (.seq (.reg [om 85 11,
 om 86 12,
 oo 87 (.iaddr 123 1 (.t 85) (.t 86)),
 ov (.store 4 1 (.t 87) (.c (.bool true)))]) (.seq (.reg [om 88 10,
 om 89 12,
 oo 90 (.bslice 24 3 1 1 [.lit (.int .i64 0)] [(0, (.t 89))]),
 oo 91 (.app 24 3 1 8 (.t 88) (.t 90)),
 oo 10 (.asg (.t 91))]) (.seq (.seq (.reg [om 92 5,
 om 93 12,
 oo 94 (.iaddr 95 1 (.t 92) (.t 93)),
 oo 95 (.load 24 none (.t 94)),
 oo 96 (.len 24 false (.t 95)),
 oo 97 (.mv (.n 0))]) (.block 8 (.loop a46))) (.exit 5))))))) (.reg [oo 108 (.bin .add 3 0 (.t 71) (.n 1) 3),
 om 71 108]))))
def a65 : IC := (.block 5 (.seq (.seq (.reg [om 69 4,
 oo 70 (.len 24 false (.t 69)),
 oo 71 (.mv (.n 0))]) (.block 6 (.loop a27))) (.exit 4)))
def b1i : IC := (.seq (.reg [oo 2 (.asg (.nl 1)),
 oo 3 (.asg (.c .nilIface))]) (.scope (.seq (.reg [om 16 0,
 oo 17 (.len 95 false (.t 16)),
 oo 18 (.mks 24 3 1 8 [.lit (.int .i64 0)] (.t 17) (.t 17)),
 oo 4 (.asg (.t 18))]) (.seq (.reg [om 19 0,
 oo 20 (.len 95 false (.t 19)),
 oo 21 (.mks 95 24 1 24 [.own 1 0 []] (.t 20) (.t 20)),
 oo 5 (.asg (.t 21))]) (.seq (.seq (.reg [om 22 0,
 oo 23 (.len 95 false (.t 22)),
 oo 24 (.mv (.n 0))]) (.block 0 (.loop a45))) (.seq (.reg [oo 10 (.asg (.nl 1))]) (.seq (.reg [om 66 0,
 oo 67 (.len 95 false (.t 66)),
 oo 68 (.mks 123 4 1 1 [.lit (.bool false)] (.t 67) (.t 67)),
 oo 11 (.asg (.t 68))]) (.seq (.label 0) (.seq (.block 4 (.loop a65)) (.seq (.seq (.reg [om 109 11,
 oc 110 66 [(false, (.t 109)), (false, (.c (.bool false)))] [123, 4],
 oo 15 (.asg (.t 110))]) (.seq (.reg [om 111 15,
 oo 112 (.bin .geq 3 0 (.t 111) (.n 0) 3)]) (.cond (.t 112) (.seq (.draw [om 113 15,
 oo 114 (.load 45 none (.g 6)),
 oo 115 (.build 114 [.lit (.int .i64 0), .lit .nilIface] [(0, 0, 1, (.t 113)), (1, 1, 1, (.t 114))]),
 oo 116 (.box 114 2 (.t 115)),
 oo 117 (.mki 110 (.t 116)),
 oo 2 (.asg (.nl 1)),
 oo 3 (.asg (.t 117))] [[], [], [0, 1], [2], [3], [], [4, 5, 0, 1, 2, 3, 4, 5]]) .ret) .skip))) (.seq (.reg [om 118 10,
 oo 2 (.asg (.t 118)),
 oo 3 (.asg (.c .nilIface))]) .ret)))))))))))
abbrev b61 : Nat := 47
theorem b25 : fnC pg 47 119 [(.tmp 2), (.tmp 3)] b1i := a09 Go.Proofs.Tryd.f47 [(.tmp 2), (.tmp 3)] (by kernel_rfl)
@[go_sem] theorem c7k : fnB pg 47 = true := by kernel_rfl
def a5j : IC := (.seq (.reg [oo 4 (.asg (.n 0))]) (.seq (.reg [om 5 0,
 om 6 1,
 oo 7 (.bin .rem 3 0 (.t 5) (.t 6) 3),
 om 8 1,
 oo 9 (.bin .add 3 0 (.t 7) (.t 8) 3),
 om 10 1,
 oo 11 (.bin .rem 3 0 (.t 9) (.t 10) 3),
 oo 4 (.asg (.t 11))]) .ret))
abbrev a8z : Nat := 12
theorem a7i : fnC pg 12 12 [(.tmp 4)] a5j := a09 Go.Proofs.Tryd.f12 [(.tmp 4)] (by kernel_rfl)
@[go_sem] theorem b74 : fnB pg 12 = true := by kernel_rfl
def a19 : IC := (.seq (.reg [oo 9 (.bin .lss 3 0 (.t 8) (.t 7) 3)]) (.seq (.cond (.t 9) .skip (.exit 0)) (.seq (.block 1 (.seq (.reg [om 10 8,
 oo 5 (.asg (.t 10))]) (.seq (.reg [om 11 1,
 om 12 0,
 om 13 5,
 oo 14 (.iaddr 123 1 (.t 12) (.t 13)),
 oo 15 (.load 4 none (.t 14)),
 oo 16 (.bin .eql 4 1 (.t 11) (.t 15) 4)]) (.cond (.t 16) (.seq (.reg [om 17 5,
 oo 4 (.asg (.t 17))]) .ret) .skip)))) (.reg [oo 18 (.bin .add 3 0 (.t 8) (.n 1) 3),
 om 8 18]))))
def a5o : IC := (.seq (.reg [oo 4 (.asg (.n 0))]) (.seq (.seq (.reg [om 6 0,
 oo 7 (.len 123 false (.t 6)),
 oo 8 (.mv (.n 0))]) (.block 0 (.loop a19))) (.seq (.reg [oo 4 (.asg (.n (-1)))]) .ret)))
abbrev a81 : Nat := 66
theorem a7j : fnC pg 66 19 [(.tmp 4)] a5o := a09 Go.Proofs.Tryd.f66 [(.tmp 4)] (by kernel_rfl)
@[go_sem] theorem b81 : fnB pg 66 = true := by kernel_rfl
end Go.Ideal.Tryd
end
section
namespace Go.Ideal.Tryd
abbrev li (n : Int) : AV := .lit (.int .i64 n)
abbrev lb (b : Bool) : AV := .lit (.bool b)
abbrev f04 (k : Int) (p : Bool) (n : Int) : AV := .agg [li k, lb p, li n]
end Go.Ideal.Tryd
end
section
namespace Go.Ideal.Tryd
@[go_sem] abbrev c3w : Nat := 186
@[go_sem] abbrev f5c : Nat := 110
def cn (g : Nat) : Nat := [0, 7, 2, 3, 5, 9, 1, 6, 99, 10, 8, 4, 11, 12, 13, 14, 15, 16, 17, 18, 19, 20].getD g g
def gn (g : Nat) : Nat := [0, 6, 2, 3, 11, 4, 7, 1, 10, 5, 9, 12, 13, 14, 15, 16, 17, 18, 19, 20, 21].getD g g
@[go_sem] theorem g0x : cn 0 = 0 := (rfl)
@[go_sem] theorem g0y : cn 1 = 7 := (rfl)
@[go_sem] theorem g0z : cn 2 = 2 := (rfl)
@[go_sem] theorem g00 : cn 3 = 3 := (rfl)
@[go_sem] theorem g01 : cn 4 = 5 := (rfl)
@[go_sem] theorem g02 : cn 5 = 9 := (rfl)
@[go_sem] theorem g03 : cn 6 = 1 := (rfl)
@[go_sem] theorem g04 : cn 7 = 6 := (rfl)
@[go_sem] theorem g05 : cn 9 = 10 := (rfl)
@[go_sem] theorem f9h : cn 10 = 8 := (rfl)
@[go_sem] theorem f9i : cn 11 = 4 := (rfl)
@[go_sem] theorem f9j : cn 12 = 11 := (rfl)
@[go_sem] theorem f9k : cn 13 = 12 := (rfl)
@[go_sem] theorem f9l : cn 14 = 13 := (rfl)
@[go_sem] theorem f9m : cn 15 = 14 := (rfl)
@[go_sem] theorem f9n : cn 16 = 15 := (rfl)
@[go_sem] theorem f9o : cn 17 = 16 := (rfl)
@[go_sem] theorem f9p : cn 18 = 17 := (rfl)
@[go_sem] theorem f9q : cn 19 = 18 := (rfl)
@[go_sem] theorem f9r : cn 20 = 19 := (rfl)
@[go_sem] theorem f9s : cn 21 = 20 := (rfl)
structure Sent (G : GG) (bk : Nat -> Nat × Nat) : Prop where
 val : ∀ g, g < 22 /\ g ≠ 8 -> G g = some (.iface c3w (.pointer (some ⟨(bk (cn g)).1, (bk (cn g)).2, none⟩)))
 blk : ∀ g, g < 21 -> (G (bk g).1).isSome = true
 inj : ∀ g h, g < 21 -> h < 21 -> bk g = bk h -> g = h
structure Sent5 (G : GG) (bk : Nat -> Nat × Nat) : Prop where
 val : ∀ g, g = 2 \/ g = 3 \/ g = 4 \/ g = 7 \/ g = 11 -> G g = some (.iface c3w (.pointer (some ⟨(bk (cn g)).1, (bk (cn g)).2, none⟩)))
 blk : ∀ g, 2 <= g /\ g <= 6 -> (G (bk g).1).isSome = true
 inj : ∀ g h, 2 <= g /\ g <= 6 -> 2 <= h /\ h <= 6 -> bk g = bk h -> g = h
structure Sent3 (G : GG) (bk : Nat -> Nat × Nat) : Prop where
 val : ∀ g, g = 2 \/ g = 3 \/ g = 7 -> G g = some (.iface c3w (.pointer (some ⟨(bk (cn g)).1, (bk (cn g)).2, none⟩)))
theorem Sent5.three {G : GG} {bk : Nat -> Nat × Nat} (h : Sent5 G bk) : Sent3 G bk := ⟨fun g hg => h.val g (by omega)⟩
structure SentO (G : GG) (bk : Nat -> Nat × Nat) : Prop where
 val : ∀ g, g = 0 \/ g = 1 \/ g = 2 \/ g = 3 \/ g = 4 \/ g = 6 \/ g = 7 -> G g = some (.iface c3w (.pointer (some ⟨(bk (cn g)).1, (bk (cn g)).2, none⟩)))
theorem Sent.o {G : GG} {bk : Nat -> Nat × Nat} (h : Sent G bk) : SentO G bk := ⟨fun g hg => h.val g (by omega)⟩
theorem SentO.three {G : GG} {bk : Nat -> Nat × Nat} (h : SentO G bk) : Sent3 G bk := ⟨fun g hg => h.val g (by omega)⟩
instance {G : GG} {bk : Nat -> Nat × Nat} : Coe (Sent G bk) (SentO G bk) := ⟨Sent.o⟩
@[go_sem] abbrev sv (bk : Nat -> Nat × Nat) (g : Nat) : AV := .lit (.iface c3w (.pointer (some ⟨(bk g).1, (bk g).2, none⟩)))
def c6k : List Nat := [6, 3, 5, 2, 4, 7, 0, 8, 9, 10, 1, 11, 12, 13, 14, 15, 16, 17, 18, 19, 20]
end Go.Ideal.Tryd
end
section
namespace Go.Ideal.Tryd
abbrev slB (xs : List Bool) : AV := .sl xs.length (xs.map lb)
abbrev slI (xs : List Int) : AV := .sl xs.length (xs.map li)
abbrev owI (xs : List Int) : AV := .own 1 xs.length (xs.map li)
abbrev owB (xs : List Bool) : AV := .own 1 xs.length (xs.map lb)
abbrev a9e (xs : List (List Int)) : AV := .sl xs.length (xs.map slI)
abbrev b3y (xs : List (List Int)) : AV := .own 1 xs.length (xs.map owI)
attribute [go_sem] slB slI owI owB a9e b3y
@[go_sem] theorem a2c (xs : List Int) : a04 (xs.map li) = true := b0s fun x => by simp only [a0x]
@[go_sem] theorem e1x (xs : List Bool) : a04 (xs.map lb) = true := b0s fun x => by simp only [a0x]
@[go_sem] theorem e19 (xs : List Int) : a0n (xs.map li) = true := b0u fun x => by simp only [a0l]
@[go_sem] theorem e18 (xs : List Bool) : a0n (xs.map lb) = true := b0u fun x => by simp only [a0l]
def a2t (v : Bool) : List Bool -> Nat -> Int
 | [], _ => -1
 | x :: xs, i => if v = x then i else a2t v xs (i + 1)
theorem c0h {v : Bool} {bs : List Bool} {i k : Nat} (h : i < bs.length) : a2t v (bs.drop i) k = if v = bs[i] then (k : Int) else a2t v (bs.drop (i + 1)) (k + 1) := by
 rw [List.drop_eq_getElem_cons h]; rfl
theorem d2h (G : GG) (bs : List Bool) (v : Bool) (hlen : bs.length < 2 ^ 62) : ACalls pg G a81 [slB bs, lb v] (li (a2t v bs 0)) := by
 refine a7j rfl ?_
 simp (disch := omega) [go_sem, a5o]
 refine a06 Nat (fun i st => st.s 0 = slB bs /\ st.s 1 = lb v /\ st.s 7 = li bs.length /\ st.s 8 = li i /\ i <= bs.length /\ a2t v (bs.drop i) i = a2t v bs 0) (fun i => bs.length - i) 0 ?_ ?_
 ·simp (disch := omega) [go_sem]
 ·rintro i st K ⟨h0, h1, h7, h8, hi, hno⟩ hK
  by_cases hlt : i < bs.length
  ·rw [c0h hlt] at hno
   by_cases hv : v = bs[i]
   ·rw [if_pos hv] at hno
    simp (disch := omega) [go_sem, a19, h0, h1, h7, h8, hlt, <- hno, hv]
    rw [<- hv]; exact hno
   ·rw [if_neg hv] at hno
    simp (disch := omega) [go_sem, a19, h0, h1, h7, h8, hlt, hv]
    exact hK (i + 1) _ ⟨by simp [h0], by simp [h1], by simp [h7], by simp, by omega, hno⟩ (by omega)
  ·rw [List.drop_eq_nil_of_le (by omega)] at hno
   simp (disch := omega) [go_sem, a19, h0, h1, h7, h8, hlt, <- hno, a2t]
end Go.Ideal.Tryd
end
section
namespace Go.Ideal.Tryd
inductive Er where
 | nil
 | s (g : Nat)
 | at (p : Int) (e : Er)
def a0v (bk : Nat -> Nat × Nat) : Er -> AV
 | .nil => .lit .nilIface
 | .s g => sv bk g
 | .at p e => .ifc f5c (.ip [li p, a0v bk e] 0)
abbrev wr (n : Int) : Int := IntKind.i64.wrap n
def a1e (n i : Nat) : List Int -> List (List Int) -> List Int -> Option (List (List Int) × List Int)
 | [], u, l => some (u, l)
 | k :: ks, u, l => if k < 0 \/ (n : Int) <= k then none else a1e n i ks (u.set k.toNat (u[k.toNat]! ++ [(i : Int)])) (l.set i (wr (l[i]! + 1)))
def a6k (n : Nat) : List (List Int) -> Nat -> List (List Int) -> List Int -> Except Nat (List (List Int) × List Int)
 | [], _, u, l => .ok (u, l)
 | r :: rs, i, u, l => match a1e n i r u l with
  | none => .error i
  | some p => a6k n rs (i + 1) p.1 p.2
def inB (n : Nat) (u : List (List Int)) : Prop := ∀ r ∈ u, ∀ k ∈ r, 0 <= k /\ k < (n : Int)
theorem c5e {n : Nat} {u : List (List Int)} {k : Nat} {r : List Int} (h : inB n u) (hr : ∀ k ∈ r, 0 <= k /\ k < (n : Int)) : inB n (u.set k r) := by
 intro x hx
 rcases List.mem_or_eq_of_mem_set hx with hx | rfl
 ·exact h x hx
 ·exact hr
section
variable {G : GG} {bk : Nat -> Nat × Nat} {Q : Exit -> St -> Prop} {st : St}
theorem d3r (hS : SentO G bk) {ins u0 : List (List Int)} {l0 row : List Int} {i c0 : Nat} (hn : ins.length < 2 ^ 40) (hi : i < ins.length) (hc : c0 + row.length < 2 ^ 40)
  (h0 : st.s 0 = a9e ins) (h4 : st.s 4 = owI l0) (h5 : st.s 5 = b3y u0) (h6 : st.s 6 = li i) (h22 : st.s 22 = a9e ins) (h23 : st.s 23 = li ins.length) (h24 : st.s 24 = li i)
  (h29 : st.s 29 = slI row) (h30 : st.s 30 = li row.length) (h31 : st.s 31 = li 0) (hl : l0.length = ins.length) (hu : u0.length = ins.length) (hb : ∀ r ∈ u0, r.length <= c0) (hin : inB ins.length u0)
  (hex : ∀ u l s, a1e ins.length i row u0 l0 = some (u, l) -> l.length = ins.length -> u.length = ins.length -> (∀ r ∈ u, r.length <= c0 + row.length) -> inB ins.length u -> s.s 0 = a9e ins -> s.s 4 = owI l -> s.s 5 = b3y u -> s.s 22 = a9e ins -> s.s 23 = li ins.length -> s.s 24 = li i -> Q (.exit 2) s)
  (hret : a1e ins.length i row u0 l0 = none -> ∀ s, s.s 2 = .own 1 0 [] -> s.s 3 = a0v bk (.at i (.s 0)) -> Q .ret s) : AW pg G 119 (.loop a26) Q st := by
 refine a06 (Nat × List (List Int) × List Int) (fun p st => p.1 <= row.length /\ a1e ins.length i (row.drop p.1) p.2.1 p.2.2 = a1e ins.length i row u0 l0 /\ p.2.2.length = ins.length /\ p.2.1.length = ins.length /\ (∀ r ∈ p.2.1, r.length <= c0 + p.1) /\ inB ins.length p.2.1 /\
  st.s 0 = a9e ins /\ st.s 4 = owI p.2.2 /\ st.s 5 = b3y p.2.1 /\ st.s 6 = li i /\ st.s 22 = a9e ins /\ st.s 23 = li ins.length /\ st.s 24 = li i /\ st.s 29 = slI row /\ st.s 30 = li row.length /\ st.s 31 = li p.1) (fun p => row.length - p.1) (0, u0, l0) ?_ ?_
 ·exact ⟨by simp, by simp, hl, hu, by simpa using hb, hin, h0, h4, h5, h6, h22, h23, h24, h29, h30, h31⟩
 ·clear h0 h4 h5 h6 h22 h23 h24 h29 h30 h31 hl hu hb hin
  rintro ⟨j, u, l⟩ st K ⟨hj, ht, hl, hu, hb, hin, h0, h4, h5, h6, h22, h23, h24, h29, h30, h31⟩ hK
  simp only at hj ht hl hu hb hin h4 h5 h31
  by_cases hlt : j < row.length
  ·rw [List.drop_eq_getElem_cons hlt, a1e] at ht
   by_cases hk : row[j] < 0 \/ (ins.length : Int) <= row[j]
   ·rw [if_pos hk] at ht
    have key : ∀ (s : St) (Q' Q2 : Exit -> St -> Prop), s.s 6 = li i -> (∀ s, Q .ret s -> Q' .ret s) -> AW pg G 119 (.draw order_Sort_r10 [[], [], [0, 1], [2], [3], [], [4, 5, 0, 1, 2, 3, 4, 5]]) (b01 (AW pg G 119 .ret Q') Q2) s := by
     intro s Q' Q2 h6 hq
     refine a0b ?_
     simp (disch := omega) [go_sem, hS.val, h6]
     refine a0d (by decide) fun s2 hs he => ?_
     simp (disch := omega) [go_sem]
     exact hq _ (hret ht.symm _ (by simp (disch := omega) [go_sem, hs]) (by simp (disch := omega) [go_sem, hs, a0v]))
    by_cases hk1 : row[j] < 0
    ·simp (disch := omega) [go_sem, a26, h0, h6, h29, h30, h31, hlt, hk1]
     exact key _ _ _ (by simp (disch := omega) [go_sem, h6]) (fun s h => h)
    ·have hk2 : (ins.length : Int) <= row[j] := by omega
     simp (disch := omega) [go_sem, a26, h0, h6, h29, h30, h31, hlt, hk1, hk2]
     exact key _ _ _ (by simp (disch := omega) [go_sem, h6]) (fun s h => h)
   ·rw [if_neg hk] at ht
    have hk1 : 0 <= row[j] := by omega
    have hk2 : row[j] < ins.length := by omega
    have hk3 : row[j].toNat < u.length := by omega
    have hk4 : u[row[j].toNat].length <= c0 + j := hb _ (List.getElem_mem _)
    simp (disch := omega) [go_sem, a26, h0, h4, h5, h6, h22, h23, h24, h29, h30, h31, hlt, hk1, hk2]
    refine hK (j + 1, u.set row[j].toNat (u[row[j].toNat]! ++ [(i : Int)]), l.set i (wr (l[i]! + 1))) _ ⟨by simp only; omega, ht, by simpa using hl, by simpa using hu, fun r hr => ?_, c5e hin fun k hk => ?_, ?_⟩ (by simp only; omega)
    ·rcases List.mem_or_eq_of_mem_set hr with hr | rfl
     ·have := hb r hr; simp only; omega
     ·simp [hk3]; omega
    ·simp [hk3] at hk
     rcases hk with hk | rfl
     ·exact hin _ (List.getElem_mem _) k hk
     ·omega
    ·refine ⟨by simp (disch := omega) [go_sem, h0], ?_, ?_, by simp (disch := omega) [go_sem, h6], by simp (disch := omega) [go_sem, h22], by simp (disch := omega) [go_sem, h23], by simp (disch := omega) [go_sem, h24], by simp (disch := omega) [go_sem, h29], by simp (disch := omega) [go_sem, h30], by simp (disch := omega) [go_sem, h31]⟩
     ·simp (disch := omega) [go_sem, h4]
     ·simp (disch := omega) [go_sem, h5]
  ·rw [List.drop_eq_nil_of_le (by omega)] at ht
   simp (disch := omega) [go_sem, a26, h30, h31, hlt]
   obtain rfl : j = row.length := by omega
   exact hex u l _ ht.symm hl hu hb hin (by simp (disch := omega) [go_sem, h0]) (by simp (disch := omega) [go_sem, h4]) (by simp (disch := omega) [go_sem, h5]) (by simp (disch := omega) [go_sem, h22]) (by simp (disch := omega) [go_sem, h23]) (by simp (disch := omega) [go_sem, h24])
def tot (ins : List (List Int)) : Nat := (ins.map List.length).sum
theorem c2i {ins : List (List Int)} {i : Nat} (h : i < ins.length) : tot (ins.take (i + 1)) = tot (ins.take i) + ins[i].length /\ tot (ins.take (i + 1)) <= tot ins := by
 constructor
 ·simp only [tot]
  rw [List.take_succ_eq_append_getElem h, List.map_append, List.sum_append]
  simp
 ·have : tot ins = tot (ins.take (i + 1)) + tot (ins.drop (i + 1)) := by
   simp only [tot]
   rw [<- List.sum_append, <- List.map_append, List.take_append_drop]
  omega
theorem d3s (hS : SentO G bk) {ins u0 : List (List Int)} {l0 : List Int} (hn : ins.length < 2 ^ 40) (hc : tot ins < 2 ^ 40)
  (h0 : st.s 0 = a9e ins) (h4 : st.s 4 = owI l0) (h5 : st.s 5 = b3y u0) (h22 : st.s 22 = a9e ins) (h23 : st.s 23 = li ins.length) (h24 : st.s 24 = li 0) (hl : l0.length = ins.length) (hu : u0.length = ins.length) (hb : ∀ r ∈ u0, r.length <= 0) (hin : inB ins.length u0)
  (hex : ∀ u l s, a6k ins.length ins 0 u0 l0 = .ok (u, l) -> l.length = ins.length -> u.length = ins.length -> inB ins.length u -> (∀ r ∈ u, r.length < 2 ^ 40) -> s.s 0 = a9e ins -> s.s 4 = owI l -> s.s 5 = b3y u -> Q (.exit 0) s)
  (hret : ∀ i s, a6k ins.length ins 0 u0 l0 = .error i -> i < ins.length -> s.s 2 = .own 1 0 [] -> s.s 3 = a0v bk (.at i (.s 0)) -> Q .ret s) : AW pg G 119 (.loop a45) Q st := by
 refine a06 (Nat × List (List Int) × List Int) (fun p st => p.1 <= ins.length /\ a6k ins.length (ins.drop p.1) p.1 p.2.1 p.2.2 = a6k ins.length ins 0 u0 l0 /\ p.2.2.length = ins.length /\ p.2.1.length = ins.length /\ (∀ r ∈ p.2.1, r.length <= tot (ins.take p.1)) /\ inB ins.length p.2.1 /\
  st.s 0 = a9e ins /\ st.s 4 = owI p.2.2 /\ st.s 5 = b3y p.2.1 /\ st.s 22 = a9e ins /\ st.s 23 = li ins.length /\ st.s 24 = li p.1) (fun p => ins.length - p.1) (0, u0, l0) ?_ ?_
 ·exact ⟨by simp, by simp, hl, hu, by simpa [tot] using hb, hin, h0, h4, h5, h22, h23, h24⟩
 ·clear h0 h4 h5 h22 h23 h24 hl hu hb hin
  rintro ⟨i, u, l⟩ st K ⟨hi, ht, hl, hu, hb, hin, h0, h4, h5, h22, h23, h24⟩ hK
  simp only at hi ht hl hu hb hin h4 h5 h24
  by_cases hlt : i < ins.length
  ·rw [List.drop_eq_getElem_cons hlt, a6k] at ht
   obtain ⟨t1, t2⟩ := c2i hlt
   simp (disch := omega) [go_sem, a45, h22, h23, h24, hlt]
   refine d3r hS (ins := ins) (row := ins[i]) (i := i) (u0 := u) (l0 := l) (c0 := tot (ins.take i)) hn hlt (by omega) (by simp (disch := omega) [go_sem, h0]) (by simp (disch := omega) [go_sem, h4]) (by simp (disch := omega) [go_sem, h5]) (by simp (disch := omega) [go_sem]) (by simp (disch := omega) [go_sem, h22]) (by simp (disch := omega) [go_sem, h23]) (by simp (disch := omega) [go_sem, h24])
    (by simp (disch := omega) [go_sem]) (by simp (disch := omega) [go_sem]) (by simp (disch := omega) [go_sem]) hl hu hb hin ?_ ?_
   ·intro u2 l2 s e1 e2 e3 e4 e5 h0 h4 h5 h22 h23 h24
    rw [e1] at ht
    simp (disch := omega) [go_sem, h24]
    exact hK (i + 1, u2, l2) _ ⟨by simp only; omega, ht, e2, e3, by simp only; rw [t1]; exact e4, e5, by simp (disch := omega) [go_sem, h0], by simp (disch := omega) [go_sem, h4], by simp (disch := omega) [go_sem, h5], by simp (disch := omega) [go_sem, h22], by simp (disch := omega) [go_sem, h23], by simp (disch := omega) [go_sem, h24]⟩ (by simp only; omega)
   ·intro e1 s h2 h3
    rw [e1] at ht
    simp (disch := omega) [go_sem]
    exact hret i _ ht.symm hlt h2 h3
  ·obtain rfl : i = ins.length := by omega
   rw [List.drop_length, a6k] at ht
   simp (disch := omega) [go_sem, a45, h23, h24]
   refine hex u l _ ht.symm hl hu hin (fun r hr => ?_) (by simp (disch := omega) [go_sem, h0]) (by simp (disch := omega) [go_sem, h4]) (by simp (disch := omega) [go_sem, h5])
   have := hb r hr
   rw [List.take_length] at this
   omega
end
def c0u : List Int -> List Int -> List Int
 | [], l => l
 | k :: ks, l => c0u ks (l.set k.toNat (wr (l[k.toNat]! - 1)))
theorem b53 : ∀ (ks l : List Int), (c0u ks l).length = l.length
 | [], l => rfl
 | k :: ks, l => by rw [c0u, b53]; simp
def a6m : List Bool -> List Int -> Nat -> Option Nat
 | d :: ds, l :: ls, i => if d = true \/ 0 < l then a6m ds ls (i + 1) else some i
 | _, _, _ => none
theorem c3m {done : List Bool} {l : List Int} {i k : Nat} (h : i < done.length) (h2 : i < l.length) : a6m (done.drop i) (l.drop i) k = if done[i] = true \/ 0 < l[i] then a6m (done.drop (i + 1)) (l.drop (i + 1)) (k + 1) else some k := by
 rw [List.drop_eq_getElem_cons h, List.drop_eq_getElem_cons h2, a6m]
section
variable {G : GG} {Q : Exit -> St -> Prop} {st : St}
theorem d3t {ins u : List (List Int)} {l0 out : List Int} {done : List Bool} {i : Nat} (hi : i < u.length) (hl : l0.length = u.length) (hin : inB u.length u) (hb : u[i].length < 2 ^ 40)
  (h0 : st.s 0 = a9e ins) (h4 : st.s 4 = owI l0) (h5 : st.s 5 = b3y u) (h10 : st.s 10 = owI out) (h11 : st.s 11 = owB done) (h95 : st.s 95 = .bor 5 [i] 0 u[i].length (st.ep 5)) (h96 : st.s 96 = li u[i].length) (h97 : st.s 97 = li 0)
  (hex : ∀ s, s.s 0 = a9e ins -> s.s 4 = owI (c0u u[i] l0) -> s.s 5 = b3y u -> s.s 10 = owI out -> s.s 11 = owB done -> Q (.exit 8) s) : AW pg G 119 (.loop a46) Q st := by
 refine a06 (Nat × List Int) (fun p st => p.1 <= u[i].length /\ c0u (u[i].drop p.1) p.2 = c0u u[i] l0 /\ p.2.length = u.length /\ st.s 0 = a9e ins /\ st.s 4 = owI p.2 /\ st.s 5 = b3y u /\ st.s 10 = owI out /\ st.s 11 = owB done /\ st.s 95 = .bor 5 [i] 0 u[i].length (st.ep 5) /\ st.s 96 = li u[i].length /\ st.s 97 = li p.1) (fun p => u[i].length - p.1) (0, l0) ?_ ?_
 ·exact ⟨by simp, by simp, hl, h0, h4, h5, h10, h11, h95, h96, h97⟩
 ·clear h0 h4 h5 h10 h11 h95 h96 h97 hl
  rintro ⟨j, l⟩ st K ⟨hj, ht, hl, h0, h4, h5, h10, h11, h95, h96, h97⟩ hK
  simp only at hj ht hl h4 h97
  by_cases hlt : j < u[i].length
  ·rw [List.drop_eq_getElem_cons hlt, c0u] at ht
   obtain ⟨k1, k2⟩ := hin _ (List.getElem_mem hi) _ (List.getElem_mem hlt)
   have k3 : u[i][j].toNat < l.length := by omega
   simp (disch := omega) [go_sem, a46, h4, h5, h95, h96, h97, hlt, k1, k2]
   refine hK (j + 1, l.set u[i][j].toNat (wr (l[u[i][j].toNat]! - 1))) _ ⟨by simp only; omega, ht, by simpa using hl, by simp (disch := omega) [go_sem, h0], ?_, by simp (disch := omega) [go_sem, h5], by simp (disch := omega) [go_sem, h10], by simp (disch := omega) [go_sem, h11], by simp (disch := omega) [go_sem, h95], by simp (disch := omega) [go_sem, h96], by simp (disch := omega) [go_sem, h97]⟩ (by simp only; omega)
   simp (disch := omega) [go_sem, h4]
  ·rw [List.drop_eq_nil_of_le (by omega), c0u] at ht
   subst ht
   simp (disch := omega) [go_sem, a46, h96, h97, hlt]
   exact hex _ (by simp (disch := omega) [go_sem, h0]) (by simp (disch := omega) [go_sem, h4]) (by simp (disch := omega) [go_sem, h5]) (by simp (disch := omega) [go_sem, h10]) (by simp (disch := omega) [go_sem, h11])
theorem d3u {ins u : List (List Int)} {l out : List Int} {done : List Bool} {n : Nat} (hn : n < 2 ^ 40) (hl : l.length = n) (hu : u.length = n) (hd : done.length = n) (ho : out.length < 2 ^ 41) (hin : inB n u) (hb : ∀ r ∈ u, r.length < 2 ^ 40)
  (h0 : st.s 0 = a9e ins) (h4 : st.s 4 = owI l) (h5 : st.s 5 = b3y u) (h10 : st.s 10 = owI out) (h11 : st.s 11 = owB done) (h70 : st.s 70 = li n) (h71 : st.s 71 = li 0)
  (hex : a6m done l 0 = none -> ∀ s, s.s 0 = a9e ins -> s.s 4 = owI l -> s.s 5 = b3y u -> s.s 10 = owI out -> s.s 11 = owB done -> Q (.exit 6) s)
  (hf : ∀ k s, a6m done l 0 = some k -> k < n -> done[k]! = false -> s.s 0 = a9e ins -> s.s 4 = owI (c0u u[k]! l) -> s.s 5 = b3y u -> s.s 10 = owI (out ++ [(k : Int)]) -> s.s 11 = owB (done.set k true) -> Q (.exit 5) s) : AW pg G 119 (.loop a27) Q st := by
 refine a06 Nat (fun i st => i <= n /\ a6m (done.drop i) (l.drop i) i = a6m done l 0 /\ st.s 0 = a9e ins /\ st.s 4 = owI l /\ st.s 5 = b3y u /\ st.s 10 = owI out /\ st.s 11 = owB done /\ st.s 70 = li n /\ st.s 71 = li i) (fun i => n - i) 0 ?_ ?_
 ·exact ⟨by simp, by simp, h0, h4, h5, h10, h11, h70, h71⟩
 ·clear h0 h4 h5 h10 h11 h70 h71
  rintro i st K ⟨hi, ht, h0, h4, h5, h10, h11, h70, h71⟩ hK
  by_cases hlt : i < n
  ·have hlt1 : i < done.length := by omega
   have hlt2 : i < l.length := by omega
   have hlt3 : i < u.length := by omega
   rw [c3m hlt1 hlt2] at ht
   have next : (done[i] = true \/ 0 < l[i]) -> ∀ s, s.s 0 = a9e ins -> s.s 4 = owI l -> s.s 5 = b3y u -> s.s 10 = owI out -> s.s 11 = owB done -> s.s 70 = li n -> s.s 71 = li (i + 1) -> K s := fun hc s h0 h4 h5 h10 h11 h70 h71 => by
    rw [if_pos hc] at ht
    exact hK (i + 1) s ⟨by omega, ht, h0, h4, h5, h10, h11, h70, h71⟩ (by omega)
   by_cases hd1 : done[i] = true
   ·simp (disch := omega) [go_sem, a27, h4, h5, h10, h11, h70, h71, hlt, hd1]
    exact next (.inl hd1) _ (by simp (disch := omega) [go_sem, h0]) (by simp (disch := omega) [go_sem, h4]) (by simp (disch := omega) [go_sem, h5]) (by simp (disch := omega) [go_sem, h10]) (by simp (disch := omega) [go_sem, h11]) (by simp (disch := omega) [go_sem, h70]) (by simp (disch := omega) [go_sem])
   ·by_cases hl1 : 0 < l[i]
    ·simp (disch := omega) [go_sem, a27, h4, h5, h10, h11, h70, h71, hlt, hd1, hl1]
     exact next (.inr hl1) _ (by simp (disch := omega) [go_sem, h0]) (by simp (disch := omega) [go_sem, h4]) (by simp (disch := omega) [go_sem, h5]) (by simp (disch := omega) [go_sem, h10]) (by simp (disch := omega) [go_sem, h11]) (by simp (disch := omega) [go_sem, h70]) (by simp (disch := omega) [go_sem])
    ·rw [if_neg (by simp [hd1, hl1])] at ht
     simp (disch := omega) [go_sem, a27, h4, h5, h10, h11, h70, h71, hlt, hd1, hl1]
     refine d3t (ins := ins) (u := u) (l0 := l) (out := out ++ [(i : Int)]) (done := done.set i true) (i := i) hlt3 (by omega) (by rw [hu]; exact hin) (hb _ (List.getElem_mem _)) (by simp (disch := omega) [go_sem, h0]) (by simp (disch := omega) [go_sem, h4]) (by simp (disch := omega) [go_sem, h5]) (by simp (disch := omega) [go_sem, h10]) (by simp (disch := omega) [go_sem, h11]) (by simp (disch := omega) [go_sem]) (by simp (disch := omega) [go_sem]) (by simp (disch := omega) [go_sem]) ?_
     intro s h0 h4 h5 h10 h11
     simp (disch := omega) [go_sem]
     exact hf i _ ht.symm hlt (by simpa [hlt1] using hd1) h0 (by simpa [hlt3] using h4) h5 h10 h11
  ·obtain rfl : i = n := by omega
   rw [List.drop_eq_nil_of_le (by omega), a6m] at ht
   ·simp (disch := omega) [go_sem, a27, h70, h71]
    exact hex ht.symm _ (by simp (disch := omega) [go_sem, h0]) (by simp (disch := omega) [go_sem, h4]) (by simp (disch := omega) [go_sem, h5]) (by simp (disch := omega) [go_sem, h10]) (by simp (disch := omega) [go_sem, h11])
   ·intros; simp_all
def a6l (u : List (List Int)) : Nat -> List Bool -> List Int -> List Int -> List Bool × List Int
 | 0, done, _, out => (done, out)
 | f + 1, done, l, out => match a6m done l 0 with
  | none => (done, out)
  | some i => a6l u f (done.set i true) (c0u u[i]! l) (out ++ [(i : Int)])
theorem b54 : ∀ {done : List Bool} {l : List Int} {k i : Nat}, a6m done l k = some i -> k <= i /\ ∃ h : i - k < done.length, done[i - k] = false
 | [], l, k, i, h => by cases l <;> simp [a6m] at h
 | d :: ds, [], k, i, h => by simp [a6m] at h
 | d :: ds, l :: ls, k, i, h => by
  simp only [a6m] at h
  split at h
  ·obtain ⟨h1, h2, h3⟩ := b54 h
   refine ⟨by omega, ?_⟩
   have e : i - k = (i - (k + 1)) + 1 := by omega
   simp only [e, List.length_cons, List.getElem_cons_succ]
   exact ⟨by omega, h3⟩
  ·rename_i hc
   injection h with h
   subst h
   simp at hc
   simp [hc.1]
theorem b8g {done : List Bool} {l : List Int} {i : Nat} (h : a6m done l 0 = some i) : (done.set i true).count false + 1 = done.count false := by
 obtain ⟨_, h2, h3⟩ := b54 h
 simp only [Nat.sub_zero] at h2 h3
 have e : done = done.take i ++ false :: done.drop (i + 1) := by
  conv => lhs; rw [<- List.take_append_drop i done, List.drop_eq_getElem_cons h2, h3]
 have e2 : done.set i true = done.take i ++ true :: done.drop (i + 1) := by
  rw [List.set_eq_take_append_cons_drop, if_pos h2]
 rw [e2]
 conv => rhs; rw [e]
 simp
 omega
theorem d3v {ins u : List (List Int)} {l0 out0 : List Int} {done0 : List Bool} {n f0 : Nat} (hn : n < 2 ^ 40) (hu : u.length = n) (hin : inB n u) (hb : ∀ r ∈ u, r.length < 2 ^ 40) (hl : l0.length = n) (hd : done0.length = n) (hc : done0.count false + out0.length = n) (hf : done0.count false <= f0)
  (h0 : st.s 0 = a9e ins) (h4 : st.s 4 = owI l0) (h5 : st.s 5 = b3y u) (h10 : st.s 10 = owI out0) (h11 : st.s 11 = owB done0)
  (hex : ∀ s, (a6l u f0 done0 l0 out0).1.length = n -> (a6l u f0 done0 l0 out0).2.length <= n -> s.s 10 = owI (a6l u f0 done0 l0 out0).2 -> s.s 11 = owB (a6l u f0 done0 l0 out0).1 -> Q (.exit 4) s) : AW pg G 119 (.loop a65) Q st := by
 refine a06 (Nat × List Bool × List Int × List Int) (fun p st => p.2.1.count false <= p.1 /\ a6l u p.1 p.2.1 p.2.2.1 p.2.2.2 = a6l u f0 done0 l0 out0 /\ p.2.1.length = n /\ p.2.2.1.length = n /\ p.2.1.count false + p.2.2.2.length = n /\
  st.s 0 = a9e ins /\ st.s 4 = owI p.2.2.1 /\ st.s 5 = b3y u /\ st.s 10 = owI p.2.2.2 /\ st.s 11 = owB p.2.1) (fun p => p.1) (f0, done0, l0, out0) ?_ ?_
 ·exact ⟨hf, rfl, hd, hl, hc, h0, h4, h5, h10, h11⟩
 ·clear h0 h4 h5 h10 h11 hf hd hl hc
  rintro ⟨f, done, l, out⟩ st K ⟨hf, ht, hd, hl, hc, h0, h4, h5, h10, h11⟩ hK
  simp only at hf ht hd hl hc h4 h10 h11
  simp (disch := omega) [go_sem, a65, h4]
  refine d3u (ins := ins) (u := u) (l := l) (out := out) (done := done) (n := n) hn hl hu hd (by omega) hin hb (by simp (disch := omega) [go_sem, h0]) (by simp (disch := omega) [go_sem, h4]) (by simp (disch := omega) [go_sem, h5]) (by simp (disch := omega) [go_sem, h10]) (by simp (disch := omega) [go_sem, h11]) (by simp (disch := omega) [go_sem, hl]) (by simp (disch := omega) [go_sem]) ?_ ?_
  ·intro hp s h0 h4 h5 h10 h11
   have e : a6l u f0 done0 l0 out0 = (done, out) := by
    rw [<- ht]; cases f <;> simp [a6l, hp]
   simp (disch := omega) [go_sem]
   exact hex _ (by rw [e]; exact hd) (by rw [e]; simp only; omega) (by rw [e]; exact h10) (by rw [e]; exact h11)
  ·intro k s hp hk hdk h0 h4 h5 h10 h11
   have hcnt := b8g hp
   obtain ⟨f', rfl⟩ : ∃ f', f = f' + 1 := ⟨f - 1, by omega⟩
   rw [a6l, hp] at ht
   simp (disch := omega) [go_sem]
   exact hK (f', done.set k true, c0u u[k]! l, out ++ [(k : Int)]) _ ⟨by simp only; omega, ht, by simpa using hd, by simp only [b53]; exact hl, by simp only [List.length_append, List.length_cons, List.length_nil]; omega, h0, h4, h5, h10, h11⟩ (by simp only; omega)
end
def a7x (ins : List (List Int)) : Except (Int × Nat) (List Int) :=
 match a6k ins.length ins 0 (List.replicate ins.length []) (List.replicate ins.length 0) with
 | .error i => .error (i, 0)
 | .ok p =>
  if 0 <= a2t false (a6l p.1 ins.length (List.replicate ins.length false) p.2 []).1 0 then .error (a2t false (a6l p.1 ins.length (List.replicate ins.length false) p.2 []).1 0, 1)
  else .ok (a6l p.1 ins.length (List.replicate ins.length false) p.2 []).2
def c8c (bk : Nat -> Nat × Nat) : Except (Int × Nat) (List Int) -> AV
 | .error e => .tup [.own 1 0 [], a0v bk (.at e.1 (.s e.2))]
 | .ok out => .tup [owI out, .lit .nilIface]
theorem e4g {G : GG} {bk : Nat -> Nat × Nat} (hS : SentO G bk) (ins : List (List Int)) (hn : ins.length < 2 ^ 40) (hc : tot ins < 2 ^ 40) : ACalls pg G b61 [a9e ins] (c8c bk (a7x ins)) := by
 refine b25 rfl ?_
 simp (disch := omega) [go_sem, b1i]
 refine d3s hS (ins := ins) (u0 := List.replicate ins.length []) (l0 := List.replicate ins.length 0) hn hc (by simp (disch := omega) [go_sem]) (by simp (disch := omega) [go_sem]) (by simp (disch := omega) [go_sem]) (by simp (disch := omega) [go_sem]) (by simp (disch := omega) [go_sem]) (by simp (disch := omega) [go_sem]) (by simp) (by simp)
  (fun r hr => by rw [List.eq_of_mem_replicate hr]; simp) (fun r hr => by rw [List.eq_of_mem_replicate hr]; simp) ?_ ?_
 ·intro u l s hfill hl hu hin hb h0 h4 h5
  simp (disch := omega) [go_sem, h0]
  refine d3v (ins := ins) (u := u) (l0 := l) (out0 := []) (done0 := List.replicate ins.length false) (n := ins.length) (f0 := ins.length) hn hu hin hb hl (by simp) (by simp) (by simp) (by simp (disch := omega) [go_sem, h0]) (by simp (disch := omega) [go_sem, h4]) (by simp (disch := omega) [go_sem, h5]) (by simp (disch := omega) [go_sem]) (by simp (disch := omega) [go_sem]) ?_
  generalize hp : a6l u ins.length (List.replicate ins.length false) l [] = p
  intro s hd ho h10 h11
  simp (disch := omega) [go_sem, h11]
  refine a0j (d2h G p.1 false (by omega)) rfl rfl ?_
  have hres : a7x ins = if 0 <= a2t false p.1 0 then .error (a2t false p.1 0, 1) else .ok p.2 := by
   simp only [a7x, hfill, hp]
  by_cases hk : 0 <= a2t false p.1 0
  ·rw [if_pos hk] at hres
   simp (disch := omega) [go_sem, hk]
   refine a0b ?_
   simp (disch := omega) [go_sem, hS.val]
   refine a0d (by decide) fun s2 hs he => ?_
   simp (disch := omega) [go_sem, hs, hres, c8c, a0v]
  ·rw [if_neg hk] at hres
   simp (disch := omega) [go_sem, hk, h10, hres, c8c]
 ·intro i s hfill hi h2 h3
  have hres : a7x ins = .error (i, 0) := by simp only [a7x, hfill]
  simp (disch := omega) [go_sem, h2, h3, hres, c8c, a0v]
end Go.Ideal.Tryd
end
section
namespace Go.Ideal.Tryd
section
variable {G : GG} {bk : Nat -> Nat × Nat}
def c1m (g : Nat) : List Nat -> Nat -> Int
 | [], _ => -1
 | h :: hs, i => if g = h then 101 + i else c1m g hs (i + 1)
def d8r (g : Nat) : Int := c1m g c6k 0
abbrev fl (x : Int × Bool × Int) : AV := f04 x.1 x.2.1 x.2.2
inductive Er.ok : Er -> Prop
 | nil : Er.ok .nil
 | s {g : Nat} (h : g < 21) : Er.ok (.s g)
 | at {p : Int} {g : Nat} (h : g < 21) : Er.ok (.at p (.s g))
theorem c4x (e : Er) : a0r (a0v bk e) = true /\ a0l (a0v bk e) = true := by
 cases e <;> simp [a0v, a0r, a0l]
end
end Go.Ideal.Tryd
end
section
namespace Go.Ideal.Tryd
section
variable {G : GG} {bk : Nat -> Nat}
end
end Go.Ideal.Tryd
end
section
namespace Go.Ideal.Tryd
def c67 (n : Nat) (k : Int) : Bool := decide (k < 0) || decide ((n : Int) <= k)
def c3q (n : Nat) : List (List Int) -> Nat -> Option Nat
 | [], _ => none
 | r :: rs, k => if r.any (c67 n) then some k else c3q n rs (k + 1)
def a47 (done : List Bool) : List (List Int) -> Nat -> Int -> Int × Int
 | [], _, f => (-1, f)
 | r :: rs, k, f => if done[k]! then a47 done rs (k + 1) f else
  if r.all (fun x => done[x.toNat]!) then (k, if f < 0 then k else f) else a47 done rs (k + 1) (if f < 0 then k else f)
def a9a (ins : List (List Int)) : Nat -> List Bool -> List Int -> Except Int (List Int)
 | 0, _, out => .ok out
 | f + 1, done, out => if (a47 done ins 0 (-1)).1 < 0 then .error (a47 done ins 0 (-1)).2 else a9a ins f (done.set (a47 done ins 0 (-1)).1.toNat true) (out ++ [(a47 done ins 0 (-1)).1])
def c03 (ins : List (List Int)) : List Int × (Int × Bool × Int) := match c3q ins.length ins 0 with
 | some k => ([], (107, true, k))
 | none => match a9a ins ins.length (List.replicate ins.length false) [] with
  | .error f => ([], (111, true, f))
  | .ok out => (out, (0, false, 0))
section
variable {G : GG} {bk : Nat -> Nat × Nat} {Q : Exit -> St -> Prop} {st : St}
theorem b3d {done : List Bool} : ∀ {rs : List (List Int)} {k : Nat} {f : Int}, (a47 done rs k f).1 = -1 \/ ((k : Int) <= (a47 done rs k f).1 /\ (a47 done rs k f).1 < k + rs.length)
 | [], k, f => by simp [a47]
 | r :: rs, k, f => by
  simp only [a47, List.length_cons]
  split
  ·rcases b3d (done := done) (rs := rs) (k := k + 1) (f := f) with h | h
   ·exact .inl h
   ·exact .inr (by omega)
  ·split
   ·exact .inr (by simp only; omega)
   ·rcases b3d (done := done) (rs := rs) (k := k + 1) (f := if f < 0 then k else f) with h | h
    ·exact .inl h
    ·exact .inr (by omega)
theorem b3c {n : Nat} : ∀ {rs : List (List Int)} {k : Nat}, c3q n rs k = none -> inB n rs
 | [], k, h => fun r hr => by simp at hr
 | r :: rs, k, h => by
  simp only [c3q] at h
  split at h
  ·cases h
  ·rename_i hb
   intro x hx
   rcases List.mem_cons.1 hx with rfl | hx
   ·intro y hy
    have : c67 n y = false := by
     simp only [List.any_eq_true, not_exists, not_and, Bool.not_eq_true] at hb
     exact hb y hy
    simp [c67] at this
    omega
   ·exact b3c h x hx
end
end Go.Ideal.Tryd
end
section
namespace Go.Ideal.Tryd
theorem get!_set {α : Type} [Inhabited α] {l : List α} {i k : Nat} {v : α} (hi : i < l.length) : (l.set i v)[k]! = if k = i then v else l[k]! := by
 by_cases h : k = i
 ·subst h; simp [hi]
 ·simp only [h, if_false]
  by_cases hk : k < l.length
  ·simp [hk, Ne.symm h, List.getElem_set]
  ·simp [hk]
theorem get!_rep {α : Type} [Inhabited α] {n k : Nat} {v : α} (h : k < n) : (List.replicate n v)[k]! = v := by simp [h]
theorem get!_drop {α : Type} [Inhabited α] {l : List α} {i : Nat} (h : i < l.length) : l.drop i = l[i]! :: l.drop (i + 1) := by
 rw [List.drop_eq_getElem_cons h]; simp [h]
theorem a7t {n i : Nat} : ∀ {row : List Int} {u : List (List Int)} {l : List Int}, a1e n i row u l = none ↔ row.any (c67 n) = true
 | [], u, l => by simp [a1e]
 | k :: ks, u, l => by
  rw [a1e, List.any_cons]
  by_cases hb : k < 0 \/ (n : Int) <= k
  ·rw [if_pos hb]
   have : c67 n k = true := by simp only [c67, Bool.or_eq_true, decide_eq_true_eq]; exact hb
   simp [this]
  ·rw [if_neg hb, a7t]
   have : c67 n k = false := by simp only [c67, Bool.or_eq_false_iff, decide_eq_false_iff_not]; omega
   simp [this]
theorem c1t {n : Nat} : ∀ {rs : List (List Int)} {i : Nat} {u : List (List Int)} {l : List Int}, (∀ k, c3q n rs i = some k -> a6k n rs i u l = .error k) /\ (c3q n rs i = none -> ∃ p, a6k n rs i u l = .ok p)
 | [], i, u, l => ⟨fun k h => by simp [c3q] at h, fun _ => ⟨_, rfl⟩⟩
 | r :: rs, i, u, l => by
  rw [c3q, a6k]
  by_cases hb : r.any (c67 n) = true
  ·rw [if_pos hb, a7t.2 hb]
   exact ⟨fun k h => by injection h with h; rw [h], fun h => by cases h⟩
  ·rw [if_neg hb]
   cases hf : a1e n i r u l with
   | none => exact absurd (a7t.1 hf) hb
   | some p => exact c1t
theorem b2g {n i : Nat} (hi : i < n) : ∀ {row : List Int} {u u' : List (List Int)} {l l' : List Int}, a1e n i row u l = some (u', l') -> u.length = n -> l.length = n -> 0 <= l[i]! -> l[i]! + row.length < 2 ^ 62 ->
  u'.length = n /\ l'.length = n /\ (∀ k, k < n -> ∀ j : Int, (u'[k]!).count j = (u[k]!).count j + if j = i then row.count (k : Int) else 0) /\ ∀ k, k < n -> l'[k]! = l[k]! + if k = i then (row.length : Int) else 0
 | [], u, u', l, l', h, hu, hl, h0, h1 => by
  simp only [a1e, Option.some.injEq, Prod.mk.injEq] at h
  obtain ⟨rfl, rfl⟩ := h
  exact ⟨hu, hl, fun k hk j => by simp, fun k hk => by simp⟩
 | x :: xs, u, u', l, l', h, hu, hl, h0, h1 => by
  rw [a1e] at h
  split at h
  ·cases h
  ·rename_i hb
   simp only [List.length_cons] at h1
   have hw : wr (l[i]! + 1) = l[i]! + 1 := a78 (by omega)
   rw [hw] at h
   have hx : x.toNat < u.length := by omega
   have hli : (l.set i (l[i]! + 1))[i]! = l[i]! + 1 := by rw [get!_set (by omega)]; simp
   obtain ⟨g1, g2, g3, g4⟩ := b2g hi h (by simpa using hu) (by simpa using hl) (by rw [hli]; omega) (by rw [hli]; omega)
   refine ⟨g1, g2, fun k hk j => ?_, fun k hk => ?_⟩
   ·rw [g3 k hk j, get!_set hx]
    by_cases hkx : k = x.toNat
    ·subst hkx
     have : (x.toNat : Int) = x := by omega
     simp only [if_true, List.count_append, this, List.count_cons, List.count_nil]
     by_cases hj : j = i
     ·subst hj; simp; omega
     ·have : ¬ ((i : Int) = j) := fun h => hj h.symm
      simp [hj, this]
    ·have : ¬ (x = (k : Int)) := by omega
     simp only [hkx, if_false, List.count_cons, beq_iff_eq, this, Nat.add_zero]
   ·rw [g4 k hk, get!_set (by omega)]
    by_cases hki : k = i
    ·subst hki; simp; omega
    ·simp [hki]
theorem c1u {n : Nat} : ∀ {rs : List (List Int)} {i : Nat} {u u' : List (List Int)} {l l' : List Int}, a6k n rs i u l = .ok (u', l') -> i + rs.length = n -> u.length = n -> l.length = n -> (∀ k, k < n -> 0 <= l[k]!) -> (∀ k, k < n -> i <= k -> l[k]! = 0) -> (∀ r ∈ rs, r.length < 2 ^ 61) ->
  (∀ k, k < n -> ∀ j : Nat, j < n -> (u'[k]!).count (j : Int) = (u[k]!).count (j : Int) + if i <= j then (rs[j - i]!).count (k : Int) else 0) /\ ∀ k, k < n -> l'[k]! = l[k]! + if i <= k then ((rs[k - i]!).length : Int) else 0
 | [], i, u, u', l, l', h, hi, hu, hl, h0, h1, hr => by
  simp only [a6k, Except.ok.injEq, Prod.mk.injEq] at h
  obtain ⟨rfl, rfl⟩ := h
  simp only [List.length_nil, Nat.add_zero] at hi
  subst hi
  exact ⟨fun k hk j hj => by rw [if_neg (by omega)]; rfl, fun k hk => by rw [if_neg (by omega)]; simp⟩
 | r :: rs, i, u, u', l, l', h, hi, hu, hl, h0, h1, hr => by
  rw [a6k] at h
  simp only [List.length_cons] at hi
  have hin : i < n := by omega
  cases hf : a1e n i r u l with
  | none => rw [hf] at h; cases h
  | some p =>
   obtain ⟨u1, l1⟩ := p
   rw [hf] at h
   simp only at h
   have hrl := hr r (by simp)
   obtain ⟨g1, g2, g3, g4⟩ := b2g hin hf hu hl (h0 i hin) (by rw [h1 i hin (Nat.le_refl _)]; omega)
   obtain ⟨k1, k2⟩ := c1u h (by omega) g1 g2 (fun k hk => by rw [g4 k hk]; have := h0 k hk; split <;> omega) (fun k hk hik => by rw [g4 k hk, if_neg (by omega), h1 k hk (by omega)]; rfl) (fun x hx => hr x (by simp [hx]))
   refine ⟨fun k hk j hj => ?_, fun k hk => ?_⟩
   ·rw [k1 k hk j hj, g3 k hk]
    rcases Nat.lt_trichotomy j i with hji | hji | hji
    ·rw [if_neg (by omega), if_neg (by omega), if_neg (by omega)]
    ·subst hji; rw [if_pos rfl, if_neg (by omega), if_pos (Nat.le_refl _)]; simp
    ·have e : j - i = (j - (i + 1)) + 1 := by omega
     rw [if_neg (by omega), if_pos (by omega), if_pos (by omega), e]
     simp
   ·rw [k2 k hk, g4 k hk]
    rcases Nat.lt_trichotomy k i with hji | hji | hji
    ·rw [if_neg (by omega), if_neg (by omega), if_neg (by omega)]; omega
    ·subst hji; rw [if_pos rfl, if_neg (by omega), if_pos (Nat.le_refl _)]; simp
    ·have e : k - i = (k - (i + 1)) + 1 := by omega
     rw [if_neg (by omega), if_pos (by omega), if_pos (by omega), e]
     simp
theorem c4q {n : Nat} : ∀ {ks l : List Int}, l.length = n -> (∀ k ∈ ks, 0 <= k /\ k < (n : Int)) -> (∀ k, k < n -> (ks.count (k : Int) : Int) <= l[k]! /\ l[k]! < 2 ^ 62) -> ∀ k, k < n -> (c0u ks l)[k]! = l[k]! - ks.count (k : Int)
 | [], l, hl, hk, hb, k, hkn => by simp [c0u]
 | x :: xs, l, hl, hk, hb, k, hkn => by
  obtain ⟨h1, h2⟩ := hk x (by simp)
  have hx : x.toNat < l.length := by omega
  have e : (x.toNat : Int) = x := by omega
  have hbx := hb x.toNat (by omega)
  rw [e] at hbx
  simp only [List.count_cons_self] at hbx
  have hw : wr (l[x.toNat]! - 1) = l[x.toNat]! - 1 := a78 (by omega)
  rw [c0u, hw, c4q (n := n) (by simpa using hl) (fun k hk' => hk k (by simp [hk'])) (fun k hkn => ?_) k hkn, get!_set hx]
  ·by_cases hkx : k = x.toNat
   ·subst hkx; rw [if_pos rfl, e, List.count_cons_self]; omega
   ·have : ¬ (x = (k : Int)) := by omega
    simp only [hkx, if_false, List.count_cons, beq_iff_eq, this, Nat.add_zero]
  ·rw [get!_set hx]
   have := hb k hkn
   by_cases hkx : k = x.toNat
   ·subst hkx; rw [e] at this ⊢; rw [if_pos rfl]; simp only [List.count_cons_self] at this; omega
   ·have hne : ¬ (x = (k : Int)) := by omega
    simp only [hkx, if_false]
    simp only [List.count_cons, beq_iff_eq, hne, if_false, Nat.add_zero] at this
    exact this
def cnt (done : List Bool) (row : List Int) : Nat := row.countP fun x => !done[x.toNat]!
theorem c4k {done : List Bool} {i : Nat} (hi : i < done.length) (hd : done[i]! = false) : ∀ {row : List Int}, (∀ x ∈ row, 0 <= x /\ x < (done.length : Int)) -> cnt (done.set i true) row + row.count (i : Int) = cnt done row
 | [], _ => by simp [cnt]
 | x :: xs, h => by
  have ih := c4k hi hd (row := xs) (fun y hy => h y (by simp [hy]))
  simp only [cnt] at ih ⊢
  rw [List.countP_cons, List.countP_cons, List.count_cons, get!_set hi]
  have := (h x (by simp)).1
  by_cases hx : x.toNat = i
  ·have : x = (i : Int) := by omega
   subst this
   simp [hd] at ih ⊢
   omega
  ·have : ¬ (x = (i : Int)) := by omega
   simp only [hx, if_false, beq_iff_eq, this, Nat.add_zero]
   omega
theorem c1l {done : List Bool} {row : List Int} : cnt done row = 0 ↔ row.all (fun x => done[x.toNat]!) = true := by
 simp only [cnt, List.countP_eq_zero, List.all_eq_true, Bool.not_eq_true', Bool.not_eq_false]
structure J (ins u : List (List Int)) (done : List Bool) (left : List Int) : Prop where
 hd : done.length = ins.length
 hl : left.length = ins.length
 left : ∀ k, k < ins.length -> left[k]! = cnt done ins[k]!
structure U (ins u : List (List Int)) : Prop where
 inb : inB ins.length ins
 len : ∀ r ∈ ins, r.length < 2 ^ 61
 cnt : ∀ k, k < ins.length -> ∀ j, j < ins.length -> (u[k]!).count (j : Int) = (ins[j]!).count (k : Int)
 ub : ∀ k, k < ins.length -> ∀ x ∈ u[k]!, 0 <= x /\ x < (ins.length : Int)
theorem d8q {done : List Bool} {row : List Int} : cnt done row <= row.length := List.countP_le_length
theorem J.step {ins u : List (List Int)} {done : List Bool} {left : List Int} (hU : U ins u) (h : J ins u done left) {i : Nat} (hi : i < ins.length) (hdi : done[i]! = false) : J ins u (done.set i true) (c0u u[i]! left) where
 hd := by simpa using h.hd
 hl := by rw [b53]; exact h.hl
 left k hk := by
  have hrow : ∀ k, k < ins.length -> ins[k]! ∈ ins := fun k hk => by simp [hk]
  have hset : ∀ k, k < ins.length -> cnt (done.set i true) ins[k]! + (ins[k]!).count (i : Int) = cnt done ins[k]! := fun k hk => c4k (by rw [h.hd]; exact hi) hdi (fun x hx => by rw [h.hd]; exact hU.inb _ (hrow k hk) x hx)
  rw [c4q h.hl (hU.ub i hi) (fun k hk => ?_) k hk, h.left k hk, hU.cnt i hi k hk]
  ·have := hset k hk
   omega
  ·rw [h.left k hk, hU.cnt i hi k hk]
   have := hset k hk
   have h2 := d8q (done := done) (row := ins[k]!)
   have h3 := hU.len _ (hrow k hk)
   omega
theorem b29 {ins u : List (List Int)} {done : List Bool} {left : List Int} (hJ : J ins u done left) : ∀ (m i : Nat) (f : Int), i + m = ins.length ->
  (∀ k, a6m (done.drop i) (left.drop i) i = some k -> (a47 done (ins.drop i) i f).1 = k) /\ (a6m (done.drop i) (left.drop i) i = none -> a47 done (ins.drop i) i f = (-1, if f < 0 /\ 0 <= a2t false (done.drop i) i then a2t false (done.drop i) i else f))
 | 0, i, f, h => by
  have h1 := hJ.hd
  have h2 := hJ.hl
  have d1 : done.drop i = [] := List.drop_eq_nil_of_le (by omega)
  have d2 : left.drop i = [] := List.drop_eq_nil_of_le (by omega)
  have d3 : ins.drop i = [] := List.drop_eq_nil_of_le (by omega)
  rw [d1, d2, d3]
  simp [a6m, a47, a2t]
 | m + 1, i, f, h => by
  have h1 := hJ.hd
  have h2 := hJ.hl
  have hi : i < ins.length := by omega
  have e1 : done.drop i = done[i]! :: done.drop (i + 1) := get!_drop (by omega)
  have e2 : left.drop i = left[i]! :: left.drop (i + 1) := get!_drop (by omega)
  have e3 : ins.drop i = ins[i]! :: ins.drop (i + 1) := get!_drop hi
  have e4 : a2t false (done[i]! :: done.drop (i + 1)) i = if false = done[i]! then (i : Int) else a2t false (done.drop (i + 1)) (i + 1) := rfl
  rw [e1, e2, e3, e4, a6m, a47]
  by_cases hd : done[i]! = true
  ·rw [if_pos (.inl hd), if_pos hd, if_neg (show ¬ false = done[i]! by rw [hd]; simp)]
   exact b29 hJ m (i + 1) f (by omega)
  ·have hd' : done[i]! = false := by simpa using hd
   have hdi : false = done[i]! := hd'.symm
   rw [if_neg hd, if_pos hdi]
   have hl := hJ.left i hi
   by_cases hc : cnt done ins[i]! = 0
   ·rw [if_neg (by rintro (h | h); exact hd h; rw [hl, hc] at h; simp at h), if_pos (c1l.1 hc)]
    exact ⟨fun k hk => by injection hk with hk; subst hk; rfl, fun hk => by cases hk⟩
   ·rw [if_pos (.inr (by rw [hl]; omega)), if_neg (fun h => hc (c1l.2 h))]
    obtain ⟨g1, g2⟩ := b29 hJ m (i + 1) (if f < 0 then (i : Int) else f) (by omega)
    refine ⟨g1, fun hk => ?_⟩
    rw [g2 hk]
    congr 1
    by_cases hf : f < 0
    ·rw [if_pos hf, if_neg (by omega), if_pos ⟨hf, by omega⟩]
    ·rw [if_neg hf, if_neg (by omega), if_neg (by omega)]
theorem a84 : ∀ {l : List Bool} {i : Nat}, (l.count false = 0 ↔ a2t false l i = -1) /\ (l.count false ≠ 0 -> 0 <= a2t false l i)
 | [], i => by simp [a2t]
 | b :: l, i => by
  rw [a2t]
  cases b with
  | false => rw [if_pos rfl]; simp
  | true => rw [if_neg (by simp)]; simpa using a84 (l := l) (i := i + 1)
theorem b78 {ins u : List (List Int)} (hU : U ins u) : ∀ (f : Nat) {done : List Bool} {left out : List Int}, J ins u done left -> done.count false = f ->
  a9a ins f done out = if 0 <= a2t false (a6l u f done left out).1 0 then .error (a2t false (a6l u f done left out).1 0) else .ok (a6l u f done left out).2
 | 0, done, left, out, hJ, hc => by
  rw [a9a, a6l]
  simp only
  rw [(a84 (l := done) (i := 0)).1.1 hc]
  simp
 | f + 1, done, left, out, hJ, hc => by
  obtain ⟨g1, g2⟩ := b29 hJ ins.length 0 (-1) (by omega)
  simp only [List.drop_zero] at g1 g2
  have hidx := (a84 (l := done) (i := 0)).2 (by omega)
  rw [a9a, a6l]
  cases hp : a6m done left 0 with
  | none =>
   rw [g2 hp]
   simp [hidx]
  | some i =>
   obtain ⟨_, hi, hdi⟩ := b54 hp
   simp only [Nat.sub_zero] at hi hdi
   have hcnt := b8g hp
   rw [g1 i hp, if_neg (by omega)]
   simp only [Int.toNat_natCast]
   have hin : i < ins.length := by rw [<- hJ.hd]; exact hi
   exact b78 hU f (hJ.step hU hin (by simpa [hi] using hdi)) (by omega)
theorem a85 {n i : Nat} : ∀ {row : List Int} {u u' : List (List Int)} {l l' : List Int}, a1e n i row u l = some (u', l') -> u'.length = u.length /\ l'.length = l.length
 | [], u, u', l, l', h => by
  simp only [a1e, Option.some.injEq, Prod.mk.injEq] at h
  obtain ⟨rfl, rfl⟩ := h
  exact ⟨rfl, rfl⟩
 | x :: xs, u, u', l, l', h => by
  rw [a1e] at h
  split at h
  ·cases h
  ·obtain ⟨h1, h2⟩ := a85 h
   exact ⟨by simpa using h1, by simpa using h2⟩
theorem b5s {n : Nat} : ∀ {rs : List (List Int)} {i : Nat} {u u' : List (List Int)} {l l' : List Int}, a6k n rs i u l = .ok (u', l') -> u.length = n -> l.length = n -> u'.length = n /\ l'.length = n
 | [], i, u, u', l, l', h, hu, hl => by
  simp only [a6k, Except.ok.injEq, Prod.mk.injEq] at h
  obtain ⟨rfl, rfl⟩ := h
  exact ⟨hu, hl⟩
 | r :: rs, i, u, u', l, l', h, hu, hl => by
  rw [a6k] at h
  cases hf : a1e n i r u l with
  | none => rw [hf] at h; cases h
  | some p =>
   rw [hf] at h
   obtain ⟨h1, h2⟩ := a85 hf
   exact b5s h (h1.trans hu) (h2.trans hl)
theorem b4j {n i : Nat} (hi : i < n) : ∀ {row : List Int} {u u' : List (List Int)} {l l' : List Int}, a1e n i row u l = some (u', l') -> inB n u -> inB n u'
 | [], u, u', l, l', h, hu => by
  simp only [a1e, Option.some.injEq, Prod.mk.injEq] at h
  obtain ⟨rfl, rfl⟩ := h
  exact hu
 | x :: xs, u, u', l, l', h, hu => by
  rw [a1e] at h
  split at h
  ·cases h
  ·refine b4j hi h (c5e hu fun k hk => ?_)
   rcases List.mem_append.1 hk with hk | hk
   ·by_cases hx : x.toNat < u.length
    ·simp [hx] at hk; exact hu _ (List.getElem_mem hx) k hk
    ·simp [hx] at hk
     have e : (default : List Int) = [] := rfl
     rw [e] at hk
     simp at hk
   ·simp at hk; omega
theorem c43 {n : Nat} : ∀ {rs : List (List Int)} {i : Nat} {u u' : List (List Int)} {l l' : List Int}, a6k n rs i u l = .ok (u', l') -> i + rs.length = n -> u.length = n -> l.length = n -> inB n u -> inB n u'
 | [], i, u, u', l, l', h, hi, hu, hl, hin => by
  simp only [a6k, Except.ok.injEq, Prod.mk.injEq] at h
  obtain ⟨rfl, rfl⟩ := h
  exact hin
 | r :: rs, i, u, u', l, l', h, hi, hu, hl, hin => by
  rw [a6k] at h
  simp only [List.length_cons] at hi
  cases hf : a1e n i r u l with
  | none => rw [hf] at h; cases h
  | some p =>
   rw [hf] at h
   obtain ⟨h1, h2⟩ := a85 hf
   exact c43 h (by omega) (h1.trans hu) (h2.trans hl) (b4j (by omega) hf hin)
theorem b00 {ins : List (List Int)} (hr : ∀ r ∈ ins, r.length < 2 ^ 61) : (∀ i g, a7x ins = .error (i, g) -> c03 ins = ([], (d8r g, true, i)) /\ g < 21) /\ (∀ out, a7x ins = .ok out -> c03 ins = (out, (0, false, 0))) := by
 unfold a7x c03
 obtain ⟨b1, b2⟩ := c1t (n := ins.length) (rs := ins) (i := 0) (u := List.replicate ins.length []) (l := List.replicate ins.length 0)
 cases hb : c3q ins.length ins 0 with
 | some k =>
  rw [b1 k hb]
  refine ⟨fun i g h => ?_, fun out h => by cases h⟩
  simp only [Except.error.injEq, Prod.mk.injEq] at h
  obtain ⟨rfl, rfl⟩ := h
  exact ⟨rfl, by omega⟩
 | none =>
  obtain ⟨⟨u, l⟩, hp⟩ := b2 hb
  rw [hp]
  have hin := b3c hb
  obtain ⟨c1, c2⟩ := c1u hp (by simp) (by simp) (by simp) (fun k hk => by rw [get!_rep hk]; omega) (fun k hk _ => get!_rep hk) hr
  have hU : U ins u := {
   inb := hin, len := hr
   cnt := fun k hk j hj => by rw [c1 k hk j hj, get!_rep hk]; simp
   ub := fun k hk x hx => c43 hp (by simp) (by simp) (by simp) (fun r hr => by rw [List.eq_of_mem_replicate hr]; simp) _ (by
    have := (b5s hp (by simp) (by simp)).1
    simp [this, hk]) x hx }
  have hJ : J ins u (List.replicate ins.length false) l := {
   hd := by simp, hl := (b5s hp (by simp) (by simp)).2
   left := fun k hk => by
    rw [c2 k hk, get!_rep hk]
    simp only [Nat.zero_le, if_true, Nat.sub_zero, Int.zero_add, cnt]
    congr 1
    symm
    rw [List.countP_eq_length]
    intro x hx
    have := hin _ (show ins[k]! ∈ ins by simp [hk]) x hx
    rw [get!_rep (by omega)]; rfl }
  have := b78 hU ins.length (out := []) hJ (by simp)
  simp only at this ⊢
  rw [this]
  by_cases h0 : 0 <= a2t false (a6l u ins.length (List.replicate ins.length false) l []).1 0
  ·rw [if_pos h0, if_pos h0]
   refine ⟨fun i g h => ?_, fun out h => by cases h⟩
   simp only [Except.error.injEq, Prod.mk.injEq] at h
   obtain ⟨rfl, rfl⟩ := h
   exact ⟨rfl, by omega⟩
  ·rw [if_neg h0, if_neg h0]
   refine ⟨fun i g h => (by cases h), fun out h => ?_⟩
   simp only [Except.ok.injEq] at h
   subst h
   rfl
end Go.Ideal.Tryd
end
section
namespace Go.Ideal.Tryd
structure Ordered (ins : List (List Int)) (done : List Bool) (out : List Int) : Prop where
 hd : done.length = ins.length
 nd : out.Nodup
 mem : ∀ x, x < ins.length -> (done[x]! = true ↔ (x : Int) ∈ out)
 rng : ∀ x ∈ out, 0 <= x /\ x < (ins.length : Int)
 beh : ∀ p, p < out.length -> ∀ y ∈ ins[(out[p]!).toNat]!, y ∈ out.take p
theorem b3i {ins : List (List Int)} {done : List Bool} : ∀ {rs : List (List Int)} {k : Nat} {f : Int}, ins.drop k = rs -> 0 <= (a47 done rs k f).1 -> done[(a47 done rs k f).1.toNat]! = false /\ ins[(a47 done rs k f).1.toNat]!.all (fun x => done[x.toNat]!) = true
 | [], k, f, h, h0 => by simp [a47] at h0
 | r :: rs, k, f, h, h0 => by
  have hk : k < ins.length := by
   by_cases hk : k < ins.length
   ·exact hk
   ·rw [List.drop_eq_nil_of_le (by omega)] at h; cases h
  rw [get!_drop hk] at h
  injection h with h1 h2
  rw [a47] at h0 ⊢
  split at h0
  ·rename_i hd
   rw [if_pos hd]
   exact b3i h2 h0
  ·rename_i hd
   rw [if_neg hd]
   split at h0
   ·rename_i ha
    rw [if_pos ha]
    simp only [Int.toNat_natCast]
    rw [h1]
    exact ⟨by simpa using hd, ha⟩
   ·rename_i ha
    rw [if_neg ha]
    exact b3i h2 h0
theorem a91 {ins : List (List Int)} (hin : inB ins.length ins) : ∀ (f : Nat) {done : List Bool} {out res : List Int}, Ordered ins done out -> done.count false = f -> a9a ins f done out = .ok res ->
  res.Nodup /\ (∀ x, x < ins.length -> (x : Int) ∈ res) /\ (∀ x ∈ res, 0 <= x /\ x < (ins.length : Int)) /\ ∀ p, p < res.length -> ∀ y ∈ ins[(res[p]!).toNat]!, y ∈ res.take p
 | 0, done, out, res, h, hc, hl => by
  simp only [a9a, Except.ok.injEq] at hl
  subst hl
  refine ⟨h.nd, fun x hx => (h.mem x hx).1 ?_, h.rng, h.beh⟩
  rw [List.count_eq_zero] at hc
  have hxd : x < done.length := by rw [h.hd]; exact hx
  simp only [hxd, getElem!_pos]
  cases hv : done[x] with
  | true => rfl
  | false => exact absurd (by rw [<- hv]; exact List.getElem_mem hxd) hc
 | f + 1, done, out, res, h, hc, hl => by
  rw [a9a] at hl
  split at hl
  ·cases hl
  ·rename_i hnx
   obtain ⟨g1, g2⟩ := b3i (ins := ins) (done := done) (rs := ins) (k := 0) (f := -1) rfl (by omega)
   have hrng := b3d (done := done) (rs := ins) (k := 0) (f := -1)
   generalize (a47 done ins 0 (-1)).1 = nx at hl g1 g2 hnx hrng
   have hn : nx.toNat < ins.length := by omega
   have hnd : nx.toNat < done.length := by rw [h.hd]; exact hn
   have e : (nx.toNat : Int) = nx := by omega
   have hni : nx ∉ out := fun hm => by
    rw [<- e] at hm
    rw [(h.mem _ hn).2 hm] at g1
    cases g1
   refine a91 hin f (done := done.set nx.toNat true) (out := out ++ [nx]) ?_ ?_ hl
   ·refine ⟨by simpa using h.hd, ?_, fun x hx => ?_, fun x hx => ?_, fun p hp y hy => ?_⟩
    ·rw [List.nodup_append]
     exact ⟨h.nd, by simp, fun a ha b hb hab => by simp at hb; subst hb; subst hab; exact hni ha⟩
    ·rw [get!_set hnd]
     by_cases hxn : x = nx.toNat
     ·subst hxn; simp [e]
     ·rw [if_neg hxn, h.mem x hx]
      simp only [List.mem_append, List.mem_cons, List.not_mem_nil, or_false]
      exact ⟨.inl, fun hh => hh.elim id fun hh => absurd (by omega) hxn⟩
    ·rcases List.mem_append.1 hx with hx | hx
     ·exact h.rng x hx
     ·simp at hx; omega
    ·rw [List.length_append] at hp
     simp only [List.length_cons, List.length_nil] at hp
     by_cases hpo : p < out.length
     ·have e1 : (out ++ [nx])[p]! = out[p]! := by simp [hpo, List.getElem?_append_left]
      rw [e1] at hy
      rw [List.take_append_of_le_length (by omega)]
      exact h.beh p hpo y hy
     ·have hpe : p = out.length := by omega
      subst hpe
      have e1 : (out ++ [nx])[out.length]! = nx := by simp
      rw [e1] at hy
      rw [List.take_left]
      rw [List.all_eq_true] at g2
      have hy2 := g2 y hy
      have hyr := hin _ (show ins[nx.toNat]! ∈ ins by simp [hn]) y hy
      have := (h.mem y.toNat (by omega)).1 hy2
      rwa [show (y.toNat : Int) = y by omega] at this
   ·have hc2 : (done.set nx.toNat true).count false + 1 = done.count false := by
     have e2 : done = done.take nx.toNat ++ false :: done.drop (nx.toNat + 1) := by
      conv => lhs; rw [<- List.take_append_drop nx.toNat done, get!_drop hnd, g1]
     have e3 : done.set nx.toNat true = done.take nx.toNat ++ true :: done.drop (nx.toNat + 1) := by
      rw [List.set_eq_take_append_cons_drop, if_pos hnd]
     rw [e3]
     conv => rhs; rw [e2]
     simp
     omega
    omega
theorem a9y {ins : List (List Int)} (hr : ∀ r ∈ ins, r.length < 2 ^ 61) {out : List Int} (h : a7x ins = .ok out) :
  out.Nodup /\ (∀ x, x < ins.length -> (x : Int) ∈ out) /\ (∀ x ∈ out, 0 <= x /\ x < (ins.length : Int)) /\ (∀ p, p < out.length -> ∀ y ∈ ins[(out[p]!).toNat]!, y ∈ out.take p) /\ inB ins.length ins := by
 have h2 := (b00 hr).2 out h
 unfold c03 at h2
 cases hb : c3q ins.length ins 0 with
 | some k => rw [hb] at h2; simp at h2
 | none =>
  rw [hb] at h2
  simp only at h2
  have hin := b3c hb
  cases hl : a9a ins ins.length (List.replicate ins.length false) [] with
  | error f => rw [hl] at h2; simp at h2
  | ok out2 =>
   rw [hl] at h2
   simp only [Prod.mk.injEq, and_true] at h2
   subst h2
   obtain ⟨a, b, c, d⟩ := a91 hin ins.length (done := List.replicate ins.length false) (out := []) ⟨by simp, by simp, fun x hx => by rw [get!_rep hx]; simp, fun x hx => by simp at hx, fun p hp => by simp at hp⟩ (by simp) hl
   exact ⟨a, b, c, d, hin⟩
theorem b8s {ins : List (List Int)} : ∀ (f : Nat) {done : List Bool} {out res : List Int}, a9a ins f done out = .ok res -> res.length = out.length + f
 | 0, done, out, res, h => by
  simp only [a9a, Except.ok.injEq] at h
  rw [h]; rfl
 | f + 1, done, out, res, h => by
  rw [a9a] at h
  split at h
  ·cases h
  ·have := b8s f h
   simp only [List.length_append, List.length_cons, List.length_nil] at this
   omega
theorem b8k {ins : List (List Int)} (hr : ∀ r ∈ ins, r.length < 2 ^ 61) {out : List Int} (h : a7x ins = .ok out) : out.length = ins.length := by
 have h2 := (b00 hr).2 out h
 unfold c03 at h2
 cases hb : c3q ins.length ins 0 with
 | some k => rw [hb] at h2; simp at h2
 | none =>
  rw [hb] at h2
  simp only at h2
  cases hl : a9a ins ins.length (List.replicate ins.length false) [] with
  | error f => rw [hl] at h2; simp at h2
  | ok out2 =>
   rw [hl] at h2
   simp only [Prod.mk.injEq, and_true] at h2
   subst h2
   have := b8s _ hl
   simpa using this
end Go.Ideal.Tryd
end
section
namespace Go.Ideal.Tryd
section
variable {G : GG} {bk : Nat -> Nat × Nat} {Q : Exit -> St -> Prop} {st : St}
end
end Go.Ideal.Tryd
end
section
namespace Go.Ideal
open Go.ChangeShapes Go.RowKit Classical
section
variable {H : Type} {e : TypeId × Value -> H} {P : Program} {w : World}
def Rd (e : TypeId × Value -> H) (P : Program) (w : World) (T : Type) (t : TypeId) (enc : T -> List AV) (ok : T -> Prop) : Prop :=
 ∀ (fuel : Nat) (cs : List Value) (d : DataW H) (ps : List MemPlace), DataW.trod e P w 0 (fun _ => true) true fuel t cs = some (d, ps) -> (d.weights P t).all (· <= reachBytes) = true -> ∃ x, ok x /\ RL w (fun b => b < w.heap.size) (enc x) noQ noB cs /\ C1 cs
theorem a9k {M : BS} {k : AV} {v : Value} (h : R w M k noQ noB v) : RL w M [k] noQ noB [v] := by
 simp only [RL]
 exact ⟨v, [], rfl, noB, noB, fun _ h => h, fun _ h => h, fun _ h => h.elim, h, rfl⟩
theorem Rd.int {t : TypeId} (ht : P.underlying t = some (.int .i64)) : Rd e P w Int t (fun n => [.lit (.int .i64 n)]) (fun n => -9223372036854775808 <= n /\ n <= 9223372036854775807) := by
 intro fuel cs d ps h hw
 obtain ⟨n, rfl, h1, h2⟩ := DataW.trod_int ht h
 refine ⟨n, ?_, a9k (by simp only [R]), fun u hu => by simp at hu; subst hu; rfl⟩
 simp only [Lit.wf, decide_eq_true_eq, Bool.and_eq_true] at h2
 first | exact h2 | (obtain ⟨a, b⟩ := h2; simp [IntKind.wrap_i64] at *; omega)
theorem Rd.bool {t : TypeId} (ht : P.underlying t = some .bool) : Rd e P w Bool t (fun n => [.lit (.bool n)]) (fun _ => True) := by
 intro fuel cs d ps h hw
 obtain ⟨n, rfl, h1⟩ := DataW.trod_bool ht h
 exact ⟨n, trivial, a9k (by simp only [R]), fun u hu => by simp at hu; subst hu; rfl⟩
theorem a8y {u : TypeId} {p : Nat -> Bool} : ∀ {ds : List (DataW H)}, (DataW.weightsAll P u ds).all p = true -> ∀ d ∈ ds, (d.weights P u).all p = true
 | [], _, d, hd => by simp at hd
 | x :: xs, h, d, hd => by
  simp only [DataW.weightsAll, List.all_append, Bool.and_eq_true] at h
  rcases List.mem_cons.1 hd with rfl | hd
  ·exact h.1
  ·exact a8y h.2 d hd
theorem cells?_cell {a : Addr} {n : Nat} {cs : List Value} (h : w.cells? 0 a n = some cs) : cs.length = n /\ ∀ i u, cs[i]? = some u -> w.cell? (a.add i) = some u := by
 unfold World.cells? at h
 rw [if_pos (Nat.zero_le _)] at h
 have key : ∀ (l : List Nat) (r : List Value), l.mapM (fun i => w.cell? (a.add i)) = some r -> r.length = l.length /\ ∀ (i j : Nat) (u : Value), l[i]? = some j -> r[i]? = some u -> w.cell? (a.add j) = some u := by
  intro l
  induction l with
  | nil => intro r h; simp at h; subst h; exact ⟨rfl, fun i j u hi => by simp at hi⟩
  | cons x l ih =>
   intro r h
   simp only [List.mapM_cons, Option.bind_eq_bind, Option.pure_def, Option.bind_eq_some_iff, Option.some.injEq] at h
   obtain ⟨y, hy, ys, hys, rfl⟩ := h
   obtain ⟨h1, h2⟩ := ih ys hys
   refine ⟨by simp [h1], fun i j u hi hu => ?_⟩
   cases i with
   | zero => simp at hi hu; subst hi; subst hu; exact hy
   | succ i => exact h2 i j u (by simpa using hi) (by simpa using hu)
 obtain ⟨h1, h2⟩ := key _ _ h
 refine ⟨by simpa using h1, fun i u hu => h2 i i u ?_ hu⟩
 have : i < cs.length := (List.getElem?_eq_some_iff.1 hu).1
 rw [h1] at this
 simp at this
 simp [this]
theorem b69 (a : Addr) : a.add 0 = a := by simp [Addr.add]
theorem c7s (b o i : Nat) : (⟨b, o, none⟩ : Addr).add i = ⟨b, o + i, none⟩ := by
 simp only [Addr.add]; split
 ·subst_vars; rfl
 ·rfl
theorem d03 (a : Addr) (m i : Nat) : (a.add m).add i = a.add (m + i) := by
 obtain ⟨b, o, s⟩ := a
 simp only [Addr.add]
 by_cases h1 : m = 0
 ·subst h1; simp
 ·by_cases h2 : i = 0
  ·subst h2; simp [h1]
  ·simp [h1, h2, Nat.add_assoc]
theorem Rd.slice {t u : TypeId} {T : Type} {enc : T -> List AV} {ok : T -> Prop} (ht : P.underlying t = some (.slice u)) (hb : 0 < P.bytesOf u) (h : Rd e P w T u enc ok) (hlen : ∀ x, (enc x).length = P.cellsOf u) :
  Rd e P w (List T) t (fun xs => [.sl xs.length (xs.flatMap enc)]) (fun xs => xs.length <= reachBytes /\ ∀ x ∈ xs, ok x) := by
 intro fuel cs d ps hd hw
 rcases DataW.trod_slice ht hd with ⟨rfl, _⟩ | ⟨a, len, cap, elems, rest, n, _, rfl, hx, _, hlc, _, hel, hi, _⟩
 ·refine ⟨[], ⟨by simp [reachBytes], fun x hx => by simp at hx⟩, a9k ?_, fun u hu => by simp at hu; subst hu; rfl⟩
  simp only [R, RL, List.flatMap_nil, List.length_nil]
  exact ⟨none, 0, rfl, Nat.le_refl _, [], fun _ h => by simp at h, rfl, .inl rfl⟩
 ·simp only [Prod.mk.injEq] at hx
  obtain ⟨rfl, _⟩ := hx
  simp only [DataW.weights, ht, List.all_cons, List.all_append, Bool.and_eq_true, decide_eq_true_eq, List.length_map] at hw
  obtain ⟨w1, w2, _⟩ := hw
  have hm : ∀ m, m <= len -> ∃ xs : List T, xs.length = m /\ (∀ x ∈ xs, ok x) /\ ∃ vs, vs.length = m * P.cellsOf u /\ RL w (fun b => b < w.heap.size) (xs.flatMap enc) noQ noB vs /\ C1 vs /\ ∀ i v, vs[i]? = some v -> w.cell? (a.add i) = some v := by
   intro m
   induction m with
   | zero => intro _; exact ⟨[], rfl, fun x hx => by simp at hx, [], by simp, by simp [RL], fun _ h => by simp at h, fun i v hv => by simp at hv⟩
   | succ m ih =>
    intro hml
    obtain ⟨xs, l1, ok1, vs, l2, r1, c1, cell1⟩ := ih (by omega)
    have hmi := hi m (by omega)
    have hme : elems[m]? = some elems[m] := by simp [show m < elems.length by omega]
    rw [hme] at hmi
    cases hc : w.cells? 0 (a.add (m * P.cellsOf u)) (P.cellsOf u) with
    | none => rw [hc] at hmi; cases hmi
    | some cs =>
     rw [hc] at hmi
     simp only [Option.bind_some] at hmi
     obtain ⟨x, okx, rx, cx⟩ := h n cs elems[m].1 elems[m].2 hmi (a8y w2 _ (List.mem_map.2 ⟨_, List.getElem_mem _, rfl⟩))
     obtain ⟨g1, g2⟩ := cells?_cell hc
     refine ⟨xs ++ [x], by simp [l1], fun y hy => ?_, vs ++ cs, by rw [List.length_append, l2, g1, Nat.add_mul, Nat.one_mul], ?_, fun y hy => ?_, fun i v hv => ?_⟩
     ·rcases List.mem_append.1 hy with hy | hy
      ·exact ok1 y hy
      ·simp at hy; subst hy; exact okx
     ·rw [List.flatMap_append]
      simp only [List.flatMap_cons, List.flatMap_nil, List.append_nil]
      exact a2a (fun b hb => hb.elim (fun h => h) fun h => h) (a1y r1 rx fun b hb => hb.elim)
     ·rcases List.mem_append.1 hy with hy | hy
      ·exact c1 y hy
      ·exact cx y hy
     ·by_cases hiv : i < vs.length
      ·rw [List.getElem?_append_left hiv] at hv
       exact cell1 i v hv
      ·rw [List.getElem?_append_right (by omega)] at hv
       have := g2 _ v hv
       have e : (a.add (m * P.cellsOf u)).add (i - vs.length) = a.add i := by
        rw [d03]
        congr 1
        rw [l2] at hiv ⊢
        omega
       rw [e] at this
       exact this
  obtain ⟨xs, l1, ok1, vs, l2, r1, c1, cell1⟩ := hm len (Nat.le_refl _)
  refine ⟨xs, ⟨?_, ok1⟩, a9k ?_, fun y hy => by simp at hy; subst hy; rfl⟩
  ·rw [l1, <- hel]
   have : elems.length <= (elems.length + rest.length) * P.bytesOf u := by
    calc elems.length <= elems.length + rest.length := Nat.le_add_right _ _
     _ = (elems.length + rest.length) * 1 := (Nat.mul_one _).symm
     _ <= _ := Nat.mul_le_mul_left _ hb
   omega
  ·simp only [R]
   refine ⟨some a, cap, by rw [l1], by omega, vs, c1, r1, ?_⟩
   cases vs with
   | nil => exact .inl rfl
   | cons v0 vs' =>
    have h0 := cell1 0 v0 rfl
    obtain ⟨b, o, sp⟩ := a
    have hsp : sp = none := by
     cases sp with
     | none => rfl
     | some s => rw [b69] at h0; simp [World.cell?] at h0; split at h0 <;> cases h0
    subst hsp
    refine .inr ⟨b, o, rfl, ?_, fun i u hu => ?_⟩
    ·by_cases hbs : b < w.heap.size
     ·exact hbs
     ·rw [b69] at h0
      simp only [World.cell?] at h0
      rw [show w.heap[b]? = none by simp; omega] at h0
      cases h0
    ·have := cell1 i u hu
     rw [c7s] at this
     exact this
theorem Rd.slice1 {t u : TypeId} {T : Type} {enc : T -> AV} {ok : T -> Prop} (ht : P.underlying t = some (.slice u)) (hb : 0 < P.bytesOf u) (hc : P.cellsOf u = 1) (h : Rd e P w T u (fun x => [enc x]) ok) :
  Rd e P w (List T) t (fun xs => [.sl xs.length (xs.map enc)]) (fun xs => xs.length <= reachBytes /\ ∀ x ∈ xs, ok x) := by
 have := Rd.slice ht hb h (fun x => by simp [hc])
 intro fuel cs d ps h1 h2
 obtain ⟨x, a, b, c⟩ := this fuel cs d ps h1 h2
 refine ⟨x, a, ?_, c⟩
 have e1 : ∀ l : List T, l.flatMap (fun x => [enc x]) = l.map enc := fun l => by induction l <;> simp_all
 simp only [e1] at b
 exact b
end
theorem b7x {P : Program} {G : GG} {f : FuncId} {W : World} {args : Array Value} {pre : List AV} (hA : ACalls P G f pre (.lit (.bool true))) (hsz : args.size = pre.length) (hG : ∀ g v, G.at g v -> GC G W g v /\ g < W.heap.size)
  (hpre : ∀ i av, pre[i]? = some av -> R W (fun b => b < W.heap.size) av noQ noB (args.getD i undef)) : Calls P f args W (fun e W' => e = .returned (.bool true) /\ Below W.heap.size W W') := by
 refine (hA W args (fun b => b < W.heap.size) (fun _ => none) hsz (fun b hb => ⟨hb, rfl⟩) (fun b i hb => by cases hb) (fun g v hg => ⟨(hG g v hg).1, (hG g v hg).2, rfl⟩) (fun i av hi => ?_)).mono ?_
 ·exact a13 (fun b hb => hb.elim) (hpre i av hi)
 ·rintro ex W' ⟨v, rfl, hr⟩
  obtain ⟨F, _, hv⟩ := hr.own
  simp only [R] at hv
  subst hv
  exact ⟨rfl, hr.os, hr.tape, hr.output, hr.le, fun k hk => hr.frame k hk (by simp)⟩
section
variable {H : Type} {enc : TypeId × Value -> H} {P : Program}
theorem b0d (hl : laidOutB P = true) {W W' : World} (hb : Below W.heap.size W W') {sp : Nat -> Bool} : ∀ {ts : List TypeId} {vs : List Value} {ds : List (DataW H)} {ps : List MemPlace}, (∀ t ∈ ts, P.readableRec t = true /\ t < P.types.size) -> DataW.TrodAll enc P W 0 (fun _ => true) true ts vs ds ps ->
  (∀ x ∈ ps, x.block < W.heap.size) -> (∀ x ∈ ps, sp x.block = true) -> DataW.TrodAll enc P W' 0 sp true ts vs ds ps
 | [], _, _, _, _, h, _, _ => by
  obtain ⟨rfl, rfl, rfl⟩ := trodAll_nil h
  exact trodAll_mk0
 | t :: ts, _, _, _, ht, h, hlt, hsp => by
  obtain ⟨v, vs, d, ds, p, q, rfl, rfl, rfl, h1, h2⟩ := trodAll_cons h
  exact ⟨p, q, WideElems.Trod_stays hl (ht t (by simp)).1 (ht t (by simp)).2 h1 (fun x hx => hb.same (hlt x (by simp [hx]))) (fun x hx => hsp x (by simp [hx])),
   b0d hl hb (fun u hu => ht u (by simp [hu])) h2 (fun x hx => hlt x (by simp [hx])) (fun x hx => hsp x (by simp [hx])), rfl⟩
theorem c12 {f : Func} {s : ChangeSpec} {apart fresh handsOn again : Bool} {W W' : World} {args : Array Value} {ds gs : List (DataW H)} {before : List MemPlace} {tb : TypeId}
  (hl : laidOutB P = true) (ht : ∀ t ∈ f.params.toList, P.readableRec t = true /\ t < P.types.size) (hr : f.resultTypes = #[tb]) (htb : P.underlying tb = some .bool) (hvars : s.vars = []) (hfn : s.fn H (ds ++ []) = { results := [.lit (.bool true)], args := ds })
  (hW : DataW.Whole enc P f.params.toList s.vars apart W args.toList ds gs before) (hb : Below W.heap.size W W') : s.post enc P f apart fresh handsOn again W args (.bool true) W' := by
 have hW0 := hW
 obtain ⟨p, q, hA, hV, hpq, hz, hn⟩ := hW
 rw [hvars] at hV
 obtain ⟨rfl, rfl⟩ := trodVars_none hV
 have hp : before = p := by simpa using hpq
 subst hp
 have hlt : ∀ x ∈ before, x.block < W.heap.size := fun x hx => hW0.lt x hx
 have hargs : ∀ sp : Nat -> Bool, (∀ p ∈ before, sp p.block = true) -> DataW.TrodAll enc P W' 0 sp true f.params.toList args.toList ds before := fun sp hsp => b0d hl hb ht hA hlt hsp
 have hres : ∀ (b : Nat) (sp : Nat -> Bool) (hd : Bool), DataW.TrodAll enc P W' b sp hd f.resultTypes.toList ((Value.bool true).resultList f.resultTypes.size) [.lit (.bool true)] [] := fun b sp hd => by
  rw [hr]; exact trodAll_mk1 (shut_bool htb true)
 have hv0 : ∀ sp : Nat -> Bool, DataW.TrodVars enc P W' sp s.vars [] [] := fun sp => by rw [hvars]; rfl
 refine ⟨ds, [], before, [], before, [], hW0, ?_, ?_, ?_, World.keptBut_mono (fun p hp => ⟨hp, Or.inr (Or.inl hp)⟩) (hb.frame _), fun _ => ?_⟩
 ·rw [hfn]; exact hres _ _ _
 ·rw [hfn]; exact hargs _ fun x hx => by simpa using hlt x hx
 ·rw [hfn]; exact hv0 _
 ·refine ⟨ok_one hr rfl (by unfold Value.okWide; rw [htb]; simp [Cell.okWide, Cell.ok, htb]), [.lit (.bool true)] ++ ds, [], ([] ++ before) ++ [], ⟨[] ++ before, [], trodAll_append (hargs _ fun _ _ => rfl) (hres _ _ _), hv0 _, rfl, ?_, ?_⟩, ?_⟩
  ·intro b off hp
   have hp' : MemPlace.cell b off ∈ before := by simpa using hp
   rw [hb.frozen (p := ⟨b, off, none⟩) (hlt _ hp')]
   exact hz b off hp'
  ·intro ha
   simpa using hn ha
  ·intro p hp _
   simpa using hp
end
end Go.Ideal
end
section
namespace Go.Ideal.Tryd
open Go.ChangeShapes Go.RowKit Classical
def c6y : DataW Unit -> Option (List UInt8)
 | .iface n (.ptr (.agg [.lit (.string s)])) => if n == "*errors.errorString" then some s else none
 | _ => none
theorem c1c {d : DataW Unit} {s : List UInt8} (h : c6y d = some s) : d = .iface "*errors.errorString" (.ptr (.agg [.lit (.string s)])) := by
 unfold c6y at h
 split at h
 ·split at h
  ·rename_i hn
   simp only [beq_iff_eq] at hn
   injection h with h
   rw [hn, h]
  ·cases h
 ·cases h
noncomputable def b46 (laid : List (String × DataW Unit)) (g : Nat) : Option (List UInt8) := laid.findSome? fun x => if pg.globalNamed x.1 == some g then c6y x.2 else none
noncomputable def b8z (L : List Nat) (laid : List (String × DataW Unit)) : Bool := L.all fun g => (b46 laid g).isSome && L.all fun h => g == h || !(b46 laid g == b46 laid h)
abbrev c9u : List Nat := [0, 1, 2, 3, 4, 5, 6, 7, 9, 10, 11, 12, 13, 14, 15, 16, 17, 18, 19, 20, 21]
theorem b08 {W : World} : ∀ {laid : List (String × DataW Unit)} {ps : List MemPlace}, DataW.LaidVars pg W laid ps -> ∀ x ∈ laid, ∃ g t cs fuel p, pg.globalNamed x.1 = some g /\ (pg.globals[g]?).map (·.type) = some t /\ W.var? pg x.1 = some cs /\
  DataW.trod (fun _ => ()) pg W 0 (fun _ => true) false fuel t cs.toList = some (x.2, p) /\ (∀ y ∈ MemPlace.row ⟨g, 0, none⟩ cs.size ++ p, y ∈ ps)
 | [], _, _, x, hx => by simp at hx
 | (n, d) :: r, ps, h, x, hx => by
  obtain ⟨g, t, cs, fuel, p, q, h1, h2, h3, h4, h5, rfl⟩ := h
  rcases List.mem_cons.1 hx with rfl | hx
  ·exact ⟨g, t, cs, fuel, p, h1, h2, h3, h4, fun y hy => List.mem_append_left _ hy⟩
  ·obtain ⟨g', t', cs', f', p', k1, k2, k3, k4, k5⟩ := b08 h5 x hx
   exact ⟨g', t', cs', f', p', k1, k2, k3, k4, fun y hy => List.mem_append_right _ (k5 y hy)⟩
theorem f1n : (c9u.all fun g => (pg.globals[g]?).map (·.type) == some 45) = true := by kernel_rfl
theorem g0v : ∃ ms, pg.underlying 45 = some (.interface ms) := by
 have h : (match pg.underlying 45 with | some (.interface _) => true | _ => false) = true := by kernel_rfl
 split at h
 ·rename_i ms hm; exact ⟨ms, hm⟩
 ·cases h
theorem f36 (u : TypeId) (hu : pg.typeName? 3 u = some "*errors.errorString") : u = 186 :=
 typeName_ptr_named (nm := "errors.errorString") (by kernel_rfl) (by kernel_rfl) (by decide) u hu
theorem f4z : pg.underlying 186 = some (.pointer 208) := by kernel_rfl
theorem f40 : ∃ f : Field, pg.underlying 208 = some (.struct #[f]) /\ f.offset = 0 /\ pg.underlying f.type = some .string /\ pg.cellsOf f.type = 1 := by
 have h : (match pg.underlying 208 with | some (.struct fs) => fs.size == 1 && fs.all (fun f => f.offset == 0 && (match pg.underlying f.type with | some .string => true | _ => false) && pg.cellsOf f.type == 1) | _ => false) = true := by kernel_rfl
 split at h
 ·rename_i fs hm
  simp only [Bool.and_eq_true, beq_iff_eq] at h
  obtain ⟨h1, h2⟩ := h
  obtain ⟨f, hf⟩ : ∃ f, fs = #[f] := by
   obtain ⟨l⟩ := fs
   match l, h1 with
   | [f], _ => exact ⟨f, rfl⟩
  subst hf
  simp at h2
  refine ⟨f, hm, h2.1.1, ?_, h2.2⟩
  have := h2.1.2
  split at this
  ·assumption
  ·cases this
 ·cases h
theorem c70 : pg.cellsOf 208 = 1 := by kernel_rfl
theorem b6f {L : List Nat} (hL : ∀ g ∈ L, g ∈ c9u) {hs : List (Nat × Value)} {laid : List (String × DataW Unit)} {W : World} (h : laidMet pg laid W) (hc : b8z L laid = true) (hhs : ∀ p ∈ hs, p.1 < W.heap.size /\ ∃ cur T fz, W.heap[p.1]? = some (.cells cur T fz) /\ cur[0]? = some p.2) : ∃ (G : GG) (bk : Nat -> Nat × Nat), G.hs = hs /\ ((∀ g, g ∈ L -> G g = some (.iface c3w (.pointer (some ⟨(bk g).1, (bk g).2, none⟩)))) /\ (∀ g, g ∈ L -> (G (bk g).1).isSome = true) /\ (∀ g h, g ∈ L -> h ∈ L -> bk g = bk h -> g = h)) /\ ∀ g v, G.at g v -> GC G W g v /\ g < W.heap.size := by
 obtain ⟨ps, hl, _, hp⟩ := h
 simp only [b8z, List.all_eq_true, Bool.and_eq_true, Bool.or_eq_true, beq_iff_eq, Bool.not_eq_true', beq_eq_false_iff_ne, ne_eq] at hc
 have key : ∀ g, ∃ y : Addr × ByteArray, g ∈ L -> (∃ c t, W.heap[g]? = some (.cells c t (0, 0)) /\ c[0]? = some (.iface 186 (.pointer (some y.1)))) /\ W.cell? y.1 = some (.string y.2) /\ b46 laid g = some y.2.data.toList /\ (∃ c t, W.heap[y.1.block]? = some (.cells c t (0, 0))) := by
  intro g
  by_cases hg : g ∈ L
  ·obtain ⟨text, ht⟩ := Option.isSome_iff_exists.1 (hc g hg).1
   have ht0 := ht
   unfold b46 at ht
   rw [List.findSome?_eq_some_iff] at ht
   obtain ⟨l1, x, l2, hx, hxs, _⟩ := ht
   split at hxs
   ·rename_i hgn
    simp only [beq_iff_eq] at hgn
    obtain ⟨g', t, cs, fuel, p, h1, h2, h3, h4, h5⟩ := b08 hl x (by rw [hx]; simp)
    obtain rfl : g' = g := by rw [hgn] at h1; injection h1 with h1; exact h1.symm
    have ht26 : t = 45 := by
     have := List.all_eq_true.1 f1n g' (hL _ hg)
     simp only [beq_iff_eq] at this
     rw [this] at h2
     injection h2 with h2
     exact h2.symm
    subst ht26
    rw [c1c hxs] at h4
    obtain ⟨ms, hms⟩ := g0v
    obtain ⟨f, hf1, hf2, hf3, hf4⟩ := f40
    have hvar : ∃ t0 fz, W.heap[g']? = some (.cells cs t0 fz) := by
     unfold World.var? at h3
     rw [h1] at h3
     simp only [Option.bind_some] at h3
     split at h3
     ·rename_i c t0 fz hh
      injection h3 with h3
      subst h3
      exact ⟨_, _, hh⟩
     ·cases h3
    obtain ⟨t0, fz, hh⟩ := hvar
    have hg0 : ∀ u v, cs.toList = [.iface u v] -> MemPlace.cell g' 0 ∈ ps /\ W.cell? ⟨g', 0, none⟩ = some (.iface u v) := by
     intro u v hcs
     have hsz : cs.size = 1 := by have := congrArg List.length hcs; simpa using this
     refine ⟨h5 _ (List.mem_append_left _ (by rw [hsz]; simp [MemPlace.row])), ?_⟩
     simp only [World.cell?, hh]
     have : cs[0]? = some (.iface u v) := by
      have := congrArg (·[0]?) hcs
      simpa using this
     simpa using this
    obtain ⟨a, s, e1, e2, e3, _, e5⟩ := errorString_of_trod hms f36 f4z hf1 rfl hf2 hf3 c70 hf4 h4 (fun u v hcs => by
     obtain ⟨m1, m2⟩ := hg0 u v hcs
     exact (hp _ _ m1).2 u v m2)
    refine ⟨(a, s), fun _ => ⟨?_, e2, ?_, ?_⟩⟩
    ·obtain ⟨m1, m2⟩ := hg0 _ _ e1
     obtain ⟨⟨c, t1, hc1⟩, _⟩ := hp _ _ m1
     refine ⟨c, t1, hc1, ?_⟩
     rw [hc1] at hh
     simp only [Option.some.injEq, Obj.cells.injEq] at hh
     obtain ⟨rfl, _, _⟩ := hh
     have := congrArg (·[0]?) e1
     simpa using this
    ·rw [ht0, e3]
    ·have := h5 _ (List.mem_append_right _ (show MemPlace.cell a.block (a.off + 0) ∈ p by rw [e5]; simp [MemPlace.row]))
     exact (hp _ _ this).1
   ·cases hxs
  ·exact ⟨default, fun h => absurd h hg⟩
 obtain ⟨y, hy⟩ := Classical.axiomOfChoice key
 let bk : Nat -> Nat × Nat := fun g => ((y g).1.block, (y g).1.off)
 let Gf : Nat -> Option Value := fun b => if b ∈ L \/ ∃ g, g ∈ L /\ (bk g).1 = b then (match W.heap[b]? with | some (.cells c _ _) => c[0]? | _ => none) else none
 have hspot : ∀ g, g ∈ L -> (y g).1 = ⟨(bk g).1, (bk g).2, none⟩ /\ ∃ c t v, W.heap[(bk g).1]? = some (.cells c t (0, 0)) /\ c[0]? = some v := by
  intro g hg
  obtain ⟨_, h2, _, c, t, h4⟩ := hy g hg
  simp only [World.cell?, h4] at h2
  split at h2
  ·cases h2
  ·rename_i hs
   refine ⟨?_, c, t, ?_⟩
   ·have : (y g).1.spot = none := by simpa using hs
    simp only [bk]
    cases hyg : (y g).1
    rw [hyg] at this
    simp only at this
    rw [this]
   ·have hlt : (y g).1.off < c.size := (Array.getElem?_eq_some_iff.1 h2).1
    exact ⟨c[0]'(by omega), h4, by simp⟩
 have strict : ∀ b v, Gf b = some v -> ∃ c t, W.heap[b]? = some (.cells c t (0, 0)) /\ c[0]? = some v := fun b v hb => by
  simp only [Gf] at hb
  split at hb
  ·rename_i hor
   have : ∃ c t, W.heap[b]? = some (.cells c t (0, 0)) := by
    rcases hor with h1 | ⟨g, hg, rfl⟩
    ·obtain ⟨⟨c, t, h1, _⟩, _⟩ := hy b h1
     exact ⟨c, t, h1⟩
    ·obtain ⟨_, c, t, v, h1, _⟩ := hspot g hg
     exact ⟨c, t, h1⟩
   obtain ⟨c, t, h1⟩ := this
   rw [h1] at hb
   simp only at hb
   exact ⟨c, t, h1, hb⟩
  ·cases hb
 refine ⟨⟨Gf, hs⟩, bk, rfl, ⟨fun g hg => ?_, fun g hg => ?_, fun g h hg hh he => ?_⟩, fun b v hb => ?_⟩
 ·obtain ⟨⟨c, t, h1, h2⟩, _⟩ := hy g hg
  simp only [Gf]
  rw [if_pos (.inl hg), h1]
  simp only
  rw [h2, (hspot g hg).1]
 ·obtain ⟨_, c, t, v, h1, h2⟩ := hspot g hg
  simp only [Gf]
  rw [if_pos (.inr ⟨g, hg, rfl⟩), h1]
  simp only
  rw [h2]; rfl
 ·have e1 : (y g).1 = (y h).1 := by
   rw [(hspot g hg).1, (hspot h hh).1, he]
  obtain ⟨_, k1, k2, _⟩ := hy g hg
  obtain ⟨_, k3, k4, _⟩ := hy h hh
  rw [e1, k3] at k1
  simp only [Option.some.injEq, Value.string.injEq] at k1
  rcases (hc g hg).2 h hh with h5 | h5
  ·exact h5
  ·exact absurd (by rw [k2, k4, k1]) h5
 ·rcases hb with hb | hb
  ·obtain ⟨c, t, h1, h2⟩ := strict b v hb
   exact ⟨⟨c, t, (0, 0), h1, h2, fun _ => rfl⟩, (Array.getElem?_eq_some_iff.1 h1).1⟩
  ·obtain ⟨h1, c, t, fz, h2, h3⟩ := hhs _ hb
   refine ⟨⟨c, t, fz, h2, h3, fun hg => ?_⟩, h1⟩
   obtain ⟨c', t', h4, _⟩ := strict b v hg
   rw [h4] at h2
   simp only [Option.some.injEq, Obj.cells.injEq] at h2
   exact h2.2.2.symm
theorem f1o : ∀ g, g ∈ c9u -> gn (cn g) = g := by decide
theorem a98 {laid : List (String × DataW Unit)} {hs : List (Nat × Value)} {W : World} (h : laidMet pg laid W) (hc : b8z [0, 1, 2, 3, 4, 6, 7] laid = true) (hhs : ∀ p ∈ hs, p.1 < W.heap.size /\ ∃ cur T fz, W.heap[p.1]? = some (.cells cur T fz) /\ cur[0]? = some p.2) : ∃ (G : GG) (bk : Nat -> Nat × Nat), G.hs = hs /\ SentO G bk /\ ∀ g v, G.at g v -> GC G W g v /\ g < W.heap.size := by
 have key : ∀ g, g = 0 \/ g = 1 \/ g = 2 \/ g = 3 \/ g = 4 \/ g = 6 \/ g = 7 -> g ∈ ([0, 1, 2, 3, 4, 6, 7] : List Nat) := fun g hg => by simp; omega
 obtain ⟨G, bk, h0, ⟨h1, h2, h3⟩, h4⟩ := b6f (L := [0, 1, 2, 3, 4, 6, 7]) (hs := hs) (by decide) h hc hhs
 refine ⟨G, fun c => bk (gn c), h0, ⟨fun g hg => ?_⟩, h4⟩
 simp only [f1o g (List.all_eq_true.1 (show ([0, 1, 2, 3, 4, 6, 7] : List Nat).all (fun g => decide (g ∈ c9u)) = true by decide) g (key g hg) |> of_decide_eq_true)]
 exact h1 g (key g hg)
end Go.Ideal.Tryd
end
section
namespace Go.Proofs.YtfncabcldhemkaaDoor
open Go Go.ChangeShapes Go.WideShapes Go.RowKit Go.Ideal Go.Ideal.Tryd
theorem own : ownKnob Tryd.prog.godebug = none := by kernel_rfl
theorem c5i : laidOutB Tryd.prog = true := by kernel_rfl
noncomputable def low : Nat := (World.holding Tryd.prog default ⟨#[], #[], []⟩).heap.size
noncomputable def c84 : List Obj := (List.range 22).map fun g => .cells #[.string ⟨((b46 Rows.checkApartRow.laid g).getD []).toArray⟩] 208 (0, 0)
noncomputable def a7u (os : Os) : World :=
 let w0 := World.holding Tryd.prog os ⟨c84.toArray, #[], []⟩
 { w0 with heap := ((w0.heap.toList.zipIdx).map fun
   | (.cells c t fz, 8) => .cells #[.iface 170 (.agg #[.pointer (some ⟨22, 45, none⟩)])] t fz
   | (.cells c t fz, i) => if i ∈ ([0, 1, 2, 3, 4, 5, 6, 7, 9, 10, 11, 12, 13, 14, 15, 16, 17, 18, 19, 20, 21] : List Nat) then .cells #[.iface 186 (.pointer (some ⟨low + i, 0, none⟩))] t fz else .cells c t fz
   | (o, _) => o).toArray }
theorem b2l (os : Os) (args : Array Value) : ((a7u os).forCall (fun _ _ => 0) ⟨#[], args, []⟩).Shaped Tryd.prog :=
 World.shaped_of_RefB (by kernel_rfl) (by kernel_rfl)
theorem hEt : Tryd.prog.globalNamed "errors.errorType" = some 8 := by kernel_rfl
theorem hRt : (Tryd.prog.cutTypes.find? (·.1 == "internal/reflectlite.rtype")).map (·.2) = some 170 := by kernel_rfl
theorem d2f : ((List.range 220).filter fun t => Tryd.prog.rowNamed t [101, 114, 114, 111, 114]) = [45] := by kernel_rfl
theorem f1y : Tryd.prog.types.size = 220 := by kernel_rfl
abbrev hX : String × DataW Unit := ("errors.errorType", .iface "internal/reflectlite.rtype" (.agg [.ptr (.lit (.string [101, 114, 114, 111, 114]))]))
abbrev hV : Value := .iface 170 (.agg #[.pointer (some ⟨22, 45, none⟩)])
theorem a8v {W : World} (h' : handlesMet Tryd.prog [hX] W) : 8 < W.heap.size /\ ∃ cur T fz, W.heap[8]? = some (.cells cur T fz) /\ cur[0]? = some hV := by
 obtain ⟨name, u, ty, e1, e2, e3, e4, e5⟩ := h' _ (List.mem_singleton.2 rfl)
 have en : name = [101, 114, 114, 111, 114] := (Option.some.inj e1).symm
 subst en
 obtain rfl := Option.some.inj (hRt.symm.trans e2)
 have hm : ty ∈ (List.range 220).filter fun t => Tryd.prog.rowNamed t [101, 114, 114, 111, 114] := List.mem_filter.2 ⟨List.mem_range.2 (by rw [<- f1y]; exact e3), e4⟩
 rw [d2f] at hm
 obtain rfl := List.mem_singleton.1 hm
 have hh : typeHandle Tryd.prog 45 = .pointer (some ⟨22, 45, none⟩) := by kernel_rfl
 rw [hh] at e5
 unfold World.var? at e5
 rw [hEt] at e5
 simp only [Option.bind_some] at e5
 split at e5
 ·rename_i c t0 fz hc
  injection e5 with e5
  subst e5
  exact ⟨(Array.getElem?_eq_some_iff.1 hc).1, _, _, _, hc, rfl⟩
 ·cases e5
end Go.Proofs.YtfncabcldhemkaaDoor
end
section
namespace Go.Ideal
open Go.ChangeShapes Go.RowKit Classical
section
variable {H : Type} {e : TypeId × Value -> H} {P : Program} {w : World}
def RdF (e : TypeId × Value -> H) (P : Program) (w : World) (T : Type) (ts : List (TypeId × Nat)) (o total : Nat) (enc : T -> List AV) (ok : T -> Prop) : Prop :=
 ∀ (n : Nat) (cs : List Value) (xs : List (DataW H × List MemPlace)), cs.length = total -> xs.length = ts.length ->
  (∀ (i : Nat) (p : TypeId × Nat), ts[i]? = some p -> DataW.trod e P w 0 (fun _ => true) true n p.1 ((cs.drop p.2).take (P.cellsOf p.1)) = xs[i]?) ->
  (DataW.weightsEach P (ts.map (·.1)) (xs.map (·.1))).all (· <= reachBytes) = true -> ∃ x, ok x /\ RL w (fun b => b < w.heap.size) (enc x) noQ noB (cs.drop o) /\ C1 (cs.drop o)
theorem RdF.nil {o : Nat} : RdF e P w Unit [] o o (fun _ => []) (fun _ => True) := by
 intro n cs xs hl _ _ _
 refine ⟨(), trivial, ?_, fun u hu => ?_⟩
 ·rw [List.drop_of_length_le (by omega)]; simp [RL]
 ·rw [List.drop_of_length_le (by omega)] at hu; simp at hu
theorem RdF.cons {T U : Type} {t : TypeId} {k : Nat} {ts : List (TypeId × Nat)} {o total : Nat} {enc : T -> List AV} {ok : T -> Prop} {enc' : U -> List AV} {ok' : U -> Prop} (hk : P.cellsOf t = k) (h : Rd e P w T t enc ok) (hr : RdF e P w U ts (o + k) total enc' ok') :
  RdF e P w (T × U) ((t, o) :: ts) o total (fun p => enc p.1 ++ enc' p.2) (fun p => ok p.1 /\ ok' p.2) := by
 intro n cs xs hl hx ht hw
 cases xs with
 | nil => simp at hx
 | cons y ys =>
  simp only [List.map_cons, DataW.weightsEach, List.all_append, Bool.and_eq_true] at hw
  have h0 := ht 0 (t, o) rfl
  simp only [List.getElem?_cons_zero, hk] at h0
  obtain ⟨x, ox, rx, cx⟩ := h n _ y.1 y.2 h0 hw.1
  obtain ⟨z, oz, rz, cz⟩ := hr n cs ys hl (by simpa using hx) (fun i p hp => by simpa using ht (i + 1) p (by simpa using hp)) hw.2
  have e1 : cs.drop o = (cs.drop o).take k ++ cs.drop (o + k) := by rw [<- List.drop_drop]; exact (List.take_append_drop _ _).symm
  refine ⟨(x, z), ⟨ox, oz⟩, ?_, fun u hu => ?_⟩
  ·rw [e1]
   exact a2a (fun b hb => hb.elim (fun h => h) fun h => h) (a1y rx rz fun b hb => hb.elim)
  ·rw [e1] at hu
   rcases List.mem_append.1 hu with hu | hu
   ·exact cx u hu
   ·exact cz u hu
def c6v (P : Program) (t : TypeId) (l : List (TypeId × Nat)) : Bool := match P.underlying t with
 | some (.struct fs) => fs.toList.map (fun f => (f.type, f.offset)) == l
 | _ => false
theorem Rd.struct {T : Type} {t : TypeId} {l : List (TypeId × Nat)} {total : Nat} {enc : T -> List AV} {ok : T -> Prop} (hs : c6v P t l = true) (hc : P.cellsOf t = total) (hF : RdF e P w T l 0 total enc ok) : Rd e P w T t enc ok := by
 intro fuel cs d ps h hw
 unfold c6v at hs
 split at hs
 ·rename_i fs ht
  simp only [beq_iff_eq] at hs
  obtain ⟨xs, n, _, hx, hl, hxl, hf⟩ := DataW.trod_struct ht h
  simp only [Prod.mk.injEq] at hx
  obtain ⟨rfl, _⟩ := hx
  simp only [DataW.weights, ht] at hw
  have := hF n cs xs (by rw [hl, hc]) (by rw [hxl, <- hs]; simp) (fun i p hp => by
   rw [<- hs] at hp
   simp only [List.getElem?_map, Option.map_eq_some_iff] at hp
   obtain ⟨f, hfi, rfl⟩ := hp
   exact hf i f (by simpa using hfi)) (by
   rw [<- hs, List.map_map]
   exact hw)
  simpa using this
 ·cases hs
theorem Rd.map {T U : Type} {t : TypeId} {enc : T -> List AV} {ok : T -> Prop} {enc' : U -> List AV} {ok' : U -> Prop} (h : Rd e P w T t enc ok) (f : T -> U) (henc : ∀ x, enc' (f x) = enc x) (hok : ∀ x, ok x -> ok' (f x)) : Rd e P w U t enc' ok' := by
 intro fuel cs d ps h1 h2
 obtain ⟨x, a, b, c⟩ := h fuel cs d ps h1 h2
 exact ⟨f x, hok x a, by rw [henc]; exact b, c⟩
end
end Go.Ideal
end
section
namespace Go.Ideal.Tryd
def a22 : IC := (.seq (.reg [oo 24 (.bin .lss 3 0 (.t 23) (.t 22) 3)]) (.seq (.cond (.t 24) .skip (.exit 2)) (.seq (.block 3 (.seq (.reg [oo 25 (.iaddr 24 1 (.t 21) (.t 23)),
 oo 26 (.load 3 none (.t 25)),
 oo 7 (.asg (.t 26))]) (.seq (.reg [om 27 7,
 oo 28 (.bin .geq 3 0 (.t 27) (.n 0) 3),
 om 29 28,
 og 30 (.mv (.t 7)) 2 29 true,
 og 31 (.mv (.t 3)) 2 29 true,
 og 32 (.len 95 false (.t 31)) 2 29 true,
 og 33 (.bin .lss 3 0 (.t 30) (.t 32) 3) 2 29 true,
 oo 34 (.pick (.t 29) (.t 33) (.c (.bool false))),
 om 35 34,
 og 36 (.mv (.t 3)) 8 35 true,
 og 37 (.mv (.t 7)) 8 35 true,
 og 38 (.iaddr 95 1 (.t 36) (.t 37)) 8 35 true,
 og 39 (.load 24 none (.t 38)) 8 35 true,
 og 40 (.mv (.t 4)) 8 35 true,
 ⟨(some 41), .call 88 [(false, (.t 39)), (false, (.t 40))] [24, 3], (some (8, 35, true))⟩,
 og 42 (.un .not 4 (.t 41)) 8 35 true,
 oo 43 (.pick (.t 35) (.t 42) (.c (.bool false)))]) (.cond (.t 43) (.reg [om 44 3,
 om 45 7,
 om 46 3,
 om 47 7,
 oo 48 (.iaddr 95 1 (.t 46) (.t 47)),
 oo 49 (.load 24 none (.t 48)),
 om 50 4,
 oo 51 (.bslice 24 3 1 1 [.lit (.int .i64 0)] [(0, (.t 50))]),
 oo 52 (.app 24 3 1 8 (.t 49) (.t 51)),
 oo 53 (.iaddr 95 1 (.t 44) (.t 45)),
 ov (.store 24 1 (.t 53) (.t 52))]) .skip)))) (.reg [oo 54 (.bin .add 3 0 (.t 23) (.n 1) 3),
 om 23 54]))))
def a60 : IC := (.seq (.reg [oo 16 (.bin .lss 3 0 (.t 15) (.t 14) 3)]) (.seq (.cond (.t 16) .skip (.exit 0)) (.seq (.block 1 (.seq (.reg [om 17 15,
 oo 18 (.iaddr 57 6 (.t 13) (.t 15)),
 oo 19 (.load 73 (some 6) (.t 18)),
 oo 5 (.alloc 73 [.lit (.int .i64 0), .own 1 0 [], .own 1 0 [], .own 1 0 [], .lit (.bool false), .own 1 0 []]),
 oo 4 (.asg (.t 17)),
 ov (.store 73 6 (.t 5) (.t 19))]) (.seq (.reg [oo 20 (.faddr 73 1 (.t 5) 1),
 oo 21 (.load 24 none (.t 20)),
 oo 22 (.len 24 false (.t 21)),
 oo 23 (.mv (.n 0))]) (.block 2 (.loop a22))))) (.reg [oo 55 (.bin .add 3 0 (.t 15) (.n 1) 3),
 om 15 55]))))
def b06 : IC := (.seq (.reg [oo 1 (.box 59 2 (.t 0)),
 oo 2 (.asg (.nl 1))]) (.seq (.reg [oo 8 (.faddr 59 0 (.t 1) 0),
 oo 9 (.load 57 none (.t 8)),
 oo 10 (.len 57 false (.t 9)),
 oo 11 (.mks 95 24 1 24 [.own 1 0 []] (.t 10) (.t 10)),
 oo 3 (.asg (.t 11))]) (.seq (.seq (.reg [oo 12 (.faddr 59 0 (.t 1) 0),
 oo 13 (.load 57 none (.t 12)),
 oo 14 (.len 57 false (.t 13)),
 oo 15 (.mv (.n 0))]) (.block 0 (.loop a60))) (.seq (.reg [om 56 3,
 oo 2 (.asg (.t 56))]) .ret))))
abbrev b6u : Nat := 65
theorem b2k : fnC pg 65 57 [(.tmp 2)] b06 := a09 Go.Proofs.Tryd.f65 [(.tmp 2)] (by kernel_rfl)
@[go_sem] theorem c7b : fnB pg 65 = true := by kernel_rfl
def a4s : IC := (.seq (.reg [oo 4 (.asg (.c (.bool false)))]) (.seq (.reg [om 5 0,
 om 6 1,
 oc 7 112 [(false, (.t 5)), (false, (.t 6))] [24, 3],
 oo 8 (.bin .geq 3 0 (.t 7) (.n 0) 3),
 oo 4 (.asg (.t 8))]) .ret))
abbrev a7m : Nat := 88
theorem a6u : fnC pg 88 9 [(.tmp 4)] a4s := a09 Go.Proofs.Tryd.f88 [(.tmp 4)] (by kernel_rfl)
@[go_sem] theorem b6i : fnB pg 88 = true := by kernel_rfl
def a49 : IC := (.seq (.reg [oo 25 (.bin .lss 3 0 (.t 24) (.t 23) 3)]) (.seq (.cond (.t 25) .skip (.exit 0)) (.seq (.block 1 (.seq (.reg [om 26 24,
 oo 27 (.iaddr 24 1 (.t 22) (.t 24)),
 oo 28 (.load 3 none (.t 27)),
 oo 4 (.asg (.t 26)),
 oo 5 (.asg (.t 28))]) (.seq (.reg [om 29 5,
 oo 30 (.faddr 71 0 (.t 1) 0),
 oo 31 (.faddr 26 1 (.t 30) 1),
 oo 32 (.load 4 none (.t 31)),
 oc 33 80 [(false, (.t 29)), (false, (.t 32))] [3, 4],
 oo 34 (.un .not 4 (.t 33))]) (.cond (.t 34) (.seq (.reg [om 35 4,
 oo 36 (.load 45 none (.g 3)),
 oo 37 (.build 114 [.lit (.int .i64 0), .lit .nilIface] [(0, 0, 1, (.t 35)), (1, 1, 1, (.t 36))]),
 oo 38 (.box 114 2 (.t 37)),
 oo 39 (.mki 110 (.t 38)),
 oo 2 (.asg (.t 39))]) .ret) .skip)))) (.reg [oo 40 (.bin .add 3 0 (.t 24) (.n 1) 3),
 om 24 40]))))
def b1p : IC := (.seq (.reg [oo 1 (.box 71 3 (.t 0)),
 oo 2 (.asg (.c .nilIface))]) (.seq (.seq (.reg [oo 6 (.faddr 71 0 (.t 1) 0),
 oo 7 (.load 26 (some 2) (.t 6)),
 oc 8 58 [(false, (.t 7))] [26],
 oo 3 (.asg (.t 8))]) (.seq (.reg [om 9 3,
 oo 10 (.bin .neq 45 2 (.t 9) (.c .nilIface) 45)]) (.cond (.t 10) (.seq (.reg [om 11 3,
 oo 2 (.asg (.t 11))]) .ret) .skip))) (.seq (.seq (.draw [oo 12 (.faddr 71 2 (.t 1) 1),
 oo 13 (.load 24 none (.t 12)),
 oo 14 (.len 24 false (.t 13)),
 oo 15 (.faddr 71 0 (.t 1) 0),
 oo 16 (.faddr 26 0 (.t 15) 0),
 oo 17 (.load 24 none (.t 16)),
 oc 18 56 [(false, (.t 17))] [24],
 oo 19 (.bin .neq 3 0 (.t 14) (.t 18) 3)] [[], [0], [1], [], [3], [4], [5], [2, 6]]) (.cond (.t 19) (.seq (.reg [oo 20 (.load 45 none (.g 7)),
 oo 2 (.asg (.t 20))]) .ret) .skip)) (.seq (.seq (.reg [oo 21 (.faddr 71 2 (.t 1) 1),
 oo 22 (.load 24 none (.t 21)),
 oo 23 (.len 24 false (.t 22)),
 oo 24 (.mv (.n 0))]) (.block 0 (.loop a49))) (.seq (.reg [oo 2 (.asg (.c .nilIface))]) .ret)))))
abbrev b65 : Nat := 59
theorem b3q : fnC pg 59 41 [(.tmp 2)] b1p := a09 Go.Proofs.Tryd.f59 [(.tmp 2)] (by kernel_rfl)
@[go_sem] theorem c7p : fnB pg 59 = true := by kernel_rfl
def a2h : IC := (.seq (.reg [oo 9 (.bin .lss 3 0 (.t 8) (.t 7) 3)]) (.seq (.cond (.t 9) .skip (.exit 0)) (.seq (.block 1 (.seq (.reg [om 10 8,
 oo 5 (.asg (.t 10))]) (.seq (.reg [om 11 1,
 om 12 0,
 om 13 5,
 oo 14 (.iaddr 24 1 (.t 12) (.t 13)),
 oo 15 (.load 3 none (.t 14)),
 oo 16 (.bin .eql 3 0 (.t 11) (.t 15) 3)]) (.cond (.t 16) (.seq (.reg [om 17 5,
 oo 4 (.asg (.t 17))]) .ret) .skip)))) (.reg [oo 18 (.bin .add 3 0 (.t 8) (.n 1) 3),
 om 8 18]))))
def a50 : IC := (.seq (.reg [oo 4 (.asg (.n 0))]) (.seq (.seq (.reg [om 6 0,
 oo 7 (.len 24 false (.t 6)),
 oo 8 (.mv (.n 0))]) (.block 0 (.loop a2h))) (.seq (.reg [oo 4 (.asg (.n (-1)))]) .ret)))
abbrev a9i : Nat := 112
theorem a76 : fnC pg 112 19 [(.tmp 4)] a50 := a09 Go.Proofs.Tryd.f112 [(.tmp 4)] (by kernel_rfl)
@[go_sem] theorem b9g : fnB pg 112 = true := by kernel_rfl
def a2n : IC := (.seq (.reg [oo 17 (.bin .lss 3 0 (.t 16) (.t 15) 3)]) (.seq (.cond (.t 17) .skip (.exit 0)) (.seq (.block 1 (.seq (.reg [oo 18 (.iaddr 24 1 (.t 14) (.t 16)),
 oo 19 (.load 3 none (.t 18)),
 oo 5 (.asg (.t 19))]) (.seq (.reg [om 20 5,
 oo 21 (.bin .lss 3 0 (.t 20) (.n 1) 3),
 om 22 21,
 og 23 (.mv (.t 5)) 2 22 false,
 og 24 (.bin .gtr 3 0 (.t 23) (.n 256) 3) 2 22 false,
 oo 25 (.pick (.t 22) (.c (.bool true)) (.t 24))]) (.cond (.t 25) (.seq (.reg [oo 26 (.load 45 none (.g 3)),
 oo 2 (.asg (.t 26))]) .ret) .skip)))) (.reg [oo 27 (.bin .add 3 0 (.t 16) (.n 1) 3),
 om 16 27]))))
def a3i : IC := (.seq (.reg [oo 32 (.bin .lss 3 0 (.t 31) (.t 30) 3)]) (.seq (.cond (.t 32) .skip (.exit 2)) (.seq (.block 3 (.seq (.reg [oo 33 (.iaddr 24 1 (.t 29) (.t 31)),
 oo 34 (.load 3 none (.t 33)),
 oo 7 (.asg (.t 34))]) (.seq (.reg [om 35 3,
 om 36 7,
 oo 37 (.bin .mul 3 0 (.t 35) (.t 36) 3),
 oo 3 (.asg (.t 37))]) (.seq (.reg [om 38 3,
 oo 39 (.bin .gtr 3 0 (.t 38) (.n 16384) 3)]) (.cond (.t 39) (.seq (.reg [oo 40 (.load 45 none (.g 2)),
 oo 2 (.asg (.t 40))]) .ret) .skip))))) (.reg [oo 41 (.bin .add 3 0 (.t 31) (.n 1) 3),
 om 31 41]))))
def a67 : IC := (.seq (.reg [oo 1 (.box 26 2 (.t 0)),
 oo 2 (.asg (.c .nilIface))]) (.seq (.seq (.reg [oo 8 (.faddr 26 0 (.t 1) 0),
 oo 9 (.load 24 none (.t 8)),
 oo 10 (.len 24 false (.t 9)),
 oo 11 (.bin .gtr 3 0 (.t 10) (.n 4) 3)]) (.cond (.t 11) (.seq (.reg [oo 12 (.load 45 none (.g 2)),
 oo 2 (.asg (.t 12))]) .ret) .skip)) (.seq (.reg [oo 3 (.asg (.n 1))]) (.seq (.seq (.reg [oo 13 (.faddr 26 0 (.t 1) 0),
 oo 14 (.load 24 none (.t 13)),
 oo 15 (.len 24 false (.t 14)),
 oo 16 (.mv (.n 0))]) (.block 0 (.loop a2n))) (.seq (.seq (.reg [oo 28 (.faddr 26 0 (.t 1) 0),
 oo 29 (.load 24 none (.t 28)),
 oo 30 (.len 24 false (.t 29)),
 oo 31 (.mv (.n 0))]) (.block 2 (.loop a3i))) (.seq (.reg [oo 2 (.asg (.c .nilIface))]) .ret))))))
abbrev b5f : Nat := 58
theorem b1x : fnC pg 58 42 [(.tmp 2)] a67 := a09 Go.Proofs.Tryd.f58 [(.tmp 2)] (by kernel_rfl)
@[go_sem] theorem c6p : fnB pg 58 = true := by kernel_rfl
def a6a : IC := (.seq (.reg [oo 12 (.bin .lss 3 0 (.t 11) (.t 10) 3)]) (.seq (.cond (.t 12) .skip (.exit 0)) (.seq (.block 1 (.seq (.reg [oo 13 (.iaddr 24 1 (.t 9) (.t 11)),
 oo 14 (.load 3 none (.t 13)),
 oo 5 (.asg (.t 14))]) (.reg [om 15 3,
 om 16 5,
 oo 17 (.bin .mul 3 0 (.t 15) (.t 16) 3),
 oo 3 (.asg (.t 17))]))) (.reg [oo 18 (.bin .add 3 0 (.t 11) (.n 1) 3),
 om 11 18]))))
def b0b : IC := (.seq (.reg [oo 2 (.asg (.n 0))]) (.seq (.seq (.reg [om 6 0,
 oc 7 77 [(false, (.t 6))] [24],
 oo 8 (.un .not 4 (.t 7))]) (.cond (.t 8) (.seq (.reg [oo 2 (.asg (.n 0))]) .ret) .skip)) (.seq (.reg [oo 3 (.asg (.n 1))]) (.seq (.seq (.reg [om 9 0,
 oo 10 (.len 24 false (.t 9)),
 oo 11 (.mv (.n 0))]) (.block 0 (.loop a6a))) (.seq (.reg [om 19 3,
 oo 2 (.asg (.t 19))]) .ret)))))
abbrev b5e : Nat := 56
theorem b1w : fnC pg 56 20 [(.tmp 2)] b0b := a09 Go.Proofs.Tryd.f56 [(.tmp 2)] (by kernel_rfl)
@[go_sem] theorem c6o : fnB pg 56 = true := by kernel_rfl
def a9c : IC := (.seq (.reg [oo 4 (.asg (.c (.bool false)))]) (.seq (.seq (.reg [om 5 1]) (.cond (.t 5) (.seq (.reg [om 6 0,
 oo 7 (.bin .geq 3 0 (.t 6) (.n (-2147483648)) 3),
 om 8 7,
 og 9 (.mv (.t 0)) 2 8 true,
 og 10 (.bin .leq 3 0 (.t 9) (.n 2147483647) 3) 2 8 true,
 oo 11 (.pick (.t 8) (.t 10) (.c (.bool false))),
 oo 4 (.asg (.t 11))]) .ret) .skip)) (.seq (.reg [om 12 0,
 oo 13 (.bin .geq 3 0 (.t 12) (.n (-128)) 3),
 om 14 13,
 og 15 (.mv (.t 0)) 2 14 true,
 og 16 (.bin .leq 3 0 (.t 15) (.n 127) 3) 2 14 true,
 oo 17 (.pick (.t 14) (.t 16) (.c (.bool false))),
 oo 4 (.asg (.t 17))]) .ret)))
abbrev b9i : Nat := 80
theorem b39 : fnC pg 80 18 [(.tmp 4)] a9c := a09 Go.Proofs.Tryd.f80 [(.tmp 4)] (by kernel_rfl)
@[go_sem] theorem c91 : fnB pg 80 = true := by kernel_rfl
def a99 : IC := (.seq (.reg [oo 1 (.box 26 2 (.t 0)),
 oo 2 (.asg (.n 0))]) (.seq (.seq (.reg [oo 3 (.faddr 26 1 (.t 1) 1),
 oo 4 (.load 4 none (.t 3))]) (.cond (.t 4) (.seq (.reg [oo 5 (.faddr 26 0 (.t 1) 0),
 oo 6 (.load 24 none (.t 5)),
 oc 7 56 [(false, (.t 6))] [24],
 oo 8 (.bin .mul 3 0 (.n 4) (.t 7) 3),
 oo 2 (.asg (.t 8))]) .ret) .skip)) (.seq (.reg [oo 9 (.faddr 26 0 (.t 1) 0),
 oo 10 (.load 24 none (.t 9)),
 oc 11 56 [(false, (.t 10))] [24],
 oo 2 (.asg (.t 11))]) .ret)))
abbrev b5c : Nat := 33
theorem b1u : fnC pg 33 12 [(.tmp 2)] a99 := a09 Go.Proofs.Tryd.f33 [(.tmp 2)] (by kernel_rfl)
@[go_sem] theorem c6m : fnB pg 33 = true := by kernel_rfl
def b1o : IC := (.seq (.reg [oo 2 (.asg (.c (.bool false)))]) (.seq (.reg [om 3 0,
 oo 4 (.build 26 [.own 1 0 [], .lit (.bool false)] [(0, 0, 1, (.t 3))]),
 oc 5 58 [(false, (.t 4))] [26],
 oo 6 (.bin .eql 45 2 (.t 5) (.c .nilIface) 45),
 oo 2 (.asg (.t 6))]) .ret))
abbrev b64 : Nat := 77
theorem b3m : fnC pg 77 7 [(.tmp 2)] b1o := a09 Go.Proofs.Tryd.f77 [(.tmp 2)] (by kernel_rfl)
@[go_sem] theorem c7n : fnB pg 77 = true := by kernel_rfl
end Go.Ideal.Tryd
end
section
namespace Go.Ideal.Tryd
section
variable {G : GG} {Q : Exit -> St -> Prop} {st : St}
abbrev lu (n : Int) : AV := .lit (.int .u8 n)
abbrev u8 (n : Int) : Int := IntKind.u8.wrap n
end
end Go.Ideal.Tryd
end
section
namespace Go.Ideal
section
variable {k yk : IntKind} {a b : Int}
theorem d1i (h : 0 <= b) : a10 .shr (.int k a) (.int yk b) = some (.int k (a.fdiv (2 ^ min b.toNat k.bits))) := by simp [a10, Op.shift, show ¬ b < 0 by omega]; rfl
@[go_sem] theorem f5p (h : 0 <= b) : a3b .shr 0 (.lit (.int k a)) (.lit (.int yk b)) = some (.lit (.int k (a.fdiv (2 ^ min b.toNat k.bits)))) := by simp [a3b, c3a, d1i h]
end
namespace Tryd
section
variable {G : GG} {Q : Exit -> St -> Prop} {st : St}
end
end Tryd
end Go.Ideal
end
section
namespace Go.Ideal.Tryd
section
variable {Q : Exit -> St -> Prop} {st : St}
def a8w (v : Int) : List Int -> Nat -> Int
 | [], _ => -1
 | x :: xs, i => if v = x then i else a8w v xs (i + 1)
theorem c0i {v : Int} {bs : List Int} {i k : Nat} (h : i < bs.length) : a8w v (bs.drop i) k = if v = bs[i] then (k : Int) else a8w v (bs.drop (i + 1)) (k + 1) := by
 rw [List.drop_eq_getElem_cons h]; rfl
theorem c81 (G : GG) (bs : List Int) (v : Int) (hlen : bs.length < 2 ^ 62) : ACalls pg G a9i [slI bs, li v] (li (a8w v bs 0)) := by
 refine a76 rfl ?_
 simp (disch := omega) [go_sem, a50]
 refine a06 Nat (fun i st => st.s 0 = slI bs /\ st.s 1 = li v /\ st.s 7 = li bs.length /\ st.s 8 = li i /\ i <= bs.length /\ a8w v (bs.drop i) i = a8w v bs 0) (fun i => bs.length - i) 0 ?_ ?_
 ·simp (disch := omega) [go_sem]
 ·rintro i st K ⟨h0, h1, h7, h8, hi, hno⟩ hK
  by_cases hlt : i < bs.length
  ·rw [c0i hlt] at hno
   by_cases hv : v = bs[i]
   ·rw [if_pos hv] at hno
    simp (disch := omega) [go_sem, a2h, h0, h1, h7, h8, hlt, <- hno, hv]
    rw [<- hv]; exact hno
   ·rw [if_neg hv] at hno
    simp (disch := omega) [go_sem, a2h, h0, h1, h7, h8, hlt, hv]
    exact hK (i + 1) _ ⟨by simp [h0], by simp [h1], by simp [h7], by simp, by omega, hno⟩ (by omega)
  ·rw [List.drop_eq_nil_of_le (by omega)] at hno
   simp (disch := omega) [go_sem, a2h, h0, h1, h7, h8, hlt, <- hno, a8w]
theorem b7u {v : Int} : ∀ {bs : List Int} {i : Nat}, 0 <= a8w v bs i ↔ v ∈ bs
 | [], i => by simp [a8w]
 | x :: xs, i => by
  simp only [a8w, List.mem_cons]
  split
  ·rename_i h; simp [h]
  ·rename_i h; rw [b7u]; simp [h]
theorem c2v (G : GG) (bs : List Int) (v : Int) (hlen : bs.length < 2 ^ 62) : ACalls pg G a7m [slI bs, li v] (lb (decide (v ∈ bs))) := by
 refine a6u rfl ?_
 simp (disch := omega) [go_sem, a4s]
 refine a0j (c81 G bs v hlen) rfl rfl ?_
 simp (disch := omega) [go_sem, b7u]
end
end Go.Ideal.Tryd
end
section
namespace Go.Ideal
def fm {α : Type} (f : α -> List AV) (xs : List α) : List AV := xs.flatMap f
section
variable {α : Type} {f : α -> List AV} {k : Nat} {xs : List α}
@[go_sem] theorem e8y {z y : AV} {zs : List AV} : a7g 1 (z :: y :: zs) = z :: y :: zs := by simp [a7g]
@[go_sem] theorem e3i {zs : List AV} : a7g 0 zs = [] := by simp [a7g]
theorem a8t : fm f [] = [] := rfl
theorem a3o {x : α} : fm f (x :: xs) = f x ++ fm f xs := rfl
theorem a6e (hf : ∀ x, (f x).length = k) : (fm f xs).length = xs.length * k := by
 induction xs with
 | nil => simp [fm]
 | cons x xs ih => rw [a3o, List.length_append, hf, ih, List.length_cons, Nat.add_mul, Nat.one_mul, Nat.add_comm]
theorem a7e {x : α} : fm f [x] = f x := by simp [fm]
theorem a4b (hf : ∀ x, (f x).length = k) : (fm f xs).take (xs.length * k) = fm f xs := List.take_of_length_le (by rw [a6e hf]; exact Nat.le_refl _)
theorem a8s {ys : List α} : fm f (xs ++ ys) = fm f xs ++ fm f ys := by simp [fm, List.flatMap_append]
theorem b05 (hf : ∀ x, (f x).length = k) {i : Nat} (h : i < xs.length) : ((fm f xs).drop (i * k)).take k = f xs[i] := by
 induction xs generalizing i with
 | nil => simp at h
 | cons x xs ih =>
  rw [a3o]
  cases i with
  | zero => rw [Nat.zero_mul, List.drop_zero, List.take_append_of_le_length (by rw [hf]; exact Nat.le_refl _), List.take_of_length_le (by rw [hf]; exact Nat.le_refl _)]; rfl
  | succ i =>
   rw [Nat.add_mul, Nat.one_mul, List.drop_append, hf, List.drop_of_length_le (by rw [hf]; omega), List.nil_append, Nat.add_sub_cancel]
   rw [ih (by simpa using h)]
   rfl
theorem c8v {a b : List AV} : a1n (a ++ b) = a1n a ++ a1n b := by simp only [c0b, List.map_append]
theorem a7d : a1n (fm f xs) = fm (fun x => a1n (f x)) xs := by
 induction xs with
 | nil => simp [fm, a1n]
 | cons x xs ih => rw [a3o, a3o, c8v, ih]
theorem c3j {a b : List AV} : a0n (a ++ b) = (a0n a && a0n b) := by
 induction a with
 | nil => simp [a0n]
 | cons x a ih => simp only [List.cons_append, a0n, ih, Bool.and_assoc]
theorem c3i {a b : List AV} : a04 (a ++ b) = (a04 a && a04 b) := by
 induction a with
 | nil => simp [a04]
 | cons x a ih => simp only [List.cons_append, a04, ih, Bool.and_assoc]
theorem a8e (h : ∀ x, a0n (f x) = true) : a0n (fm f xs) = true := by
 induction xs with
 | nil => simp [fm, a0n]
 | cons x xs ih => rw [a3o, c3j, h, ih]; rfl
theorem a8d (h : ∀ x, a04 (f x) = true) : a04 (fm f xs) = true := by
 induction xs with
 | nil => simp [fm, a04]
 | cons x xs ih => rw [a3o, c3i, h, ih]; rfl
end
end Go.Ideal
end
section
namespace Go.Ideal.Tryd
structure Nd where
 op : Int
 ins : List Int
 args : List Int
 shape : List Int
 wide : Bool
 data : List Int
def a5u (n : Nd) : List AV := [li n.op, slI n.ins, slI n.args, slI n.shape, lb n.wide, slI n.data]
@[go_sem] theorem e59 {xs : List Nd} : (fm a5u xs).length = xs.length * 6 := a6e fun _ => rfl
@[go_sem] theorem e58 {xs : List Nd} {i : Nat} (h : i < xs.length) : ((fm a5u xs).drop (i * 6)).take 6 = [li xs[i].op, slI xs[i].ins, slI xs[i].args, slI xs[i].shape, lb xs[i].wide, slI xs[i].data] := b05 (f := a5u) (k := 6) (fun _ => rfl) h
@[go_sem] theorem d86 {xs : List Nd} : (fm a5u xs).take (xs.length * 6) = fm a5u xs := a4b fun _ => rfl
@[go_sem] theorem d5a {xs : List Nd} : a0n (fm a5u xs) = true := a8e fun _ => rfl
@[go_sem] theorem e57 {xs : List Nd} : a1n (fm a5u xs) = fm a5u xs := by
 rw [a7d]; congr 1
section
variable {G : GG} {Q : Exit -> St -> Prop} {st : St}
def b6s (i : Nat) : List Int -> List (List Int) -> List (List Int)
 | [], u => u
 | k :: ks, u => b6s i ks (if 0 <= k /\ k < (u.length : Int) /\ (i : Int) ∉ u[k.toNat]! then u.set k.toNat (u[k.toNat]! ++ [(i : Int)]) else u)
def c31 : List (List Int) -> Nat -> List (List Int) -> List (List Int)
 | [], _, u => u
 | r :: rs, i, u => c31 rs (i + 1) (b6s i r u)
theorem d32 {row : List Int} {u0 : List (List Int)} {i c : Nat} {v13 v14 v15 : AV} (hu : u0.length < 2 ^ 40) (hr : row.length < 2 ^ 40) (hc : c + row.length < 2 ^ 41) (hb : ∀ r ∈ u0, r.length <= c) (e13 : ∃ n ks, v13 = .sl n ks) (e14 : ∃ v, v14 = .lit v) (e15 : ∃ v, v15 = .lit v)
  (h21 : st.s 21 = slI row) (h22 : st.s 22 = li row.length) (h23 : st.s 23 = li 0) (h3 : st.s 3 = b3y u0) (h4 : st.s 4 = li i) (h13 : st.s 13 = v13) (h14 : st.s 14 = v14) (h15 : st.s 15 = v15)
  (hex : ∀ s, s.s 3 = b3y (b6s i row u0) -> s.s 13 = v13 -> s.s 14 = v14 -> s.s 15 = v15 -> (b6s i row u0).length = u0.length -> (∀ r ∈ b6s i row u0, r.length <= c + row.length) -> Q (.exit 2) s) : AW pg G 57 (.loop a22) Q st := by
 obtain ⟨n13, k13, rfl⟩ := e13
 obtain ⟨w14, rfl⟩ := e14
 obtain ⟨w15, rfl⟩ := e15
 refine a06 (Nat × List (List Int)) (fun p st => p.1 <= row.length /\ b6s i (row.drop p.1) p.2 = b6s i row u0 /\ p.2.length = u0.length /\ (∀ r ∈ p.2, r.length <= c + p.1) /\ st.s 21 = slI row /\ st.s 22 = li row.length /\ st.s 23 = li p.1 /\ st.s 3 = b3y p.2 /\ st.s 4 = li i /\ st.s 13 = .sl n13 k13 /\ st.s 14 = .lit w14 /\ st.s 15 = .lit w15) (fun p => row.length - p.1) (0, u0) ?_ ?_
 ·exact ⟨by simp, rfl, rfl, fun r hr => by have := hb r hr; omega, h21, h22, h23, h3, h4, h13, h14, h15⟩
 ·clear h21 h22 h23 h3 h4 h13 h14 h15
  rintro ⟨j, u⟩ st K ⟨hj, ht, hl, hb2, h21, h22, h23, h3, h4, h13, h14, h15⟩ hK
  simp only at hj ht hl hb2 h23 h3
  by_cases hlt : j < row.length
  ·rw [List.drop_eq_getElem_cons hlt, b6s] at ht
   by_cases k1 : 0 <= row[j]
   ·by_cases k2 : row[j] < (u.length : Int)
    ·have k3 : row[j].toNat < u.length := by omega
     have k4 : u[row[j].toNat].length < 2 ^ 62 := by have := hb2 _ (List.getElem_mem k3); omega
     simp (disch := omega) [go_sem, a22, h21, h22, h23, h3, h4, hlt, k1, k2]
     refine a0j (c2v G u[row[j].toNat] i k4) rfl rfl ?_
     by_cases k5 : (i : Int) ∈ u[row[j].toNat]
     ·rw [if_neg (by simp [k3, k5])] at ht
      simp (disch := omega) [go_sem, h21, h22, h23, h3, h4, hlt, k1, k2, k5]
      exact hK (j + 1, u) _ ⟨by simp only; omega, ht, hl, fun r hr => by have := hb2 r hr; simp only; omega, by simp (disch := omega) [go_sem, h21], by simp (disch := omega) [go_sem, h22], by simp (disch := omega) [go_sem, h23], by simp (disch := omega) [go_sem, h3], by simp (disch := omega) [go_sem, h4], by simp (disch := omega) [go_sem, h13], by simp (disch := omega) [go_sem, h14], by simp (disch := omega) [go_sem, h15]⟩ (by simp only; omega)
     ·rw [if_pos (by simp [k1, k2, k3, k5])] at ht
      have k6 : u[row[j].toNat].length <= c + j := hb2 _ (List.getElem_mem k3)
      simp (disch := omega) [go_sem, h21, h22, h23, h3, h4, hlt, k1, k2, k5]
      refine hK (j + 1, u.set row[j].toNat (u[row[j].toNat]! ++ [(i : Int)])) _ ⟨by simp only; omega, ht, by simpa using hl, fun r hr => ?_, by simp (disch := omega) [go_sem, h21], by simp (disch := omega) [go_sem, h22], by simp (disch := omega) [go_sem, h23], by simp (disch := omega) [go_sem, h3, k3], by simp (disch := omega) [go_sem, h4], by simp (disch := omega) [go_sem, h13], by simp (disch := omega) [go_sem, h14], by simp (disch := omega) [go_sem, h15]⟩ (by simp only; omega)
      simp only at hr ⊢
      rcases List.mem_or_eq_of_mem_set hr with hr | rfl
      ·have := hb2 r hr; omega
      ·simp [k3]; omega
    ·rw [if_neg (by simp; omega)] at ht
     simp (disch := omega) [go_sem, a22, h21, h22, h23, h3, h4, hlt, k1, k2]
     exact hK (j + 1, u) _ ⟨by simp only; omega, ht, hl, fun r hr => by have := hb2 r hr; simp only; omega, by simp (disch := omega) [go_sem, h21], by simp (disch := omega) [go_sem, h22], by simp (disch := omega) [go_sem, h23], by simp (disch := omega) [go_sem, h3], by simp (disch := omega) [go_sem, h4], by simp (disch := omega) [go_sem, h13], by simp (disch := omega) [go_sem, h14], by simp (disch := omega) [go_sem, h15]⟩ (by simp only; omega)
   ·rw [if_neg (by simp; omega)] at ht
    simp (disch := omega) [go_sem, a22, h21, h22, h23, h3, h4, hlt, k1]
    exact hK (j + 1, u) _ ⟨by simp only; omega, ht, hl, fun r hr => by have := hb2 r hr; simp only; omega, by simp (disch := omega) [go_sem, h21], by simp (disch := omega) [go_sem, h22], by simp (disch := omega) [go_sem, h23], by simp (disch := omega) [go_sem, h3], by simp (disch := omega) [go_sem, h4], by simp (disch := omega) [go_sem, h13], by simp (disch := omega) [go_sem, h14], by simp (disch := omega) [go_sem, h15]⟩ (by simp only; omega)
  ·obtain rfl : j = row.length := by omega
   rw [List.drop_eq_nil_of_le (Nat.le_refl _), b6s] at ht
   subst ht
   simp (disch := omega) [go_sem, a22, h21, h22, h23]
   exact hex _ (by simp (disch := omega) [go_sem, h3]) (by simp (disch := omega) [go_sem, h13]) (by simp (disch := omega) [go_sem, h14]) (by simp (disch := omega) [go_sem, h15]) hl hb2
theorem c2j {i : Nat} : ∀ {row : List Int} {u : List (List Int)}, (b6s i row u).length = u.length
 | [], u => rfl
 | k :: ks, u => by
  rw [b6s, c2j]
  split <;> simp
theorem e4w (g : List Nd) (out : Int) (hg : g.length < 2 ^ 40) (hc : tot (g.map (·.ins)) < 2 ^ 40) : ACalls pg G b6u [.agg [.sl g.length (fm a5u g), li out]] (b3y (c31 (g.map (·.ins)) 0 (List.replicate g.length []))) := by
 refine b2k rfl ?_
 simp (disch := omega) [go_sem, b06]
 have hlm : (g.map (·.ins)).length = g.length := by simp
 refine a06 (Nat × List (List Int)) (fun p st => p.1 <= g.length /\ c31 ((g.map (·.ins)).drop p.1) p.1 p.2 = c31 (g.map (·.ins)) 0 (List.replicate g.length []) /\ p.2.length = g.length /\ (∀ r ∈ p.2, r.length <= tot ((g.map (·.ins)).take p.1)) /\ st.s 3 = b3y p.2 /\ st.s 13 = .sl g.length (fm a5u g) /\ st.s 14 = li g.length /\ st.s 15 = li p.1) (fun p => g.length - p.1) (0, List.replicate g.length []) ?_ ?_
 ·exact ⟨by simp, rfl, by simp, fun r hr => by rw [List.eq_of_mem_replicate hr]; simp, by simp (disch := omega) [go_sem], by simp (disch := omega) [go_sem], by simp (disch := omega) [go_sem], by simp (disch := omega) [go_sem]⟩
 ·rintro ⟨i, u⟩ st K ⟨hi, ht, hl, hb, h3, h13, h14, h15⟩ hK
  simp only at hi ht hl hb h3 h15
  by_cases hlt : i < g.length
  ·have hlt2 : i < (g.map (·.ins)).length := by omega
   obtain ⟨t1, t2⟩ := c2i hlt2
   rw [List.getElem_map] at t1
   rw [List.drop_eq_getElem_cons hlt2, List.getElem_map, c31] at ht
   simp (disch := omega) [go_sem, a60, h3, h13, h14, h15, hlt]
   refine d32 (row := g[i].ins) (u0 := u) (i := i) (c := tot ((g.map (·.ins)).take i)) (v13 := .sl g.length (fm a5u g)) (v14 := li g.length) (v15 := li i) (by omega) (by omega) (by omega) hb ⟨_, _, rfl⟩ ⟨_, rfl⟩ ⟨_, rfl⟩ (by simp (disch := omega) [go_sem]) (by simp (disch := omega) [go_sem]) (by simp (disch := omega) [go_sem]) (by simp (disch := omega) [go_sem, h3]) (by simp (disch := omega) [go_sem]) (by simp (disch := omega) [go_sem, h13]) (by simp (disch := omega) [go_sem, h14]) (by simp (disch := omega) [go_sem, h15]) ?_
   intro s k3 k13 k14 k15 kl kb
   simp (disch := omega) [go_sem, k15]
   exact hK (i + 1, b6s i g[i].ins u) _ ⟨by simp only; omega, ht, by simp only; omega, fun r hr => by have := kb r hr; simp only; omega, by simp (disch := omega) [go_sem, k3], by simp (disch := omega) [go_sem, k13], by simp (disch := omega) [go_sem, k14], by simp (disch := omega) [go_sem, k15]⟩ (by simp only; omega)
  ·obtain rfl : i = g.length := by omega
   rw [List.drop_eq_nil_of_le (by omega), c31] at ht
   subst ht
   simp (disch := omega) [go_sem, a60, h3, h13, h14, h15]
end
end Go.Ideal.Tryd
end
section
namespace Go.Ideal.Tryd
section
variable {G : GG} {Q : Exit -> St -> Prop} {st : St}
def d87 (r : List Int) : List AV := [li 4, owI r, .own 1 0 [], .own 1 0 [], lb false, .own 1 0 []]
def f78 (r : List Int) : Nd := ⟨4, r, [], [], false, []⟩
@[go_sem] theorem e6b {xs : List (List Int)} : (fm d87 xs).length = xs.length * 6 := a6e fun _ => rfl
@[go_sem] theorem d88 {xs : List (List Int)} : (fm d87 xs).take (xs.length * 6) = fm d87 xs := a4b fun _ => rfl
@[go_sem] theorem e6a {xs : List (List Int)} : a1n (fm d87 xs) = fm a5u (xs.map f78) := by
 rw [a7d]
 induction xs with
 | nil => rfl
 | cons x xs ih =>
  rw [a3o, List.map_cons, a3o, ih]
  congr 1
  simp [d87, a5u, f78, go_sem]
end
end Go.Ideal.Tryd
end
section
namespace Go.Ideal.Tryd
section
variable {G : GG} {Q : Exit -> St -> Prop} {st : St}
end
end Go.Ideal.Tryd
end
section
namespace Go.Ideal.Tryd
theorem b6m {i : Nat} : ∀ {row : List Int} {u : List (List Int)} {t : Nat}, t < u.length -> (b6s i row u)[t]! = if (t : Int) ∈ row /\ (i : Int) ∉ u[t]! then u[t]! ++ [(i : Int)] else u[t]!
 | [], u, t, ht => by simp [b6s]
 | k :: ks, u, t, ht => by
  rw [b6s]
  by_cases hc : 0 <= k /\ k < (u.length : Int) /\ (i : Int) ∉ u[k.toNat]!
  ·rw [if_pos hc]
   have hk : k.toNat < u.length := by omega
   rw [b6m (by simpa using ht), get!_set hk]
   by_cases htk : t = k.toNat
   ·subst htk
    have : ((k.toNat : Nat) : Int) = k := by omega
    rw [if_pos rfl, if_neg (by simp), if_pos ⟨by rw [this]; simp, hc.2.2⟩]
   ·have : (t : Int) ≠ k := by omega
    simp only [htk, if_false, List.mem_cons, this, false_or]
  ·rw [if_neg hc, b6m ht]
   by_cases htk : (t : Int) = k
   ·have h1 : k.toNat = t := by omega
    rw [h1] at hc
    have h2 : (i : Int) ∈ u[t]! := by
     by_cases h : (i : Int) ∈ u[t]!
     ·exact h
     ·exact absurd ⟨by omega, by omega, h⟩ hc
    rw [if_neg (fun h => h.2 h2), if_neg (fun h => h.2 h2)]
   ·simp only [List.mem_cons, htk, false_or]
def sp (t : Nat) : List (List Int) -> Nat -> List Int
 | [], _ => []
 | r :: rs, i => (if (t : Int) ∈ r then [(i : Int)] else []) ++ sp t rs (i + 1)
theorem b17 {t : Nat} : ∀ {rs : List (List Int)} {i : Nat} {u : List (List Int)}, t < u.length -> (∀ x ∈ u[t]!, x < (i : Int)) -> (c31 rs i u)[t]! = u[t]! ++ sp t rs i /\ (c31 rs i u).length = u.length
 | [], i, u, ht, hx => by simp [c31, sp]
 | r :: rs, i, u, ht, hx => by
  rw [c31]
  have hl : (b6s i r u).length = u.length := c2j
  have hn : (i : Int) ∉ u[t]! := fun h => by have := hx _ h; omega
  have hg := b6m (i := i) (row := r) ht
  by_cases hr : (t : Int) ∈ r
  ·rw [if_pos ⟨hr, hn⟩] at hg
   obtain ⟨h1, h2⟩ := b17 (t := t) (rs := rs) (i := i + 1) (u := b6s i r u) (by omega) (fun x hxx => by
    rw [hg] at hxx
    rcases List.mem_append.1 hxx with h | h
    ·have := hx x h; omega
    ·simp at h; omega)
   rw [h1, h2, hg, sp, if_pos hr, hl]
   simp
  ·rw [if_neg (fun h => hr h.1)] at hg
   obtain ⟨h1, h2⟩ := b17 (t := t) (rs := rs) (i := i + 1) (u := b6s i r u) (by omega) (fun x hxx => by
    rw [hg] at hxx
    have := hx x hxx; omega)
   rw [h1, h2, hg, sp, if_neg hr, hl]
   simp
theorem e4h {t : Nat} : ∀ {rs : List (List Int)} {i : Nat}, ∀ x ∈ sp t rs i, (i : Int) <= x
 | [], i, x, h => by simp [sp] at h
 | r :: rs, i, x, h => by
  rw [sp] at h
  rcases List.mem_append.1 h with h | h
  ·split at h <;> simp at h; omega
  ·have := e4h x h; omega
theorem d0y {t : Nat} : ∀ {rs : List (List Int)} {i : Nat}, (sp t rs i).length <= rs.length
 | [], i => by simp [sp]
 | r :: rs, i => by
  rw [sp, List.length_append]
  have := d0y (t := t) (rs := rs) (i := i + 1)
  split <;> simp <;> omega
end Go.Ideal.Tryd
end
section
namespace Go.Ideal.Tryd
end Go.Ideal.Tryd
end
section
namespace Go.Ideal.Tryd
end Go.Ideal.Tryd
end
section
namespace Go.Ideal.Tryd
section
variable {G : GG} {Q : Exit -> St -> Prop} {st : St}
end
end Go.Ideal.Tryd
end
