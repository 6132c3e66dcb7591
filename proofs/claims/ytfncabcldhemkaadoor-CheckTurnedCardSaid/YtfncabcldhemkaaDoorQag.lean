/- Part Qag of the proof: a machine with trees for values, its soundness, and walks on it. -/
import Derived.Test.YtfncabcldhemkaaDoorQaf
import Derived.Test.YtfncabcldhemkaaDoorProg
import Derived.Carry
import Derived.ChangeSame
import Derived.ChangeVars
import Derived.JoinedOf
import Derived.RowKit
import Derived.RowKitTokens
import Derived.LaidLaws
import Derived.LaidHandle
import Derived.Stop.Joined
import Derived.Handed
import Derived.SevenTiedAt
import Derived.Test.YtfncabcldhemkaaDoorRows
import Derived.MakeChecks
section
set_option linter.unusedVariables false
set_option linter.unusedSimpArgs false
namespace Go.Ideal
section
variable {P : Program} {G : GG} {N : Nat} {st : St} {K : St → Prop} {T : List (Nat × AV)} {u : Nat}
def cvK (N d : Nat) (o : Option (St × Nat × Nat × List AV)) : Option St := match o with
  | some r => gO (r.2.1 = 1 ∧ 0 < r.2.2.1) (some ((r.1.put N (.own r.2.1 r.2.2.1 r.2.2.2)).thru N d (.own r.2.1 r.2.2.1 r.2.2.2)))
  | none => none
@[congr] theorem g0t {d : Nat} {o o' : Option (St × Nat × Nat × List AV)} (h : o = o') : cvK N d o = cvK N d o' := by rw [h]
@[go_sem] theorem g6b {d sz n : Nat} {ks : List AV} : cvK N d (some (st, sz, n, ks)) = gO (sz = 1 ∧ 0 < n) (some ((st.put N (.own sz n ks)).thru N d (.own sz n ks))) := (rfl)
@[go_sem] theorem f88 {d : Nat} {s t : TypeId} {x : X} : evS G N (some d) (.conv s t .keep x) st = cvK N d (tkS st N x (rdv st x)) := by
  simp only [evS, a1f, Ev.run_bind, d39, Option.bind]
  cases tkS st N x (rdv st x) with
  | none => rfl
  | some r =>
    simp only [Option.map, a1t, St.put_s, if_true, a0i, Ev.run_bind, Option.bind, cvK, gO]
    by_cases h1 : r.2.1 = 1
    · by_cases h2 : 0 < r.2.2.1
      · simp only [h1, h2, beq_self_eq_true, decide_true, Bool.and_self, if_true, and_self, a9j]
      · simp only [h1, h2, beq_self_eq_true, decide_false, Bool.and_false, Bool.false_eq_true, if_false, and_false]
    · have : (r.2.1 == 1) = false := by simpa using h1
      simp only [this, Bool.false_and, Bool.false_eq_true, if_false, h1, false_and]
def lkB {α : Type} (b : Bool) (v : α) (o : Option α) : Option α := if b then some v else o
@[congr] theorem g1o {α : Type} {b b' : Bool} {v : α} {o : Option α} (h : b = b') : lkB b v o = lkB b' v o := by rw [h]
@[go_sem] theorem h80 {α : Type} {v : α} {o : Option α} : lkB true v o = some v := (rfl)
@[go_sem] theorem h9a {α : Type} {v : α} {o : Option α} : lkB false v o = o := (rfl)
@[go_sem] theorem g60 {α : Type} {a b : Nat} {v : α} {T : List (Nat × α)} : List.lookup a ((b, v) :: T) = lkB (a == b) v (List.lookup a T) := by
  simp only [List.lookup_cons, lkB]
  cases a == b <;> rfl
def f1x (b : Bool) (o : Option AV) (T : List (Nat × AV)) (v : AV) : AV := if b then (match o with
  | some av => av
  | none => a06 (b2j T) v) else .dead
@[congr] theorem f28 {b b' : Bool} {o o' : Option AV} {v : AV} (h : b = b') (h2 : o = o') : f1x b o T v = f1x b' o' T v := by rw [h, h2]
@[go_sem] theorem h5x {o : Option AV} {v : AV} : f1x false o T v = .dead := (rfl)
@[go_sem] theorem h59 {av v : AV} : f1x true (some av) T v = av := (rfl)
@[go_sem] theorem h7k {v : AV} : f1x true none T v = a06 (b2j T) v := (rfl)
@[go_sem] theorem h3r : (st.lentS N T).s u = f1x (decide (u < N)) (T.lookup u) T (st.s u) := by
  simp only [St.lentS, f1x, decide_eq_true_eq]
  cases T.lookup u <;> rfl
@[go_sem] theorem g5g : (st.lentS N T).ep u = st.ep u := (rfl)
def d5f (o : Option AV) : Bool := match o with
  | some (.var ks) => !a0u ks
  | _ => false
@[congr] theorem f0e {o o' : Option AV} (h : o = o') : d5f o = d5f o' := by rw [h]
@[go_sem] theorem h24 : d5f none = false := (rfl)
@[go_sem] theorem h1g {ks : List AV} : d5f (some (.var ks)) = !a0u ks := (rfl)
theorem c9r {t i : Nat} {q : List Nat} : b2j T t (i :: q) = d5f (T.lookup t) := by
  simp only [b2j, d5f]
  cases T.lookup t with
  | none => rfl
  | some av => cases av <;> rfl
def e8w (b : Bool) (v : AV) : AV := if b then .dead else v
@[congr] theorem f4m {b b' : Bool} {v : AV} (h : b = b') : e8w b v = e8w b' v := by rw [h]
@[go_sem] theorem h43 {v : AV} : e8w true v = .dead := (rfl)
@[go_sem] theorem h71 {v : AV} : e8w false v = v := (rfl)
@[go_sem] theorem f52 {t o e : Nat} : a06 (b2j T) (.ref t [] o e) = .ref t [] o e := by simp [a06, b2j]
@[go_sem] theorem f3x {t i o e : Nat} {q : List Nat} : a06 (b2j T) (.ref t (i :: q) o e) = e8w (d5f (T.lookup t)) (.ref t (i :: q) o e) := by simp only [a06, c9r, e8w]
@[go_sem] theorem f5e {t lo n e : Nat} : a06 (b2j T) (.bor t [] lo n e) = .bor t [] lo n e := by simp [a06, b2j]
@[go_sem] theorem f6b {t i lo n e : Nat} {q : List Nat} : a06 (b2j T) (.bor t (i :: q) lo n e) = e8w (d5f (T.lookup t)) (.bor t (i :: q) lo n e) := by simp only [a06, c9r, e8w]
def d8x (b : Bool) (o : Option (List AV × List (Nat × Nat))) : Option (List AV × List (Nat × Nat)) := if b then o else none
@[congr] theorem f4b {b b' : Bool} {o : Option (List AV × List (Nat × Nat))} (h : b = b') : d8x b o = d8x b' o := by rw [h]
@[go_sem] theorem h6b {o : Option (List AV × List (Nat × Nat))} : d8x true o = o := (rfl)
section
variable {st1 : St} {acc : List AV} {L : List (Nat × Nat)} {es : List (Option Nat × AV)}
def pxV (N : Nat) (st1 st : St) (acc : List AV) (L : List (Nat × Nat)) (t : Nat) (v v1 : AV) (es : List (Option Nat × AV)) : Option (List AV × List (Nat × Nat)) := match v, v1 with
  | .var (k :: ks), .var (_ :: _) => pX N st1 st (acc ++ [.var (k :: ks)]) (L ++ [(t, acc.length)]) es
  | _, _ => none
def pxR (N : Nat) (st1 st : St) (acc : List AV) (L : List (Nat × Nat)) (t e : Nat) (o : Option Nat) (es : List (Option Nat × AV)) : Option (List AV × List (Nat × Nat)) := match o with
  | some j => d8x (decide (e = st.ep t)) (pX N st1 st (acc ++ [.ref j [] 0 0]) L es)
  | none => d8x (decide (e = st.ep t) && decide (t < N)) (pxV N st1 st acc L t (st.s t) (st1.s t) es)
def pxT (N : Nat) (st1 st : St) (acc : List AV) (L : List (Nat × Nat)) (o : Option AV) (es : List (Option Nat × AV)) : Option (List AV × List (Nat × Nat)) := match o with
  | some p => pX N st1 st (acc ++ [p]) L es
  | none => none
@[congr] theorem f7u {t : Nat} {v v' v1 v1' : AV} (h : v = v') (h1 : v1 = v1') : pxV N st1 st acc L t v v1 es = pxV N st1 st acc L t v' v1' es := by rw [h, h1]
@[congr] theorem f6g {t e : Nat} {o o' : Option Nat} (h : o = o') : pxR N st1 st acc L t e o es = pxR N st1 st acc L t e o' es := by rw [h]
@[congr] theorem g0h {o o' : Option AV} (h : o = o') : pxT N st1 st acc L o es = pxT N st1 st acc L o' es := by rw [h]
@[congr] theorem g5b {acc' : List AV} {L' : List (Nat × Nat)} {es' : List (Option Nat × AV)} (h1 : acc = acc') (h2 : L = L') (h3 : es = es') : pX N st1 st acc L es = pX N st1 st acc' L' es' := by rw [h1, h2, h3]
@[go_sem] theorem h2w {t : Nat} {k k1 : AV} {ks ks1 : List AV} : pxV N st1 st acc L t (.var (k :: ks)) (.var (k1 :: ks1)) es = pX N st1 st (acc ++ [.var (k :: ks)]) (L ++ [(t, acc.length)]) es := (rfl)
@[go_sem] theorem h73 {t e j : Nat} : pxR N st1 st acc L t e (some j) es = d8x (decide (e = st.ep t)) (pX N st1 st (acc ++ [.ref j [] 0 0]) L es) := (rfl)
@[go_sem] theorem h77 {t e : Nat} : pxR N st1 st acc L t e none es = d8x (decide (e = st.ep t) && decide (t < N)) (pxV N st1 st acc L t (st.s t) (st1.s t) es) := (rfl)
@[go_sem] theorem h88 {p : AV} : pxT N st1 st acc L (some p) es = pX N st1 st (acc ++ [p]) L es := (rfl)
@[go_sem] theorem h7a : pX N st1 st acc L [] = some (acc, L) := (rfl)
@[go_sem] theorem h9y {k : Nat} {av : AV} : pX N st1 st acc L ((some k, av) :: es) = d8x (a0r av) (pX N st1 st (acc ++ [av]) L es) := by
  simp only [pX, d8x]
@[go_sem] theorem h4e {t e : Nat} : pX N st1 st acc L ((none, .ref t [] 0 e) :: es) = pxR N st1 st acc L t e (L.lookup t) es := by
  simp only [pX, pxR, d8x, pxV, decide_eq_true_eq, Bool.and_eq_true]
  cases L.lookup t <;> rfl
@[go_sem] theorem h67 {v : Value} : pX N st1 st acc L ((none, .lit v) :: es) = pX N st1 st (acc ++ [.lit v]) L es := (rfl)
@[go_sem] theorem h74 {n : Nat} {ks : List AV} : pX N st1 st acc L ((none, .sl n ks) :: es) = pX N st1 st (acc ++ [.sl n ks]) L es := (rfl)
@[go_sem] theorem h86 {n : Nat} {ks : List AV} : pX N st1 st acc L ((none, .ip ks n) :: es) = pX N st1 st (acc ++ [.ip ks n]) L es := (rfl)
@[go_sem] theorem h7y {ks : List AV} : pX N st1 st acc L ((none, .agg ks) :: es) = d8x (a0u ks) (pX N st1 st (acc ++ [.agg ks]) L es) := by
  simp only [pX, trA, a0s, d8x]
  by_cases h : a0u ks = true <;> simp [h]
@[go_sem] theorem h6q {t : TypeId} {k : AV} : pX N st1 st acc L ((none, .ifc t k) :: es) = d8x (a0s k) (pX N st1 st (acc ++ [.ifc t k]) L es) := by
  simp only [pX, trA, a0s, d8x]
  by_cases h : a0s k = true <;> simp [h]
@[go_sem] theorem h89 {f : FuncId} {fs cs : List AV} : pX N st1 st acc L ((none, .fn f fs cs) :: es) = pxT N st1 st acc L (trA st L (.fn f fs cs)) es := (rfl)
def fn2 (f : FuncId) (a b : Option (List AV)) : Option AV := match a, b with
  | some a, some b => some (.fn f a b)
  | _, _ => none
@[go_sem] theorem h8o {f : FuncId} {a b : List AV} : fn2 f (some a) (some b) = some (.fn f a b) := (rfl)
@[go_sem] theorem h6p {f : FuncId} {fs cs : List AV} : trA st L (.fn f fs cs) = fn2 f (trL st L fs) (trL st L cs) := by
  simp only [trA, fn2]
  cases trL st L fs <;> cases trL st L cs <;> rfl
@[go_sem] theorem g91 : trL st L [] = some [] := by simp only [trL]
@[go_sem] theorem g4g {k : AV} {ks : List AV} : trL st L (k :: ks) = avs (trA st L k) (trL st L ks) := by
  simp only [trL, avs]
  cases trA st L k <;> cases trL st L ks <;> rfl
@[go_sem] theorem h0c {v : Value} : trA st L (.lit v) = some (.lit v) := by simp only [trA, a0s, if_true]
@[go_sem] theorem h42 {n : Nat} {ks : List AV} : trA st L (.sl n ks) = some (.sl n ks) := by simp only [trA, a0s, if_true]
@[go_sem] theorem h6w {n : Nat} {ks : List AV} : trA st L (.ip ks n) = some (.ip ks n) := by simp only [trA, a0s, if_true]
def g0g (b : Bool) (l : Option Nat) (o : Nat) : Option AV := if b then l.map fun i => .ref i [] o 0 else none
@[congr] theorem f51 {b b' : Bool} {l l' : Option Nat} {o : Nat} (h : b = b') (h2 : l = l') : g0g b l o = g0g b' l' o := by rw [h, h2]
@[go_sem] theorem h47 {i o : Nat} : g0g true (some i) o = some (.ref i [] o 0) := (rfl)
@[go_sem] theorem g8r {t o e : Nat} : trA st L (.ref t [] o e) = g0g (decide (e = st.ep t)) (L.lookup t) o := by simp [trA, g0g]
@[go_sem] theorem h9g {t : Nat} : xv st (.t t) = st.s t := (rfl)
@[go_sem] theorem h9c {v : Value} : xv st (.c v) = .lit v := (rfl)
@[go_sem] theorem h9h {n : Nat} : xv st (.f n) = .fn n [] [] := (rfl)
@[go_sem] theorem h9m {n : Nat} : xv st (.g n) = .lit (.pointer (some ⟨n, 0, none⟩)) := (rfl)
@[go_sem] theorem h1u {fs cs : List AV} {lay : List CS} : d1r N st fs lay cs = fs.map (fun a => (none, a)) ++ (lay.map (e2a N st) ++ cs.map (fun a => (none, a))) := (rfl)
@[go_sem] theorem h7r {k : Nat} : e2a N st (.p k) = (some k, st.s (N + 2 + k)) := (rfl)
@[go_sem] theorem h7v {y : X} : e2a N st (.x y) = (none, xv st y) := (rfl)
end
def g6m (st : St) (N : Nat) (T : List (Nat × AV)) (d : Option Nat) (res : AV) : St := match d with
  | some d => (st.lentS N T).thru N d res
  | none => st.lentS N T
@[go_sem] theorem f6c {d : Nat} {res : AV} : g6m st N T (some d) res = (st.lentS N T).thru N d res := (rfl)
@[go_sem] theorem f7i {res : AV} : g6m st N T none res = st.lentS N T := (rfl)
def f2i : AV → Bool
  | .var _ => true
  | _ => false
def clx (P : Program) (G : GG) (N : Nat) (d : Option Nat) (f : FuncId) (pre : List AV) (L : List (Nat × Nat)) (st1 st2 : St) (K : St → Prop) : Prop :=
  ∃ res posts, ACallsX P G f pre res posts ∧ a0r res = true ∧ posts.map (·.1) = L.map (·.2) ∧ (posts.all fun p => f2i p.2) = true ∧ K (g6m (if a0z res && posts.all fun p => a0z p.2 then st1 else st2) N ((L.map (·.1)).zip (posts.map (·.2))) d res)
def f4v (P : Program) (G : GG) (N : Nat) (d : Option Nat) (f : FuncId) (st1 st2 : St) (o : Option (List AV × List (Nat × Nat))) (K : St → Prop) : Prop := match o with
  | some x => clx P G N d f x.1 x.2 st1 st2 K
  | none => False
def f0l (P : Program) (G : GG) (N : Nat) (d : Option Nat) (v : AV) (lay : List CS) (st1 st2 : St) (K : St → Prop) : Prop := match v with
  | .fn f fs cs => fnB P f = true ∧ f4v P G N d f st1 st2 (pX N st1 st2 [] [] (d1r N st2 fs lay cs)) K
  | _ => False
def e6y (P : Program) (G : GG) (N : Nat) (d : Option Nat) (cv : X) (lay : List CS) (o1 o2 : Option St) (K : St → Prop) : Prop := match o1, o2 with
  | some st1, some st2 => f0l P G N d (xv st2 cv) lay st1 st2 K
  | _, _ => False
def f0o (P : Program) (G : GG) (N : Nat) (d : Option Nat) (cv : X) (args : List (Bool × X)) (lay : List CS) (o1 : Option St) (K : St → Prop) : Prop := e6y P G N d cv lay o1 (pss N (N + 2) args o1) K
section
variable {d : Option Nat} {cv : X} {args : List (Bool × X)} {lay : List CS} {st1 st2 : St} {f : FuncId}
@[congr] theorem f4q {o o' : Option St} (h : o = o') : f0o P G N d cv args lay o K = f0o P G N d cv args lay o' K := by rw [h]
@[congr] theorem f5v {o1 o o' : Option St} (h : o = o') : e6y P G N d cv lay o1 o K = e6y P G N d cv lay o1 o' K := by rw [h]
@[congr] theorem f3s {v v' : AV} (h : v = v') : f0l P G N d v lay st1 st2 K = f0l P G N d v' lay st1 st2 K := by rw [h]
@[congr] theorem f4g {o o' : Option (List AV × List (Nat × Nat))} (h : o = o') : f4v P G N d f st1 st2 o K = f4v P G N d f st1 st2 o' K := by rw [h]
@[congr] theorem g1n {pre pre' : List AV} {L L' : List (Nat × Nat)} (h : pre = pre') (h2 : L = L') : clx P G N d f pre L st1 st2 K = clx P G N d f pre' L' st1 st2 K := by rw [h, h2]
@[go_sem] theorem g3q : f0o P G N d cv args lay (some st) K = e6y P G N d cv lay (some st) (pss N (N + 2) args (some st)) K := (rfl)
@[go_sem] theorem g1m : e6y P G N d cv lay (some st1) (some st2) K = f0l P G N d (xv st2 cv) lay st1 st2 K := (rfl)
@[go_sem] theorem h28 {fs cs : List AV} : f0l P G N d (.fn f fs cs) lay st1 st2 K = (fnB P f = true ∧ f4v P G N d f st1 st2 (pX N st1 st2 [] [] (d1r N st2 fs lay cs)) K) := (rfl)
@[go_sem] theorem g25 {pre : List AV} {L : List (Nat × Nat)} : f4v P G N d f st1 st2 (some (pre, L)) K = clx P G N d f pre L st1 st2 K := (rfl)
@[go_sem] theorem f3u {tys : List TypeId} {rest : List AO} : b28 P G N (⟨d, .callx cv args lay tys, none⟩ :: rest) K st = f0o P G N d cv args lay (gvs N (N + 2) args (some st)) (b28 P G N rest K) := by
  simp only [b28, b3b, c9c, d8y]
  rw [← a9d]
  have hvar : ∀ {posts : List (Nat × AV)}, (∀ i av, (i, av) ∈ posts → ∃ ks, av = .var ks) ↔ (posts.all fun p => f2i p.2) = true := by
    intro posts
    simp only [List.all_eq_true]
    constructor
    · rintro h ⟨i, av⟩ hm
      obtain ⟨ks, rfl⟩ := h i av hm
      rfl
    · intro h i av hm
      have := h _ hm
      cases av <;> simp [f2i] at this
      exact ⟨_, rfl⟩
  apply propext
  constructor
  · rintro ⟨f, fs, cs, st1, st2, L, pre, res, posts, st3, h1, h2, h3, h4, h5, h6, h7, h8, h9, h10, h11⟩
    have e2 := a30 (N := N) args (N + 2) st1
    rw [h2] at e2
    simp only [h1, Option.map, f0o, e6y, ← e2, h3, f0l, h5, f4v]
    refine ⟨h4, res, posts, h6, h7, h8, hvar.1 h9, ?_⟩
    have : g6m (if a0z res && posts.all fun p => a0z p.2 then st1 else st2) N ((L.map (·.1)).zip (posts.map (·.2))) d res = st3 := by
      cases d with
      | none =>
        simp only [d6j, Ev.run_pure, Option.some.injEq, Prod.mk.injEq, true_and] at h10
        exact h10
      | some d =>
        simp only [d6j, a9j, Option.some.injEq, Prod.mk.injEq, true_and] at h10
        exact h10
    rw [this]; exact h11
  · cases h1 : (a5h N (N + 2) args).run st with
    | none => intro h; simp only [Option.map, f0o, e6y] at h
    | some r =>
      obtain ⟨_, st1⟩ := r
      simp only [Option.map, f0o]
      rw [← a30]
      cases h2 : (a3k N (N + 2) args).run st1 with
      | none => intro h; simp only [Option.map, e6y] at h
      | some r2 =>
        obtain ⟨_, st2⟩ := r2
        simp only [Option.map, e6y]
        cases h3 : xv st2 cv <;> simp only [f0l] <;> try exact False.elim
        rename_i f fs cs
        rintro ⟨h4, h⟩
        cases h5 : pX N st1 st2 [] [] (d1r N st2 fs lay cs) with
        | none => rw [h5] at h; exact h.elim
        | some x =>
          obtain ⟨pre, L⟩ := x
          rw [h5] at h
          obtain ⟨res, posts, h6, h7, h8, h9, h10⟩ := h
          refine ⟨f, fs, cs, st1, st2, L, pre, res, posts, _, rfl, h2, h3, h4, h5, h6, h7, h8, hvar.2 h9, ?_, h10⟩
          cases d <;> rfl
end
section
variable {d : Option Nat} {cv : X} {args : List (Bool × X)} {lay : List CS} {f : FuncId} {aft : DA} {rest : List AO} {fps : List (List Nat × List Nat)} {K : St → Prop} {ex : List Nat}
def h1i : AV → Bool
  | .var ks => a0u ks
  | _ => false
@[go_sem] theorem g3i {ks : List AV} : h1i (.var ks) = a0u ks := (rfl)
@[go_sem] theorem g5o {v : Value} : e6c (.lit v) = true := (rfl)
@[go_sem] theorem g2t {rd : List Nat} {n : Nat} : a5f rd (.t n) = rd.contains n := (rfl)
@[go_sem] theorem g2y {rd : List Nat} {v : Value} : a5f rd (.c v) = true := (rfl)
@[go_sem] theorem f9o {rd : List Nat} {n : Nat} : a5f rd (.f n) = true := (rfl)
@[go_sem] theorem g2v {rd : List Nat} {n : Nat} : a5f rd (.g n) = true := (rfl)
@[go_sem] theorem f5m {rd : List Nat} {t : Nat} {q : List Nat} {o e : Nat} : a3c rd (.ref t q o e) = rd.contains t := by simp only [a3c]
@[go_sem] theorem f3l {rd : List Nat} {t : Nat} {q : List Nat} {lo n e : Nat} : a3c rd (.bor t q lo n e) = rd.contains t := by simp only [a3c]
@[go_sem] theorem f7o {rd : List Nat} {f : FuncId} {a c : List AV} : a3c rd (.fn f a c) = (a2y rd a && a2y rd c) := by simp only [a3c]
@[go_sem] theorem f2q {rd : List Nat} {v : Value} : a3c rd (.lit v) = true := by simp only [a3c]
@[go_sem] theorem g2n {rd : List Nat} {n : Nat} {ks : List AV} : a3c rd (.sl n ks) = true := by simp only [a3c]
@[go_sem] theorem f1e {rd : List Nat} : a2y rd [] = true := by simp only [a2y]
@[go_sem] theorem e84 {rd : List Nat} {k : AV} {ks : List AV} : a2y rd (k :: ks) = (a3c rd k && a2y rd ks) := by simp only [a2y]
@[go_sem] theorem f2r {rd : List Nat} : d7n st rd args = args.all fun p => !p.1 && (e6c (rdv st p.2) && a5f rd p.2) := (rfl)
@[go_sem] theorem e9a {j : Nat} : a1l st j [] = st := (rfl)
@[go_sem] theorem e8y {j : Nat} {p : Bool × X} : a1l st j (p :: args) = a1l (st.put j (rdv st p.2)) (j + 1) args := (rfl)
@[go_sem] theorem f8p {rd : List Nat} {n : Nat} : d8u st rd n [] = true := (rfl)
@[go_sem] theorem g9n {rd : List Nat} {n k : Nat} : d8u st rd n (.p k :: lay) = (decide (k < n) && d8u st rd n lay) := (rfl)
@[go_sem] theorem h0y {rd : List Nat} {n : Nat} {y : X} : d8u st rd n (.x y :: lay) = ((a5f rd y && a3c rd (xv st y)) && d8u st rd n lay) := (rfl)
def dCx (P : Program) (G : GG) (N : Nat) (aft : DA) (ex : List Nat) (d : Option Nat) (cv : X) (args : List (Bool × X)) (lay : List CS) (rest : List AO) (fps : List (List Nat × List Nat)) (K : St → Prop) (st : St) : Prop :=
  e5x P G N aft ex d (.callx cv args lay []) fps (fun fps st => b0x aft.2 st ∧ b1s P G N aft rest fps K st) st
@[congr] theorem f6e {st' : St} (h : st = st') : dCx P G N aft ex d cv args lay rest fps K st = dCx P G N aft ex d cv args lay rest fps K st' := by rw [h]
@[go_sem] theorem f26 {tys : List TypeId} : b1s P G N aft (⟨d, .callx cv args lay tys, none⟩ :: rest) fps K st = dCx P G N aft [] d cv args lay rest fps K st := (rfl)
end
def e01 (rs : List RV) (res : AV) (posts : List (Nat × AV)) : Exit → St → Prop
  | .normal, st | .ret, st => f5h rs st = some res ∧ ∀ p ∈ posts, st.s p.1 = p.2
  | _, _ => False
section
variable {rs : List RV} {res : AV} {posts : List (Nat × AV)}
@[congr] theorem e9y {e : Exit} {st' : St} (h2 : st = st') : e01 rs res posts e st = e01 rs res posts e st' := by rw [h2]
def poK : List (Nat × AV) → St → Prop
  | [], _ => True
  | p :: ps, st => st.s p.1 = p.2 ∧ poK ps st
@[congr] theorem g1v {ps : List (Nat × AV)} {st' : St} (h : st = st') : poK ps st = poK ps st' := by rw [h]
@[go_sem] theorem g9h : poK [] st = True := (rfl)
@[go_sem] theorem g6c {t : Nat} {v : AV} {ps : List (Nat × AV)} : poK ((t, v) :: ps) st = (st.s t = v ∧ poK ps st) := (rfl)
theorem d7r : ∀ {ps : List (Nat × AV)}, (∀ p ∈ ps, st.s p.1 = p.2) = poK ps st
  | [] => by simp [poK]
  | p :: ps => by simp only [List.mem_cons, forall_eq_or_imp, poK, d7r (ps := ps)]
@[go_sem] theorem h3n : e01 rs res posts .normal st = (f01 (rvL rs st) = some res ∧ poK posts st) := by rw [← d7r]; rfl
@[go_sem] theorem g8f : e01 rs res posts .ret st = (f01 (rvL rs st) = some res ∧ poK posts st) := by rw [← d7r]; rfl
theorem d6t {vs : List ResultVar} (h : d50 P N rs vs = true) : ∀ e st, e01 rs res posts e st → h7p P N vs res posts e st := by
  intro e st hq
  have key : f5h rs st = some res → c2b P N st vs = some res := by
    intro hk
    unfold f5h at hk
    cases hl : rvL rs st with
    | none => rw [hl] at hk; cases hk
    | some ks =>
      rw [hl] at hk
      simp only [c2b, b9t h hl]
      exact hk
  cases e <;> first | exact ⟨key hq.1, hq.2⟩ | exact hq
end
theorem ACallsX.of_walk {P : Program} {G : GG} {f : FuncId} {fn : Func} {c : Code} {N : Nat} {vs : List ResultVar} {rs : List RV} {ic : IC} (hord : P.follows .mixedOrders = true) (hf : P.funcs[f]? = some fn) (hb : fn.body = some c) (hN : fn.ntmps = N) (hrs : fn.results.toList = vs) (hnd : (vs.map rvT).Nodup)
    (he : b22 c = ic.ec) (hok : ic.ok P N = true) (hr : d50 P N rs vs = true) {pins : List Nat} (hpin : ic.pin pins = true) {pre : List AV} {res : AV} {posts : List (Nat × AV)} (hsz : pre.length ≤ N) (hpo : posts.map (·.1) = pins) (hpr : pins.all (fun t => !(vs.map rvT).contains t && decide (t < pre.length)) = true) (hnr : (posts.all fun p => a0r p.2) = true)
    (h : AW P G N ic (e01 rs res posts) (St.init pre)) : ACallsX P G f pre res posts :=
  b14 hf hb hN hrs hnd hsz (fun p hp => by
    have := List.all_eq_true.1 hpr p.1 (by rw [← hpo]; exact List.mem_map.2 ⟨p, hp, rfl⟩)
    simp only [Bool.and_eq_true, Bool.not_eq_true', decide_eq_true_eq] at this
    exact ⟨fun hm => by simp [hm] at this, this.2, List.all_eq_true.1 hnr p hp⟩) (by rw [hpo]; exact (d9s hord ic c _ _ he hok hpin h).mono (d6t hr))
end
end Go.Ideal
end
section
set_option linter.unusedVariables false
set_option linter.unusedSimpArgs false
namespace Go.Ideal
abbrev oo (d : Nat) (i : IOp) : AO := ⟨some d, .op i, none⟩
abbrev om (d t : Nat) : AO := ⟨some d, .op (.mv (.t t)), none⟩
abbrev ov (i : IOp) : AO := ⟨none, .op i, none⟩
abbrev og (d : Nat) (i : IOp) (j t : Nat) (b : Bool) : AO := ⟨some d, .op i, some (j, t, b)⟩
abbrev oc (d : Nat) (f : FuncId) (args : List (Bool × X)) (tys : List TypeId) : AO := ⟨some d, .call f args tys, none⟩
abbrev X.n (k : Int) : X := .c (.int .i64 k)
abbrev fnK : Type := Bool × Option Func × Option EC × Nat × List ResultVar × Bool × Bool × Bool
def fnL (P : Program) (f : FuncId) (fn : Func) (N : Nat) (rs : List RV) (vs : List ResultVar) (ic : IC) : fnK :=
  (P.follows .mixedOrders, P.funcs[f]?, fn.body.map b22, fn.ntmps, fn.results.toList, decide ((vs.map rvT).Nodup), ic.ok P N, d50 P N rs vs)
def fnR (fn : Func) (N : Nat) (vs : List ResultVar) (ic : IC) : fnK := (true, some fn, some ic.ec, N, vs, true, true, true)
abbrev fnC (P : Program) (f : FuncId) (N : Nat) (rs : List RV) (ic : IC) : Prop :=
  ∀ {G : GG} {pre : List AV} {res : AV} (hsz : decide (pre.length ≤ N) = true) (hw : AW P G N ic (f1k rs res) (St.init pre)), ACalls P G f pre res
section
variable {P : Program} {f : FuncId} {N : Nat} {rs : List RV} {ic : IC}
theorem a0x (fn : Func) (vs : List ResultVar) (h : fnL P f fn N rs vs ic = fnR fn N vs ic) : fnC P f N rs ic := by
  intro G pre res hsz hw
  simp only [fnL, fnR, Prod.mk.injEq, Option.map_eq_some_iff, decide_eq_true_eq] at h
  obtain ⟨h1, h2, ⟨c, hc, he⟩, h4, h5, h6, h7, h8⟩ := h
  exact ACalls.of_walk h1 h2 hc h4 h5 h6 he h7 h8 (of_decide_eq_true hsz) hw
end
end Go.Ideal
end
section
set_option linter.unusedSimpArgs false
set_option linter.unusedVariables false
set_option maxRecDepth 10000
namespace Go.Ideal.Tryd
noncomputable abbrev pg : Program := Go.Proofs.Tryd.prog
@[go_sem] def b8n : List AO := [oo 3 (.box 48 3 (.t 1)),
 oo 4 (.asg (.c (.bool false)))]
@[go_sem] def b8m : List AO := [om 5 0,
 oc 6 36 [(false, (.t 5))] [45],
 oo 7 (.load 48 (some 3) (.t 3)),
 oc 8 35 [(false, (.t 6)), (false, (.t 7))] [48, 48],
 oo 4 (.asg (.t 8))]
def b1w : IC := (.seq (.reg b8n) (.seq (.draw b8m [[], [0], [], [1, 2, 1], [3, 3, 0, 1, 2, 3]]) .ret))
abbrev c2f : Nat := 17
theorem b4l : fnC pg 17 9 [(.tmp 4)] b1w := a0x Go.Proofs.Tryd.f17 [(.tmp 4)] (by kernel_rfl)
@[go_sem] theorem e0j : fnB pg 17 = true := by kernel_rfl
@[go_sem] def b23 : List AO := [oo 4 (.asg (.n 0))]
@[go_sem] def b2s : List AO := [om 5 0,
 om 6 1,
 oo 7 (.bin .rem 3 0 (.t 5) (.t 6) 3),
 om 8 1,
 oo 9 (.bin .add 3 0 (.t 7) (.t 8) 3),
 om 10 1,
 oo 11 (.bin .rem 3 0 (.t 9) (.t 10) 3),
 oo 4 (.asg (.t 11))]
def a58 : IC := (.seq (.reg b23) (.seq (.reg b2s) .ret))
abbrev b38 : Nat := 12
theorem b07 : fnC pg 12 12 [(.tmp 4)] a58 := a0x Go.Proofs.Tryd.f12 [(.tmp 4)] (by kernel_rfl)
@[go_sem] theorem d57 : fnB pg 12 = true := by kernel_rfl
@[go_sem] def b55 : List AO := [oo 4 (.alloc 48 [.lit (.int .i64 0), .lit (.bool false), .lit (.int .i64 0)])]
@[go_sem] def b5k : List AO := [om 5 0,
 oo 6 (.bin .eql 3 0 (.t 5) (.n 0) 3)]
@[go_sem] def b6f : List AO := [oc 7 40 [] [],
 ov (.store 48 3 (.t 4) (.t 7))]
@[go_sem] def b4q : List AO := [om 8 0,
 om 9 1,
 oo 10 (.build 48 [.lit (.int .i64 0), .lit (.bool false), .lit (.int .i64 0)] [(0, 0, 1, (.t 8)), (1, 1, 1, (.c (.bool true))), (2, 2, 1, (.t 9))]),
 ov (.store 48 3 (.t 4) (.t 10))]
def a9p : IC := (.seq (.reg b55) (.seq (.seq (.reg b5k) (.cond (.t 6) (.seq (.reg b6f) .ret) .skip)) (.seq (.reg b4q) .ret)))
abbrev b7t : Nat := 19
theorem b2r : fnC pg 19 11 [(.cells 4 3)] a9p := a0x Go.Proofs.Tryd.f19 [(.cell 4 48)] (by kernel_rfl)
@[go_sem] theorem d6y : fnB pg 19 = true := by kernel_rfl
@[go_sem] def b85 : List AO := [oo 0 (.alloc 48 [.lit (.int .i64 0), .lit (.bool false), .lit (.int .i64 0)])]
@[go_sem] def b9g : List AO := [oo 1 (.build 48 [.lit (.int .i64 0), .lit (.bool false), .lit (.int .i64 0)] []),
 ov (.store 48 3 (.t 0) (.t 1))]
def b1u : IC := (.seq (.reg b85) (.seq (.reg b9g) .ret))
abbrev c0i : Nat := 40
theorem b5a : fnC pg 40 2 [(.cells 0 3)] b1u := a0x Go.Proofs.Tryd.f40 [(.cell 0 48)] (by kernel_rfl)
@[go_sem] theorem d9x : fnB pg 40 = true := by kernel_rfl
@[go_sem] def b12 : List AO := [oo 2 (.box 48 3 (.t 0)),
 oo 3 (.box 48 3 (.t 1)),
 oo 4 (.asg (.c (.bool false)))]
@[go_sem] def b1c : List AO := [oo 5 (.faddr 48 0 (.t 2) 0),
 oo 6 (.load 3 none (.t 5)),
 oo 7 (.faddr 48 0 (.t 3) 0),
 oo 8 (.load 3 none (.t 7)),
 oo 9 (.bin .eql 3 0 (.t 6) (.t 8) 3),
 om 10 9,
 og 11 (.faddr 48 1 (.t 2) 1) 5 10 true,
 og 12 (.load 4 none (.t 11)) 5 10 true,
 og 13 (.faddr 48 1 (.t 3) 1) 5 10 true,
 og 14 (.load 4 none (.t 13)) 5 10 true,
 og 15 (.bin .eql 4 1 (.t 12) (.t 14) 4) 5 10 true,
 oo 16 (.pick (.t 10) (.t 15) (.c (.bool false))),
 om 17 16,
 og 18 (.faddr 48 2 (.t 2) 2) 12 17 true,
 og 19 (.load 3 none (.t 18)) 12 17 true,
 og 20 (.faddr 48 2 (.t 3) 2) 12 17 true,
 og 21 (.load 3 none (.t 20)) 12 17 true,
 og 22 (.bin .eql 3 0 (.t 19) (.t 21) 3) 12 17 true,
 oo 23 (.pick (.t 17) (.t 22) (.c (.bool false))),
 oo 4 (.asg (.t 23))]
def a5k : IC := (.seq (.reg b12) (.seq (.reg b1c) .ret))
abbrev b2x : Nat := 35
theorem b0d : fnC pg 35 24 [(.tmp 4)] a5k := a0x Go.Proofs.Tryd.f35 [(.tmp 4)] (by kernel_rfl)
@[go_sem] theorem d33 : fnB pg 35 = true := by kernel_rfl
@[go_sem] def b6t : List AO := [oo 2 (.alloc 48 [.lit (.int .i64 0), .lit (.bool false), .lit (.int .i64 0)])]
@[go_sem] def b7l : List AO := [om 5 0,
 oo 6 (.bin .eql 45 2 (.t 5) (.c .nilIface) 45)]
@[go_sem] def b7d : List AO := [oc 7 40 [] [],
 ov (.store 48 3 (.t 2) (.t 7))]
@[go_sem] def b65 : List AO := [om 9 0,
 oo 10 (.tas (.t 9) 45 110 [.lit (.pointer none)]),
 om 8 10,
 oo 11 (.ext (.t 8) 0),
 oo 12 (.ext (.t 8) 1),
 oo 3 (.asg (.t 11)),
 oo 4 (.asg (.t 12))]
@[go_sem] def b6w : List AO := [om 13 4,
 oo 14 (.un .not 4 (.t 13))]
@[go_sem] def b66 : List AO := [om 15 0,
 oc 16 57 [(false, (.t 15))] [45],
 oc 17 44 [(false, (.t 16))] [3],
 ov (.store 48 3 (.t 2) (.t 17))]
@[go_sem] def b7o : List AO := [om 18 3,
 oo 19 (.bin .eql 110 3 (.t 18) (.c (.pointer none)) 110),
 om 20 19,
 og 21 (.mv (.t 3)) 2 20 false,
 og 22 (.nilck (.t 21)) 2 20 false,
 og 23 (.faddr 114 1 (.t 22) 1) 2 20 false,
 og 24 (.load 45 none (.t 23)) 2 20 false,
 og 25 (.bin .eql 45 2 (.t 24) (.c .nilIface) 45) 2 20 false,
 oo 26 (.pick (.t 20) (.c (.bool true)) (.t 25))]
@[go_sem] def b7m : List AO := [oc 27 44 [(false, (.n (-1)))] [3],
 ov (.store 48 3 (.t 2) (.t 27))]
@[go_sem] def b7k : List AO := [om 28 3,
 oo 29 (.nilck (.t 28)),
 oo 30 (.faddr 114 1 (.t 29) 1),
 oo 31 (.load 45 none (.t 30)),
 oc 32 57 [(false, (.t 31))] [45],
 om 33 3,
 oo 34 (.nilck (.t 33)),
 oo 35 (.faddr 114 0 (.t 34) 0),
 oo 36 (.load 3 none (.t 35)),
 oc 37 19 [(false, (.t 32)), (false, (.t 36))] [3, 3],
 ov (.store 48 3 (.t 2) (.t 37))]
def a3z : IC := (.seq (.reg b6t) (.seq (.seq (.reg b7l) (.cond (.t 6) (.seq (.reg b7d) .ret) .skip)) (.seq (.reg b65) (.seq (.seq (.reg b6w) (.cond (.t 14) (.seq (.reg b66) .ret) .skip)) (.seq (.seq (.reg b7o) (.cond (.t 26) (.seq (.reg b7m) .ret) .skip)) (.seq (.draw b7k [[], [0], [1], [2], [3], [], [5], [6], [7], [4, 8, 4], [9, 9, 0, 1, 2, 3, 4, 5, 6, 7, 8, 9]]) .ret))))))
abbrev b8p : Nat := 36
theorem b3y : fnC pg 36 38 [(.cells 2 3)] a3z := a0x Go.Proofs.Tryd.f36 [(.cell 2 48)] (by kernel_rfl)
@[go_sem] theorem d8z : fnB pg 36 = true := by kernel_rfl
@[go_sem] def b9f : List AO := [oo 2 (.alloc 48 [.lit (.int .i64 0), .lit (.bool false), .lit (.int .i64 0)])]
@[go_sem] def b9a : List AO := [om 3 0,
 oo 4 (.build 48 [.lit (.int .i64 0), .lit (.bool false), .lit (.int .i64 0)] [(0, 0, 1, (.t 3))]),
 ov (.store 48 3 (.t 2) (.t 4))]
def b1m : IC := (.seq (.reg b9f) (.seq (.reg b9a) .ret))
abbrev c2g : Nat := 44
theorem b47 : fnC pg 44 5 [(.cells 2 3)] b1m := a0x Go.Proofs.Tryd.f44 [(.cell 2 48)] (by kernel_rfl)
@[go_sem] theorem e00 : fnB pg 44 = true := by kernel_rfl
@[go_sem] def b2k : List AO := [oo 2 (.asg (.n 0))]
@[go_sem] def b2n : List AO := [oc 5 78 [] [],
 oo 3 (.asg (.t 5))]
@[go_sem] def b2t : List AO := [oo 4 (.asg (.n 0))]
@[go_sem] def b21 : List AO := [om 6 4,
 om 7 3,
 oo 8 (.len 136 false (.t 7)),
 oo 9 (.bin .lss 3 0 (.t 6) (.t 8) 3)]
@[go_sem] def b2h : List AO := [om 12 0,
 om 13 3,
 om 14 4,
 oo 15 (.iaddr 136 1 (.t 13) (.t 14)),
 oo 16 (.load 45 none (.t 15)),
 oc 17 79 [(false, (.t 12)), (false, (.t 16))] [45, 45]]
@[go_sem] def b2w : List AO := [om 18 4,
 oo 19 (.bin .add 3 0 (.n 101) (.t 18) 3),
 oo 2 (.asg (.t 19))]
@[go_sem] def b2i : List AO := [om 10 4,
 oo 11 (.bin .add 3 0 (.t 10) (.n 1) 3),
 oo 4 (.asg (.t 11))]
def a3n : IC := (.seq (.seq (.reg b21) (.cond (.t 9) .skip (.exit 0))) (.seq (.block 1 (.seq (.reg b2h) (.cond (.t 17) (.seq (.reg b2w) .ret) .skip))) (.reg b2i)))
@[go_sem] def b2u : List AO := [oo 2 (.asg (.n (-1)))]
def a5x : IC := (.seq (.reg b2k) (.seq (.reg b2n) (.seq (.seq (.reg b2t) (.block 0 (.loop a3n))) (.seq (.reg b2u) .ret))))
abbrev b3n : Nat := 57
theorem b0z : fnC pg 57 20 [(.tmp 2)] a5x := a0x Go.Proofs.Tryd.f57 [(.tmp 2)] (by kernel_rfl)
@[go_sem] theorem d6g : fnB pg 57 = true := by kernel_rfl
@[go_sem] def b1l : List AO := [oo 0 (.asg (.nl 1))]
@[go_sem] def b13 : List AO := [oo 1 (.load 45 none (.g 7)),
 oo 2 (.load 45 none (.g 3)),
 oo 3 (.load 45 none (.g 4)),
 oo 4 (.load 45 none (.g 2)),
 oo 5 (.load 45 none (.g 11)),
 oo 6 (.load 45 none (.g 1)),
 oo 7 (.load 45 none (.g 0)),
 oo 8 (.load 45 none (.g 10)),
 oo 9 (.load 45 none (.g 5)),
 oo 10 (.load 45 none (.g 9)),
 oo 11 (.load 45 none (.g 6)),
 oo 12 (.load 45 none (.g 12)),
 oo 13 (.load 45 none (.g 13)),
 oo 14 (.load 45 none (.g 14)),
 oo 15 (.load 45 none (.g 15)),
 oo 16 (.load 45 none (.g 16)),
 oo 17 (.load 45 none (.g 17)),
 oo 18 (.load 45 none (.g 18)),
 oo 19 (.load 45 none (.g 19)),
 oo 20 (.load 45 none (.g 20)),
 oo 21 (.load 45 none (.g 21)),
 oo 22 (.bslice 136 45 1 21 [.lit .nilIface] [(0, (.t 1)), (1, (.t 2)), (2, (.t 3)), (3, (.t 4)), (4, (.t 5)), (5, (.t 6)), (6, (.t 7)), (7, (.t 8)), (8, (.t 9)), (9, (.t 10)), (10, (.t 11)), (11, (.t 12)), (12, (.t 13)), (13, (.t 14)), (14, (.t 15)), (15, (.t 16)), (16, (.t 17)), (17, (.t 18)), (18, (.t 19)), (19, (.t 20)), (20, (.t 21))]),
 oo 0 (.asg (.t 22))]
def a5i : IC := (.seq (.reg b1l) (.seq (.reg b13) .ret))
abbrev b2q : Nat := 78
theorem b0l : fnC pg 78 23 [(.tmp 0)] a5i := a0x Go.Proofs.Tryd.f78 [(.tmp 0)] (by kernel_rfl)
@[go_sem] theorem d35 : fnB pg 78 = true := by kernel_rfl
@[go_sem] def b7p : List AO := [oo 4 (.asg (.c (.bool false)))]
@[go_sem] def b7b : List AO := [om 5 0,
 oo 6 (.bin .eql 45 2 (.t 5) (.c .nilIface) 45),
 om 7 6,
 og 8 (.mv (.t 1)) 2 7 false,
 og 9 (.bin .eql 45 2 (.t 8) (.c .nilIface) 45) 2 7 false,
 oo 10 (.pick (.t 7) (.c (.bool true)) (.t 9))]
@[go_sem] def b69 : List AO := [om 11 0,
 oo 12 (.bin .eql 45 2 (.t 11) (.c .nilIface) 45),
 om 13 12,
 og 14 (.mv (.t 1)) 2 13 true,
 og 15 (.bin .eql 45 2 (.t 14) (.c .nilIface) 45) 2 13 true,
 oo 16 (.pick (.t 13) (.t 15) (.c (.bool false))),
 oo 4 (.asg (.t 16))]
@[go_sem] def b7g : List AO := [om 17 0,
 om 18 1,
 oo 19 (.eqs .eql 45 186 208 (.t 17) (.t 18) 45),
 oo 4 (.asg (.t 19))]
def b0q : IC := (.seq (.reg b7p) (.seq (.seq (.reg b7b) (.cond (.t 10) (.seq (.reg b69) .ret) .skip)) (.seq (.reg b7g) .ret)))
abbrev b86 : Nat := 79
theorem b4c : fnC pg 79 20 [(.tmp 4)] b0q := a0x Go.Proofs.Tryd.f79 [(.tmp 4)] (by kernel_rfl)
@[go_sem] theorem d82 : fnB pg 79 = true := by kernel_rfl
end Go.Ideal.Tryd
end
section
set_option linter.unusedVariables false
set_option linter.unusedSimpArgs false
set_option maxRecDepth 10000
namespace Go.Ideal.Tryd
abbrev li (n : Int) : AV := .lit (.int .i64 n)
abbrev lb (b : Bool) : AV := .lit (.bool b)
abbrev d60 (k : Int) (p : Bool) (n : Int) : AV := .agg [li k, lb p, li n]
theorem e8j (G : GG) : ACalls pg G c0i [] (d60 0 false 0) := by
  refine b5a rfl ?_
  simp (disch := omega) [go_sem, b1u]
theorem g3o (G : GG) (a b c d : Int) (e f : Bool) : ACalls pg G b2x [d60 a e b, d60 c f d] (lb (decide (a = c ∧ e = f ∧ b = d))) := by
  refine b0d rfl ?_
  simp (disch := omega) [go_sem, a5k]
  refine d5u ?_ ?_ <;> intro h <;> simp at h <;> simp (disch := omega) [go_sem, h]
  refine d5u ?_ ?_ <;> intro h2 <;> simp at h2 <;> simp (disch := omega) [go_sem, h, h2]
theorem a3v (G : GG) (k n : Int) : ACalls pg G b7t [li k, li n] (if k = 0 then d60 0 false 0 else d60 k true n) := by
  refine b2r rfl ?_
  by_cases h : k = 0 <;> simp (disch := omega) [go_sem, a9p, h]
  refine a0d (e8j G) rfl rfl ?_
  simp (disch := omega) [go_sem]
end Go.Ideal.Tryd
end
section
set_option linter.unusedVariables false
set_option linter.unusedSimpArgs false
set_option maxRecDepth 10000
namespace Go.Ideal.Tryd
@[go_sem] abbrev e4x : Nat := 186
@[go_sem] abbrev h5k : Nat := 110
def cn (g : Nat) : Nat := [0, 7, 2, 3, 5, 9, 1, 6, 99, 10, 8, 4, 11, 12, 13, 14, 15, 16, 17, 18, 19, 20].getD g g
def gn (g : Nat) : Nat := [0, 6, 2, 3, 11, 4, 7, 1, 10, 5, 9, 12, 13, 14, 15, 16, 17, 18, 19, 20, 21].getD g g
@[go_sem] theorem h9s : cn 0 = 0 := (rfl)
@[go_sem] theorem h9i : cn 1 = 7 := (rfl)
@[go_sem] theorem h9w : cn 2 = 2 := (rfl)
@[go_sem] theorem h9j : cn 3 = 3 := (rfl)
@[go_sem] theorem h9r : cn 4 = 5 := (rfl)
@[go_sem] theorem h9f : cn 5 = 9 := (rfl)
@[go_sem] theorem h9u : cn 6 = 1 := (rfl)
@[go_sem] theorem h9n : cn 7 = 6 := (rfl)
@[go_sem] theorem h9d : cn 9 = 10 := (rfl)
@[go_sem] theorem h8r : cn 10 = 8 := (rfl)
@[go_sem] theorem h8p : cn 11 = 4 := (rfl)
@[go_sem] theorem h8w : cn 12 = 11 := (rfl)
@[go_sem] theorem h8e : cn 13 = 12 := (rfl)
@[go_sem] theorem h8u : cn 14 = 13 := (rfl)
@[go_sem] theorem h8b : cn 15 = 14 := (rfl)
@[go_sem] theorem h8x : cn 16 = 15 := (rfl)
@[go_sem] theorem h82 : cn 17 = 16 := (rfl)
@[go_sem] theorem h8m : cn 18 = 17 := (rfl)
@[go_sem] theorem h83 : cn 19 = 18 := (rfl)
@[go_sem] theorem h8z : cn 20 = 19 := (rfl)
@[go_sem] theorem h8c : cn 21 = 20 := (rfl)
structure Sent (G : GG) (bk : Nat → Nat × Nat) : Prop where
  val : ∀ g, g < 22 ∧ g ≠ 8 → G g = some (.iface e4x (.pointer (some ⟨(bk (cn g)).1, (bk (cn g)).2, none⟩)))
  blk : ∀ g, g < 21 → (G (bk g).1).isSome = true
  inj : ∀ g h, g < 21 → h < 21 → bk g = bk h → g = h
structure Sent5 (G : GG) (bk : Nat → Nat × Nat) : Prop where
  val : ∀ g, g = 2 ∨ g = 3 ∨ g = 4 ∨ g = 7 ∨ g = 11 → G g = some (.iface e4x (.pointer (some ⟨(bk (cn g)).1, (bk (cn g)).2, none⟩)))
  blk : ∀ g, 2 ≤ g ∧ g ≤ 6 → (G (bk g).1).isSome = true
  inj : ∀ g h, 2 ≤ g ∧ g ≤ 6 → 2 ≤ h ∧ h ≤ 6 → bk g = bk h → g = h
theorem Sent.five {G : GG} {bk : Nat → Nat × Nat} (h : Sent G bk) : Sent5 G bk :=
  ⟨fun g hg => h.val g (by omega), fun g hg => h.blk g (by omega), fun g k hg hk => h.inj g k (by omega) (by omega)⟩
structure Sent3 (G : GG) (bk : Nat → Nat × Nat) : Prop where
  val : ∀ g, g = 2 ∨ g = 3 ∨ g = 7 → G g = some (.iface e4x (.pointer (some ⟨(bk (cn g)).1, (bk (cn g)).2, none⟩)))
theorem Sent5.three {G : GG} {bk : Nat → Nat × Nat} (h : Sent5 G bk) : Sent3 G bk := ⟨fun g hg => h.val g (by omega)⟩
@[go_sem] abbrev sv (bk : Nat → Nat × Nat) (g : Nat) : AV := .lit (.iface e4x (.pointer (some ⟨(bk g).1, (bk g).2, none⟩)))
def a2k : List Nat := [6, 3, 5, 2, 4, 7, 0, 8, 9, 10, 1, 11, 12, 13, 14, 15, 16, 17, 18, 19, 20]
theorem d4u (G : GG) (bk : Nat → Nat × Nat) (hS : Sent G bk) : ACalls pg G b2q [] (.own 1 21 (a2k.map (sv bk))) := by
  refine b0l rfl ?_
  simp (disch := omega) [go_sem, a5i, hS.val]
  rfl
end Go.Ideal.Tryd
end
section
set_option linter.unusedVariables false
set_option linter.unusedSimpArgs false
set_option maxRecDepth 10000
namespace Go.Ideal.Tryd
abbrev slB (xs : List Bool) : AV := .sl xs.length (xs.map lb)
abbrev slI (xs : List Int) : AV := .sl xs.length (xs.map li)
abbrev owI (xs : List Int) : AV := .own 1 xs.length (xs.map li)
abbrev owB (xs : List Bool) : AV := .own 1 xs.length (xs.map lb)
abbrev h76 (xs : List (List Int)) : AV := .sl xs.length (xs.map slI)
abbrev h8l (xs : List (List Int)) : AV := .own 1 xs.length (xs.map owI)
attribute [go_sem] slB slI owI owB h76 h8l
@[go_sem] theorem a2u (xs : List Int) : a07 (xs.map li) = true := b7w fun x => by simp only [a0z]
@[go_sem] theorem g0z (xs : List Bool) : a07 (xs.map lb) = true := b7w fun x => by simp only [a0z]
@[go_sem] theorem g0n (xs : List Int) : a0u (xs.map li) = true := b7a fun x => by simp only [a0s]
@[go_sem] theorem g0j (xs : List Bool) : a0u (xs.map lb) = true := b7a fun x => by simp only [a0s]
end Go.Ideal.Tryd
end
section
set_option linter.unusedVariables false
set_option linter.unusedSimpArgs false
set_option maxRecDepth 10000
namespace Go.Ideal.Tryd
inductive Er where
  | nil
  | s (g : Nat)
  | at (p : Int) (e : Er)
def a0m (bk : Nat → Nat × Nat) : Er → AV
  | .nil => .lit .nilIface
  | .s g => sv bk g
  | .at p e => .ifc h5k (.ip [li p, a0m bk e] 0)
abbrev wr (n : Int) : Int := IntKind.i64.wrap n
def inB (n : Nat) (u : List (List Int)) : Prop := ∀ r ∈ u, ∀ k ∈ r, 0 ≤ k ∧ k < (n : Int)
section
variable {G : GG} {bk : Nat → Nat × Nat} {Q : Exit → St → Prop} {st : St}
end
def f1h : List Int → List Int → List Int
  | [], l => l
  | k :: ks, l => f1h ks (l.set k.toNat (wr (l[k.toNat]! - 1)))
theorem d9h : ∀ (ks l : List Int), (f1h ks l).length = l.length
  | [], l => rfl
  | k :: ks, l => by rw [f1h, d9h]; simp
section
variable {G : GG} {Q : Exit → St → Prop} {st : St}
end
end Go.Ideal.Tryd
end
section
set_option linter.unusedVariables false
set_option linter.unusedSimpArgs false
set_option maxRecDepth 10000
namespace Go.Ideal.Tryd
section
variable {G : GG} {bk : Nat → Nat × Nat}
theorem e83 (n : Int) : ACalls pg G c2g [li n] (d60 n false 0) := by
  refine b47 rfl ?_
  simp (disch := omega) [go_sem, b1m]
theorem e7v (hS : Sent G bk) {g h : Nat} (hg : g < 21) (hh : h < 21) : ACalls pg G b86 [sv bk g, sv bk h] (lb (decide (g = h))) := by
  refine b4c rfl ?_
  simp (disch := omega) [go_sem, b0q, hS.blk]
  by_cases h2 : g = h
  · simp [h2]
  · simp [h2]; intro h3 h4; exact h2 (hS.inj _ _ hg hh (Prod.ext h3 h4))
theorem d0t : a2k.length = 21 := rfl
theorem d4v : ∀ g ∈ a2k, g < 21 := by decide
def b5q (g : Nat) : List Nat → Nat → Int
  | [], _ => -1
  | h :: hs, i => if g = h then 101 + i else b5q g hs (i + 1)
def c9k (g : Nat) : Int := b5q g a2k 0
theorem d2t {g i k : Nat} (h : i < a2k.length) : b5q g (a2k.drop i) k = if g = a2k[i] then 101 + (k : Int) else b5q g (a2k.drop (i + 1)) (k + 1) := by
  rw [List.drop_eq_getElem_cons h]; rfl
theorem c9s (hS : Sent G bk) {g : Nat} (hg : g < 21) : ACalls pg G b3n [sv bk g] (li (c9k g)) := by
  refine b0z rfl ?_
  simp (disch := omega) [go_sem, a5x]
  refine a0d (d4u G bk hS) rfl rfl ?_
  simp (disch := omega) [go_sem]
  refine a1g Nat (fun i st => st.s 0 = sv bk g ∧ st.s 3 = .own 1 21 (a2k.map (sv bk)) ∧ st.s 4 = li i ∧ i ≤ 21 ∧ b5q g (a2k.drop i) i = c9k g) (fun i => 21 - i) 0 ?_ ?_
  · exact ⟨by simp (disch := omega) [go_sem], by simp (disch := omega) [go_sem], by simp (disch := omega) [go_sem], by simp, rfl⟩
  · rintro i st K ⟨h0, h3, h4, hi, hc⟩ hK
    by_cases hlt : i < 21
    · have hlt' : i < a2k.length := hlt
      rw [d2t hlt'] at hc
      have hlt2 : a2k[i] < 21 := d4v _ (List.getElem_mem hlt')
      simp (disch := omega) [go_sem, a3n, h0, h3, h4, d0t, hlt]
      refine a0d (e7v hS hg hlt2) rfl rfl ?_
      by_cases hgi : g = a2k[i]
      · rw [if_pos hgi] at hc
        simp (disch := omega) [go_sem, h4, ← hgi, ← hc]
      · rw [if_neg hgi] at hc
        simp (disch := omega) [go_sem, h0, h3, h4, hgi]
        exact hK (i + 1) _ ⟨by simp (disch := omega) [go_sem, h0], by simp (disch := omega) [go_sem, h3], by simp (disch := omega) [go_sem, h4], by omega, hc⟩ (by omega)
    · obtain rfl : i = 21 := by omega
      have : c9k g = -1 := by rw [← hc]; rfl
      simp (disch := omega) [go_sem, a3n, h3, h4, this]
abbrev fl (x : Int × Bool × Int) : AV := d60 x.1 x.2.1 x.2.2
def Er.flt : Er → Int × Bool × Int
  | .nil => (0, false, 0)
  | .s g => (c9k g, false, 0)
  | .at p (.s g) => (c9k g, true, p)
  | _ => (-1, false, 0)
inductive Er.ok : Er → Prop
  | nil : Er.ok .nil
  | s {g : Nat} (h : g < 21) : Er.ok (.s g)
  | at {p : Int} {g : Nat} (h : g < 21) : Er.ok (.at p (.s g))
theorem e24 : ∀ g, g < 21 → c9k g ≠ 0 := by decide
theorem e9u (hS : Sent G bk) {e : Er} (he : e.ok) : ACalls pg G b8p [a0m bk e] (fl e.flt) := by
  refine b3y rfl ?_
  cases he with
  | nil =>
    simp (disch := omega) [go_sem, a3z, a0m]
    refine a0d (e8j G) rfl rfl ?_
    simp (disch := omega) [go_sem, Er.flt]
  | s h =>
    simp (disch := omega) [go_sem, a3z, a0m]
    refine a0d (c9s hS h) rfl rfl ?_
    simp (disch := omega) [go_sem]
    refine a0d (e83 _) rfl rfl ?_
    simp (disch := omega) [go_sem, Er.flt]
  | @«at» p g h =>
    simp (disch := omega) [go_sem, a3z, a0m]
    refine a0b ?_
    simp (disch := omega) [go_sem]
    refine a0p (c9s hS h) rfl rfl (by simp) [32] (by simp) (by simp (disch := omega) [go_sem]) ?_
    simp (disch := omega) [go_sem]
    refine a0p (a3v G _ _) (by split <;> rfl) (by split <;> rfl) (by simp) [37] (by simp) (by simp (disch := omega) [go_sem]) ?_
    rw [if_neg (e24 g h)]
    simp (disch := omega) [go_sem]
    refine a0c (by decide) fun s2 hs he => ?_
    simp (disch := omega) [go_sem, hs, Er.flt]
theorem e2o (e : Er) : a0r (a0m bk e) = true ∧ a0s (a0m bk e) = true := by
  cases e <;> simp [a0m, a0r, a0s]
theorem b0t (hS : Sent G bk) {e : Er} (he : e.ok) (f : Int × Bool × Int) : ACalls pg G c2f [a0m bk e, fl f] (lb (decide (e.flt = f))) := by
  refine b4l rfl ?_
  have hf := e9u (G := G) (bk := bk) hS he
  have goal : ∀ x : Int × Bool × Int, (decide (x.1 = f.1) && (decide (x.2.1 = f.2.1) && decide (x.2.2 = f.2.2))) = decide (x = f) := by
    rintro ⟨a, b, c⟩; obtain ⟨d, e, f⟩ := f; simp
  cases he with
  | _ =>
    simp (disch := omega) [go_sem, b1w, a0m] at hf ⊢
    refine a0b ?_
    simp (disch := omega) [go_sem]
    refine a0p hf rfl rfl (by simp) [6] (by simp) (by simp (disch := omega) [go_sem]) ?_
    simp (disch := omega) [go_sem]
    refine a0p (g3o G _ _ _ _ _ _) rfl rfl (by simp) [8] (by simp) (by simp (disch := omega) [go_sem]) ?_
    simp (disch := omega) [go_sem]
    refine a0c (by decide) fun s2 hs he => ?_
    simp (disch := omega) [go_sem, hs]
    exact goal _
end
end Go.Ideal.Tryd
end
section
set_option linter.unusedVariables false
set_option linter.unusedSimpArgs false
set_option maxRecDepth 10000
namespace Go.Ideal.Tryd
section
variable {G : GG} {bk : Nat → Nat}
end
end Go.Ideal.Tryd
end
section
set_option linter.unusedVariables false
set_option linter.unusedSimpArgs false
set_option maxRecDepth 10000
namespace Go.Ideal.Tryd
section
variable {G : GG} {bk : Nat → Nat × Nat} {Q : Exit → St → Prop} {st : St}
end
end Go.Ideal.Tryd
end
section
set_option linter.unusedVariables false
set_option linter.unusedSimpArgs false
namespace Go.Ideal.Tryd
theorem get!_set {α : Type} [Inhabited α] {l : List α} {i k : Nat} {v : α} (hi : i < l.length) : (l.set i v)[k]! = if k = i then v else l[k]! := by
  by_cases h : k = i
  · subst h; simp [hi]
  · simp only [h, if_false]
    by_cases hk : k < l.length
    · simp [hk, Ne.symm h, List.getElem_set]
    · simp [hk]
theorem e2k {n : Nat} : ∀ {ks l : List Int}, l.length = n → (∀ k ∈ ks, 0 ≤ k ∧ k < (n : Int)) → (∀ k, k < n → (ks.count (k : Int) : Int) ≤ l[k]! ∧ l[k]! < 2 ^ 62) → ∀ k, k < n → (f1h ks l)[k]! = l[k]! - ks.count (k : Int)
  | [], l, hl, hk, hb, k, hkn => by simp [f1h]
  | x :: xs, l, hl, hk, hb, k, hkn => by
    obtain ⟨h1, h2⟩ := hk x (by simp)
    have hx : x.toNat < l.length := by omega
    have e : (x.toNat : Int) = x := by omega
    have hbx := hb x.toNat (by omega)
    rw [e] at hbx
    simp only [List.count_cons_self] at hbx
    have hw : wr (l[x.toNat]! - 1) = l[x.toNat]! - 1 := b40 (by omega)
    rw [f1h, hw, e2k (n := n) (by simpa using hl) (fun k hk' => hk k (by simp [hk'])) (fun k hkn => ?_) k hkn, get!_set hx]
    · by_cases hkx : k = x.toNat
      · subst hkx; rw [if_pos rfl, e, List.count_cons_self]; omega
      · have : ¬ (x = (k : Int)) := by omega
        simp only [hkx, if_false, List.count_cons, beq_iff_eq, this, Nat.add_zero]
    · rw [get!_set hx]
      have := hb k hkn
      by_cases hkx : k = x.toNat
      · subst hkx; rw [e] at this ⊢; rw [if_pos rfl]; simp only [List.count_cons_self] at this; omega
      · have hne : ¬ (x = (k : Int)) := by omega
        simp only [hkx, if_false]
        simp only [List.count_cons, beq_iff_eq, hne, if_false, Nat.add_zero] at this
        exact this
def cnt (done : List Bool) (row : List Int) : Nat := row.countP fun x => !done[x.toNat]!
theorem e48 {done : List Bool} {i : Nat} (hi : i < done.length) (hd : done[i]! = false) : ∀ {row : List Int}, (∀ x ∈ row, 0 ≤ x ∧ x < (done.length : Int)) → cnt (done.set i true) row + row.count (i : Int) = cnt done row
  | [], _ => by simp [cnt]
  | x :: xs, h => by
    have ih := e48 hi hd (row := xs) (fun y hy => h y (by simp [hy]))
    simp only [cnt] at ih ⊢
    rw [List.countP_cons, List.countP_cons, List.count_cons, get!_set hi]
    have := (h x (by simp)).1
    by_cases hx : x.toNat = i
    · have : x = (i : Int) := by omega
      subst this
      simp [hd] at ih ⊢
      omega
    · have : ¬ (x = (i : Int)) := by omega
      simp only [hx, if_false, beq_iff_eq, this, Nat.add_zero]
      omega
structure J (ins u : List (List Int)) (done : List Bool) (left : List Int) : Prop where
  hd : done.length = ins.length
  hl : left.length = ins.length
  left : ∀ k, k < ins.length → left[k]! = cnt done ins[k]!
structure U (ins u : List (List Int)) : Prop where
  inb : inB ins.length ins
  len : ∀ r ∈ ins, r.length < 2 ^ 61
  cnt : ∀ k, k < ins.length → ∀ j, j < ins.length → (u[k]!).count (j : Int) = (ins[j]!).count (k : Int)
  ub : ∀ k, k < ins.length → ∀ x ∈ u[k]!, 0 ≤ x ∧ x < (ins.length : Int)
theorem f9r {done : List Bool} {row : List Int} : cnt done row ≤ row.length := List.countP_le_length
theorem J.step {ins u : List (List Int)} {done : List Bool} {left : List Int} (hU : U ins u) (h : J ins u done left) {i : Nat} (hi : i < ins.length) (hdi : done[i]! = false) : J ins u (done.set i true) (f1h u[i]! left) where
  hd := by simpa using h.hd
  hl := by rw [d9h]; exact h.hl
  left k hk := by
    have hrow : ∀ k, k < ins.length → ins[k]! ∈ ins := fun k hk => by simp [hk]
    have hset : ∀ k, k < ins.length → cnt (done.set i true) ins[k]! + (ins[k]!).count (i : Int) = cnt done ins[k]! := fun k hk => e48 (by rw [h.hd]; exact hi) hdi (fun x hx => by rw [h.hd]; exact hU.inb _ (hrow k hk) x hx)
    rw [e2k h.hl (hU.ub i hi) (fun k hk => ?_) k hk, h.left k hk, hU.cnt i hi k hk]
    · have := hset k hk
      omega
    · rw [h.left k hk, hU.cnt i hi k hk]
      have := hset k hk
      have h2 := f9r (done := done) (row := ins[k]!)
      have h3 := hU.len _ (hrow k hk)
      omega
end Go.Ideal.Tryd
end
section
set_option linter.unusedVariables false
set_option linter.unusedSimpArgs false
namespace Go.Ideal.Tryd
structure Ordered (ins : List (List Int)) (done : List Bool) (out : List Int) : Prop where
  hd : done.length = ins.length
  nd : out.Nodup
  mem : ∀ x, x < ins.length → (done[x]! = true ↔ (x : Int) ∈ out)
  rng : ∀ x ∈ out, 0 ≤ x ∧ x < (ins.length : Int)
  beh : ∀ p, p < out.length → ∀ y ∈ ins[(out[p]!).toNat]!, y ∈ out.take p
end Go.Ideal.Tryd
end
section
set_option linter.unusedVariables false
set_option linter.unusedSimpArgs false
set_option maxRecDepth 10000
namespace Go.Ideal.Tryd
section
variable {G : GG} {bk : Nat → Nat × Nat} {Q : Exit → St → Prop} {st : St}
end
end Go.Ideal.Tryd
end
section
set_option linter.unusedVariables false
set_option linter.unusedSimpArgs false
namespace Go.Ideal
open Go.ChangeShapes Go.RowKit Classical
section
variable {H : Type} {e : TypeId × Value → H} {P : Program} {w : World}
def Rd (e : TypeId × Value → H) (P : Program) (w : World) (T : Type) (t : TypeId) (enc : T → List AV) (ok : T → Prop) : Prop :=
  ∀ (fuel : Nat) (cs : List Value) (d : DataW H) (ps : List MemPlace), DataW.trod e P w 0 (fun _ => true) true fuel t cs = some (d, ps) → (d.weights P t).all (· ≤ reachBytes) = true → ∃ x, ok x ∧ RL w (fun b => b < w.heap.size) (enc x) noQ noB cs ∧ C1 cs
theorem b4u {M : BS} {k : AV} {v : Value} (h : R w M k noQ noB v) : RL w M [k] noQ noB [v] := by
  simp only [RL]
  exact ⟨v, [], rfl, noB, noB, fun _ h => h, fun _ h => h, fun _ h => h.elim, h, rfl⟩
theorem Rd.int {t : TypeId} (ht : P.underlying t = some (.int .i64)) : Rd e P w Int t (fun n => [.lit (.int .i64 n)]) (fun n => -9223372036854775808 ≤ n ∧ n ≤ 9223372036854775807) := by
  intro fuel cs d ps h hw
  obtain ⟨n, rfl, h1, h2⟩ := DataW.trod_int ht h
  refine ⟨n, ?_, b4u (by simp only [R]), fun u hu => by simp at hu; subst hu; rfl⟩
  simp only [Lit.wf, decide_eq_true_eq, Bool.and_eq_true] at h2
  first | exact h2 | (obtain ⟨a, b⟩ := h2; simp [IntKind.wrap_i64] at *; omega)
theorem Rd.bool {t : TypeId} (ht : P.underlying t = some .bool) : Rd e P w Bool t (fun n => [.lit (.bool n)]) (fun _ => True) := by
  intro fuel cs d ps h hw
  obtain ⟨n, rfl, h1⟩ := DataW.trod_bool ht h
  exact ⟨n, trivial, b4u (by simp only [R]), fun u hu => by simp at hu; subst hu; rfl⟩
theorem b24 {u : TypeId} {p : Nat → Bool} : ∀ {ds : List (DataW H)}, (DataW.weightsAll P u ds).all p = true → ∀ d ∈ ds, (d.weights P u).all p = true
  | [], _, d, hd => by simp at hd
  | x :: xs, h, d, hd => by
    simp only [DataW.weightsAll, List.all_append, Bool.and_eq_true] at h
    rcases List.mem_cons.1 hd with rfl | hd
    · exact h.1
    · exact b24 h.2 d hd
theorem cells?_cell {a : Addr} {n : Nat} {cs : List Value} (h : w.cells? 0 a n = some cs) : cs.length = n ∧ ∀ i u, cs[i]? = some u → w.cell? (a.add i) = some u := by
  unfold World.cells? at h
  rw [if_pos (Nat.zero_le _)] at h
  have key : ∀ (l : List Nat) (r : List Value), l.mapM (fun i => w.cell? (a.add i)) = some r → r.length = l.length ∧ ∀ (i j : Nat) (u : Value), l[i]? = some j → r[i]? = some u → w.cell? (a.add j) = some u := by
    intro l
    induction l with
    | nil => intro r h; simp at h; subst h; exact ⟨rfl, fun i j u hi => by simp at hi⟩
    | cons x l ih =>
      intro r h
      simp only [List.mapM_cons, Option.bind_eq_bind, Option.pure_def, Option.bind_eq_some_iff, Option.some.injEq] at h
      obtain ⟨y, hy, ys, hys, rfl⟩ := h
      obtain ⟨h1, h2⟩ := ih ys hys
      refine ⟨by simp [h1], fun i j u hi hu => ?_⟩
      cases i with
      | zero => simp at hi hu; subst hi; subst hu; exact hy
      | succ i => exact h2 i j u (by simpa using hi) (by simpa using hu)
  obtain ⟨h1, h2⟩ := key _ _ h
  refine ⟨by simpa using h1, fun i u hu => h2 i i u ?_ hu⟩
  have : i < cs.length := (List.getElem?_eq_some_iff.1 hu).1
  rw [h1] at this
  simp at this
  simp [this]
theorem d51 (a : Addr) : a.add 0 = a := by simp [Addr.add]
theorem e74 (b o i : Nat) : (⟨b, o, none⟩ : Addr).add i = ⟨b, o + i, none⟩ := by
  simp only [Addr.add]; split
  · subst_vars; rfl
  · rfl
theorem f0n (a : Addr) (m i : Nat) : (a.add m).add i = a.add (m + i) := by
  obtain ⟨b, o, s⟩ := a
  simp only [Addr.add]
  by_cases h1 : m = 0
  · subst h1; simp
  · by_cases h2 : i = 0
    · subst h2; simp [h1]
    · simp [h1, h2, Nat.add_assoc]
theorem Rd.slice {t u : TypeId} {T : Type} {enc : T → List AV} {ok : T → Prop} (ht : P.underlying t = some (.slice u)) (hb : 0 < P.bytesOf u) (h : Rd e P w T u enc ok) (hlen : ∀ x, (enc x).length = P.cellsOf u) :
    Rd e P w (List T) t (fun xs => [.sl xs.length (xs.flatMap enc)]) (fun xs => xs.length ≤ reachBytes ∧ ∀ x ∈ xs, ok x) := by
  intro fuel cs d ps hd hw
  rcases DataW.trod_slice ht hd with ⟨rfl, _⟩ | ⟨a, len, cap, elems, rest, n, _, rfl, hx, _, hlc, _, hel, hi, _⟩
  · refine ⟨[], ⟨by simp [reachBytes], fun x hx => by simp at hx⟩, b4u ?_, fun u hu => by simp at hu; subst hu; rfl⟩
    simp only [R, RL, List.flatMap_nil, List.length_nil]
    exact ⟨none, 0, rfl, Nat.le_refl _, [], fun _ h => by simp at h, rfl, .inl rfl⟩
  · simp only [Prod.mk.injEq] at hx
    obtain ⟨rfl, _⟩ := hx
    simp only [DataW.weights, ht, List.all_cons, List.all_append, Bool.and_eq_true, decide_eq_true_eq, List.length_map] at hw
    obtain ⟨w1, w2, _⟩ := hw
    have hm : ∀ m, m ≤ len → ∃ xs : List T, xs.length = m ∧ (∀ x ∈ xs, ok x) ∧ ∃ vs, vs.length = m * P.cellsOf u ∧ RL w (fun b => b < w.heap.size) (xs.flatMap enc) noQ noB vs ∧ C1 vs ∧ ∀ i v, vs[i]? = some v → w.cell? (a.add i) = some v := by
      intro m
      induction m with
      | zero => intro _; exact ⟨[], rfl, fun x hx => by simp at hx, [], by simp, by simp [RL], fun _ h => by simp at h, fun i v hv => by simp at hv⟩
      | succ m ih =>
        intro hml
        obtain ⟨xs, l1, ok1, vs, l2, r1, c1, cell1⟩ := ih (by omega)
        have hmi := hi m (by omega)
        have hme : elems[m]? = some elems[m] := by simp [show m < elems.length by omega]
        rw [hme] at hmi
        cases hc : w.cells? 0 (a.add (m * P.cellsOf u)) (P.cellsOf u) with
        | none => rw [hc] at hmi; cases hmi
        | some cs =>
          rw [hc] at hmi
          simp only [Option.bind_some] at hmi
          obtain ⟨x, okx, rx, cx⟩ := h n cs elems[m].1 elems[m].2 hmi (b24 w2 _ (List.mem_map.2 ⟨_, List.getElem_mem _, rfl⟩))
          obtain ⟨g1, g2⟩ := cells?_cell hc
          refine ⟨xs ++ [x], by simp [l1], fun y hy => ?_, vs ++ cs, by rw [List.length_append, l2, g1, Nat.add_mul, Nat.one_mul], ?_, fun y hy => ?_, fun i v hv => ?_⟩
          · rcases List.mem_append.1 hy with hy | hy
            · exact ok1 y hy
            · simp at hy; subst hy; exact okx
          · rw [List.flatMap_append]
            simp only [List.flatMap_cons, List.flatMap_nil, List.append_nil]
            exact a2l (fun b hb => hb.elim (fun h => h) fun h => h) (a12 r1 rx fun b hb => hb.elim)
          · rcases List.mem_append.1 hy with hy | hy
            · exact c1 y hy
            · exact cx y hy
          · by_cases hiv : i < vs.length
            · rw [List.getElem?_append_left hiv] at hv
              exact cell1 i v hv
            · rw [List.getElem?_append_right (by omega)] at hv
              have := g2 _ v hv
              have e : (a.add (m * P.cellsOf u)).add (i - vs.length) = a.add i := by
                rw [f0n]
                congr 1
                rw [l2] at hiv ⊢
                omega
              rw [e] at this
              exact this
    obtain ⟨xs, l1, ok1, vs, l2, r1, c1, cell1⟩ := hm len (Nat.le_refl _)
    refine ⟨xs, ⟨?_, ok1⟩, b4u ?_, fun y hy => by simp at hy; subst hy; rfl⟩
    · rw [l1, ← hel]
      have : elems.length ≤ (elems.length + rest.length) * P.bytesOf u := by
        calc elems.length ≤ elems.length + rest.length := Nat.le_add_right _ _
          _ = (elems.length + rest.length) * 1 := (Nat.mul_one _).symm
          _ ≤ _ := Nat.mul_le_mul_left _ hb
      omega
    · simp only [R]
      refine ⟨some a, cap, by rw [l1], by omega, vs, c1, r1, ?_⟩
      cases vs with
      | nil => exact .inl rfl
      | cons v0 vs' =>
        have h0 := cell1 0 v0 rfl
        obtain ⟨b, o, sp⟩ := a
        have hsp : sp = none := by
          cases sp with
          | none => rfl
          | some s => rw [d51] at h0; simp [World.cell?] at h0; split at h0 <;> cases h0
        subst hsp
        refine .inr ⟨b, o, rfl, ?_, fun i u hu => ?_⟩
        · by_cases hbs : b < w.heap.size
          · exact hbs
          · rw [d51] at h0
            simp only [World.cell?] at h0
            rw [show w.heap[b]? = none by simp; omega] at h0
            cases h0
        · have := cell1 i u hu
          rw [e74] at this
          exact this
theorem Rd.slice1 {t u : TypeId} {T : Type} {enc : T → AV} {ok : T → Prop} (ht : P.underlying t = some (.slice u)) (hb : 0 < P.bytesOf u) (hc : P.cellsOf u = 1) (h : Rd e P w T u (fun x => [enc x]) ok) :
    Rd e P w (List T) t (fun xs => [.sl xs.length (xs.map enc)]) (fun xs => xs.length ≤ reachBytes ∧ ∀ x ∈ xs, ok x) := by
  have := Rd.slice ht hb h (fun x => by simp [hc])
  intro fuel cs d ps h1 h2
  obtain ⟨x, a, b, c⟩ := this fuel cs d ps h1 h2
  refine ⟨x, a, ?_, c⟩
  have e1 : ∀ l : List T, l.flatMap (fun x => [enc x]) = l.map enc := fun l => by induction l <;> simp_all
  simp only [e1] at b
  exact b
end
theorem b5l {P : Program} {G : GG} {f : FuncId} {W : World} {args : Array Value} {pre : List AV} (hA : ACalls P G f pre (.lit (.bool true))) (hsz : args.size = pre.length) (hG : ∀ g v, G.at g v → GC G W g v ∧ g < W.heap.size)
    (hpre : ∀ i av, pre[i]? = some av → R W (fun b => b < W.heap.size) av noQ noB (args.getD i undef)) : Calls P f args W (fun e W' => e = .returned (.bool true) ∧ Below W.heap.size W W') := by
  refine (hA W args (fun b => b < W.heap.size) (fun _ => none) hsz (fun b hb => ⟨hb, rfl⟩) (fun b i hb => by cases hb) (fun g v hg => ⟨(hG g v hg).1, (hG g v hg).2, rfl⟩) (fun i av hi => ?_)).mono ?_
  · exact a2a (fun b hb => hb.elim) (hpre i av hi)
  · rintro ex W' ⟨v, rfl, hr⟩
    obtain ⟨F, _, hv⟩ := hr.own
    simp only [R] at hv
    subst hv
    exact ⟨rfl, hr.os, hr.tape, hr.output, hr.le, fun k hk => hr.frame k hk (by simp)⟩
section
variable {H : Type} {enc : TypeId × Value → H} {P : Program}
theorem b4n (hl : laidOutB P = true) {W W' : World} (hb : Below W.heap.size W W') {sp : Nat → Bool} : ∀ {ts : List TypeId} {vs : List Value} {ds : List (DataW H)} {ps : List MemPlace}, (∀ t ∈ ts, P.readableRec t = true ∧ t < P.types.size) → DataW.TrodAll enc P W 0 (fun _ => true) true ts vs ds ps →
    (∀ x ∈ ps, x.block < W.heap.size) → (∀ x ∈ ps, sp x.block = true) → DataW.TrodAll enc P W' 0 sp true ts vs ds ps
  | [], _, _, _, _, h, _, _ => by
    obtain ⟨rfl, rfl, rfl⟩ := trodAll_nil h
    exact trodAll_mk0
  | t :: ts, _, _, _, ht, h, hlt, hsp => by
    obtain ⟨v, vs, d, ds, p, q, rfl, rfl, rfl, h1, h2⟩ := trodAll_cons h
    exact ⟨p, q, WideElems.Trod_stays hl (ht t (by simp)).1 (ht t (by simp)).2 h1 (fun x hx => hb.same (hlt x (by simp [hx]))) (fun x hx => hsp x (by simp [hx])),
      b4n hl hb (fun u hu => ht u (by simp [hu])) h2 (fun x hx => hlt x (by simp [hx])) (fun x hx => hsp x (by simp [hx])), rfl⟩
theorem b9n {f : Func} {s : ChangeSpec} {apart fresh handsOn again : Bool} {W W' : World} {args : Array Value} {ds gs : List (DataW H)} {before : List MemPlace} {tb : TypeId}
    (hl : laidOutB P = true) (ht : ∀ t ∈ f.params.toList, P.readableRec t = true ∧ t < P.types.size) (hr : f.resultTypes = #[tb]) (htb : P.underlying tb = some .bool) (hvars : s.vars = []) (hfn : s.fn H (ds ++ []) = { results := [.lit (.bool true)], args := ds })
    (hW : DataW.Whole enc P f.params.toList s.vars apart W args.toList ds gs before) (hb : Below W.heap.size W W') : s.post enc P f apart fresh handsOn again W args (.bool true) W' := by
  have hW0 := hW
  obtain ⟨p, q, hA, hV, hpq, hz, hn⟩ := hW
  rw [hvars] at hV
  obtain ⟨rfl, rfl⟩ := trodVars_none hV
  have hp : before = p := by simpa using hpq
  subst hp
  have hlt : ∀ x ∈ before, x.block < W.heap.size := fun x hx => hW0.lt x hx
  have hargs : ∀ sp : Nat → Bool, (∀ p ∈ before, sp p.block = true) → DataW.TrodAll enc P W' 0 sp true f.params.toList args.toList ds before := fun sp hsp => b4n hl hb ht hA hlt hsp
  have hres : ∀ (b : Nat) (sp : Nat → Bool) (hd : Bool), DataW.TrodAll enc P W' b sp hd f.resultTypes.toList ((Value.bool true).resultList f.resultTypes.size) [.lit (.bool true)] [] := fun b sp hd => by
    rw [hr]; exact trodAll_mk1 (shut_bool htb true)
  have hv0 : ∀ sp : Nat → Bool, DataW.TrodVars enc P W' sp s.vars [] [] := fun sp => by rw [hvars]; rfl
  refine ⟨ds, [], before, [], before, [], hW0, ?_, ?_, ?_, World.keptBut_mono (fun p hp => ⟨hp, Or.inr (Or.inl hp)⟩) (hb.frame _), fun _ => ?_⟩
  · rw [hfn]; exact hres _ _ _
  · rw [hfn]; exact hargs _ fun x hx => by simpa using hlt x hx
  · rw [hfn]; exact hv0 _
  · refine ⟨ok_one hr rfl (by unfold Value.okWide; rw [htb]; simp [Cell.okWide, Cell.ok, htb]), [.lit (.bool true)] ++ ds, [], ([] ++ before) ++ [], ⟨[] ++ before, [], trodAll_append (hargs _ fun _ _ => rfl) (hres _ _ _), hv0 _, rfl, ?_, ?_⟩, ?_⟩
    · intro b off hp
      have hp' : MemPlace.cell b off ∈ before := by simpa using hp
      rw [hb.frozen (p := ⟨b, off, none⟩) (hlt _ hp')]
      exact hz b off hp'
    · intro ha
      simpa using hn ha
    · intro p hp _
      simpa using hp
end
end Go.Ideal
end
section
set_option linter.unusedVariables false
set_option linter.unusedSimpArgs false
set_option maxRecDepth 10000
namespace Go.Ideal.Tryd
open Go.ChangeShapes Go.RowKit Classical
def e25 : DataW Unit → Option (List UInt8)
  | .iface n (.ptr (.agg [.lit (.string s)])) => if n == "*errors.errorString" then some s else none
  | _ => none
theorem d6z {d : DataW Unit} {s : List UInt8} (h : e25 d = some s) : d = .iface "*errors.errorString" (.ptr (.agg [.lit (.string s)])) := by
  unfold e25 at h
  split at h
  · split at h
    · rename_i hn
      simp only [beq_iff_eq] at hn
      injection h with h
      rw [hn, h]
    · cases h
  · cases h
noncomputable def c9u (laid : List (String × DataW Unit)) (g : Nat) : Option (List UInt8) := laid.findSome? fun x => if pg.globalNamed x.1 == some g then e25 x.2 else none
noncomputable def e3f (L : List Nat) (laid : List (String × DataW Unit)) : Bool := L.all fun g => (c9u laid g).isSome && L.all fun h => g == h || !(c9u laid g == c9u laid h)
abbrev d7y : List Nat := [0, 1, 2, 3, 4, 5, 6, 7, 9, 10, 11, 12, 13, 14, 15, 16, 17, 18, 19, 20, 21]
noncomputable def e45 (laid : List (String × DataW Unit)) : Bool := e3f d7y laid
theorem b8i {W : World} : ∀ {laid : List (String × DataW Unit)} {ps : List MemPlace}, DataW.LaidVars pg W laid ps → ∀ x ∈ laid, ∃ g t cs fuel p, pg.globalNamed x.1 = some g ∧ (pg.globals[g]?).map (·.type) = some t ∧ W.var? pg x.1 = some cs ∧
    DataW.trod (fun _ => ()) pg W 0 (fun _ => true) false fuel t cs.toList = some (x.2, p) ∧ (∀ y ∈ MemPlace.row ⟨g, 0, none⟩ cs.size ++ p, y ∈ ps)
  | [], _, _, x, hx => by simp at hx
  | (n, d) :: r, ps, h, x, hx => by
    obtain ⟨g, t, cs, fuel, p, q, h1, h2, h3, h4, h5, rfl⟩ := h
    rcases List.mem_cons.1 hx with rfl | hx
    · exact ⟨g, t, cs, fuel, p, h1, h2, h3, h4, fun y hy => List.mem_append_left _ hy⟩
    · obtain ⟨g', t', cs', f', p', k1, k2, k3, k4, k5⟩ := b8i h5 x hx
      exact ⟨g', t', cs', f', p', k1, k2, k3, k4, fun y hy => List.mem_append_right _ (k5 y hy)⟩
theorem h3d : (d7y.all fun g => (pg.globals[g]?).map (·.type) == some 45) = true := by kernel_rfl
theorem h8d : ∃ ms, pg.underlying 45 = some (.interface ms) := by
  have h : (match pg.underlying 45 with | some (.interface _) => true | _ => false) = true := by kernel_rfl
  split at h
  · rename_i ms hm; exact ⟨ms, hm⟩
  · cases h
theorem h3u (u : TypeId) (hu : pg.typeName? 3 u = some "*errors.errorString") : u = 186 :=
  typeName_ptr_named (nm := "errors.errorString") (by kernel_rfl) (by kernel_rfl) (by decide) u hu
theorem h2a : pg.underlying 186 = some (.pointer 208) := by kernel_rfl
theorem h1l : ∃ f : Field, pg.underlying 208 = some (.struct #[f]) ∧ f.offset = 0 ∧ pg.underlying f.type = some .string ∧ pg.cellsOf f.type = 1 := by
  have h : (match pg.underlying 208 with | some (.struct fs) => fs.size == 1 && fs.all (fun f => f.offset == 0 && (match pg.underlying f.type with | some .string => true | _ => false) && pg.cellsOf f.type == 1) | _ => false) = true := by kernel_rfl
  split at h
  · rename_i fs hm
    simp only [Bool.and_eq_true, beq_iff_eq] at h
    obtain ⟨h1, h2⟩ := h
    obtain ⟨f, hf⟩ : ∃ f, fs = #[f] := by
      obtain ⟨l⟩ := fs
      match l, h1 with
      | [f], _ => exact ⟨f, rfl⟩
    subst hf
    simp at h2
    refine ⟨f, hm, h2.1.1, ?_, h2.2⟩
    have := h2.1.2
    split at this
    · assumption
    · cases this
  · cases h
theorem e7r : pg.cellsOf 208 = 1 := by kernel_rfl
theorem d30 {L : List Nat} (hL : ∀ g ∈ L, g ∈ d7y) {hs : List (Nat × Value)} {laid : List (String × DataW Unit)} {W : World} (h : laidMet pg laid W) (hc : e3f L laid = true) (hhs : ∀ p ∈ hs, p.1 < W.heap.size ∧ ∃ cur T fz, W.heap[p.1]? = some (.cells cur T fz) ∧ cur[0]? = some p.2) : ∃ (G : GG) (bk : Nat → Nat × Nat), G.hs = hs ∧ ((∀ g, g ∈ L → G g = some (.iface e4x (.pointer (some ⟨(bk g).1, (bk g).2, none⟩)))) ∧ (∀ g, g ∈ L → (G (bk g).1).isSome = true) ∧ (∀ g h, g ∈ L → h ∈ L → bk g = bk h → g = h)) ∧ ∀ g v, G.at g v → GC G W g v ∧ g < W.heap.size := by
  obtain ⟨ps, hl, _, hp⟩ := h
  simp only [e3f, List.all_eq_true, Bool.and_eq_true, Bool.or_eq_true, beq_iff_eq, Bool.not_eq_true', beq_eq_false_iff_ne, ne_eq] at hc
  have key : ∀ g, ∃ y : Addr × ByteArray, g ∈ L → (∃ c t, W.heap[g]? = some (.cells c t (0, 0)) ∧ c[0]? = some (.iface 186 (.pointer (some y.1)))) ∧ W.cell? y.1 = some (.string y.2) ∧ c9u laid g = some y.2.data.toList ∧ (∃ c t, W.heap[y.1.block]? = some (.cells c t (0, 0))) := by
    intro g
    by_cases hg : g ∈ L
    · obtain ⟨text, ht⟩ := Option.isSome_iff_exists.1 (hc g hg).1
      have ht0 := ht
      unfold c9u at ht
      rw [List.findSome?_eq_some_iff] at ht
      obtain ⟨l1, x, l2, hx, hxs, _⟩ := ht
      split at hxs
      · rename_i hgn
        simp only [beq_iff_eq] at hgn
        obtain ⟨g', t, cs, fuel, p, h1, h2, h3, h4, h5⟩ := b8i hl x (by rw [hx]; simp)
        obtain rfl : g' = g := by rw [hgn] at h1; injection h1 with h1; exact h1.symm
        have ht26 : t = 45 := by
          have := List.all_eq_true.1 h3d g' (hL _ hg)
          simp only [beq_iff_eq] at this
          rw [this] at h2
          injection h2 with h2
          exact h2.symm
        subst ht26
        rw [d6z hxs] at h4
        obtain ⟨ms, hms⟩ := h8d
        obtain ⟨f, hf1, hf2, hf3, hf4⟩ := h1l
        have hvar : ∃ t0 fz, W.heap[g']? = some (.cells cs t0 fz) := by
          unfold World.var? at h3
          rw [h1] at h3
          simp only [Option.bind_some] at h3
          split at h3
          · rename_i c t0 fz hh
            injection h3 with h3
            subst h3
            exact ⟨_, _, hh⟩
          · cases h3
        obtain ⟨t0, fz, hh⟩ := hvar
        have hg0 : ∀ u v, cs.toList = [.iface u v] → MemPlace.cell g' 0 ∈ ps ∧ W.cell? ⟨g', 0, none⟩ = some (.iface u v) := by
          intro u v hcs
          have hsz : cs.size = 1 := by have := congrArg List.length hcs; simpa using this
          refine ⟨h5 _ (List.mem_append_left _ (by rw [hsz]; simp [MemPlace.row])), ?_⟩
          simp only [World.cell?, hh]
          have : cs[0]? = some (.iface u v) := by
            have := congrArg (·[0]?) hcs
            simpa using this
          simpa using this
        obtain ⟨a, s, e1, e2, e3, _, e5⟩ := errorString_of_trod hms h3u h2a hf1 rfl hf2 hf3 e7r hf4 h4 (fun u v hcs => by
          obtain ⟨m1, m2⟩ := hg0 u v hcs
          exact (hp _ _ m1).2 u v m2)
        refine ⟨(a, s), fun _ => ⟨?_, e2, ?_, ?_⟩⟩
        · obtain ⟨m1, m2⟩ := hg0 _ _ e1
          obtain ⟨⟨c, t1, hc1⟩, _⟩ := hp _ _ m1
          refine ⟨c, t1, hc1, ?_⟩
          rw [hc1] at hh
          simp only [Option.some.injEq, Obj.cells.injEq] at hh
          obtain ⟨rfl, _, _⟩ := hh
          have := congrArg (·[0]?) e1
          simpa using this
        · rw [ht0, e3]
        · have := h5 _ (List.mem_append_right _ (show MemPlace.cell a.block (a.off + 0) ∈ p by rw [e5]; simp [MemPlace.row]))
          exact (hp _ _ this).1
      · cases hxs
    · exact ⟨default, fun h => absurd h hg⟩
  obtain ⟨y, hy⟩ := Classical.axiomOfChoice key
  let bk : Nat → Nat × Nat := fun g => ((y g).1.block, (y g).1.off)
  let Gf : Nat → Option Value := fun b => if b ∈ L ∨ ∃ g, g ∈ L ∧ (bk g).1 = b then (match W.heap[b]? with | some (.cells c _ _) => c[0]? | _ => none) else none
  have hspot : ∀ g, g ∈ L → (y g).1 = ⟨(bk g).1, (bk g).2, none⟩ ∧ ∃ c t v, W.heap[(bk g).1]? = some (.cells c t (0, 0)) ∧ c[0]? = some v := by
    intro g hg
    obtain ⟨_, h2, _, c, t, h4⟩ := hy g hg
    simp only [World.cell?, h4] at h2
    split at h2
    · cases h2
    · rename_i hs
      refine ⟨?_, c, t, ?_⟩
      · have : (y g).1.spot = none := by simpa using hs
        simp only [bk]
        cases hyg : (y g).1
        rw [hyg] at this
        simp only at this
        rw [this]
      · have hlt : (y g).1.off < c.size := (Array.getElem?_eq_some_iff.1 h2).1
        exact ⟨c[0]'(by omega), h4, by simp⟩
  have strict : ∀ b v, Gf b = some v → ∃ c t, W.heap[b]? = some (.cells c t (0, 0)) ∧ c[0]? = some v := fun b v hb => by
    simp only [Gf] at hb
    split at hb
    · rename_i hor
      have : ∃ c t, W.heap[b]? = some (.cells c t (0, 0)) := by
        rcases hor with h1 | ⟨g, hg, rfl⟩
        · obtain ⟨⟨c, t, h1, _⟩, _⟩ := hy b h1
          exact ⟨c, t, h1⟩
        · obtain ⟨_, c, t, v, h1, _⟩ := hspot g hg
          exact ⟨c, t, h1⟩
      obtain ⟨c, t, h1⟩ := this
      rw [h1] at hb
      simp only at hb
      exact ⟨c, t, h1, hb⟩
    · cases hb
  refine ⟨⟨Gf, hs⟩, bk, rfl, ⟨fun g hg => ?_, fun g hg => ?_, fun g h hg hh he => ?_⟩, fun b v hb => ?_⟩
  · obtain ⟨⟨c, t, h1, h2⟩, _⟩ := hy g hg
    simp only [Gf]
    rw [if_pos (.inl hg), h1]
    simp only
    rw [h2, (hspot g hg).1]
  · obtain ⟨_, c, t, v, h1, h2⟩ := hspot g hg
    simp only [Gf]
    rw [if_pos (.inr ⟨g, hg, rfl⟩), h1]
    simp only
    rw [h2]; rfl
  · have e1 : (y g).1 = (y h).1 := by
      rw [(hspot g hg).1, (hspot h hh).1, he]
    obtain ⟨_, k1, k2, _⟩ := hy g hg
    obtain ⟨_, k3, k4, _⟩ := hy h hh
    rw [e1, k3] at k1
    simp only [Option.some.injEq, Value.string.injEq] at k1
    rcases (hc g hg).2 h hh with h5 | h5
    · exact h5
    · exact absurd (by rw [k2, k4, k1]) h5
  · rcases hb with hb | hb
    · obtain ⟨c, t, h1, h2⟩ := strict b v hb
      exact ⟨⟨c, t, (0, 0), h1, h2, fun _ => rfl⟩, (Array.getElem?_eq_some_iff.1 h1).1⟩
    · obtain ⟨h1, c, t, fz, h2, h3⟩ := hhs _ hb
      refine ⟨⟨c, t, fz, h2, h3, fun hg => ?_⟩, h1⟩
      obtain ⟨c', t', h4, _⟩ := strict b v hg
      rw [h4] at h2
      simp only [Option.some.injEq, Obj.cells.injEq] at h2
      exact h2.2.2.symm
theorem g8u : ∀ g, g ∈ d7y → gn (cn g) = g := by decide
theorem e3u : ∀ g, g < 21 → gn g ∈ d7y := by decide
theorem g2f : ∀ g, g < 21 → ∀ h, h < 21 → gn g = gn h → g = h := by decide
theorem a7y {laid : List (String × DataW Unit)} {hs : List (Nat × Value)} {W : World} (h : laidMet pg laid W) (hc : e45 laid = true) (hhs : ∀ p ∈ hs, p.1 < W.heap.size ∧ ∃ cur T fz, W.heap[p.1]? = some (.cells cur T fz) ∧ cur[0]? = some p.2) : ∃ (G : GG) (bk : Nat → Nat × Nat), G.hs = hs ∧ Sent G bk ∧ ∀ g v, G.at g v → GC G W g v ∧ g < W.heap.size := by
  have key : ∀ g, g < 22 ∧ g ≠ 8 → g ∈ d7y := fun g hg => by simp; omega
  obtain ⟨G, bk, h0, ⟨h1, h2, h3⟩, h4⟩ := d30 (L := d7y) (hs := hs) (fun g hg => hg) h hc hhs
  refine ⟨G, fun c => bk (gn c), h0, ⟨fun g hg => ?_, fun g hg => h2 _ (e3u g hg), fun g k hg hk he => g2f g hg k hk (h3 _ _ (e3u g hg) (e3u k hk) he)⟩, h4⟩
  simp only [g8u g (key g hg)]
  exact h1 g (key g hg)
end Go.Ideal.Tryd
end
section
set_option linter.unusedVariables false
set_option linter.unusedSimpArgs false
namespace Go.Proofs.YtfncabcldhemkaaDoor
open Go Go.ChangeShapes Go.WideShapes Go.RowKit Go.Ideal Go.Ideal.Tryd
theorem own : ownKnob Tryd.prog.godebug = none := by kernel_rfl
theorem d14 : laidOutB Tryd.prog = true := by kernel_rfl
noncomputable def low : Nat := (World.holding Tryd.prog default ⟨#[], #[], []⟩).heap.size
noncomputable def e6t : List Obj := (List.range 22).map fun g => .cells #[.string ⟨((c9u Rows.checkApartRow.laid g).getD []).toArray⟩] 208 (0, 0)
noncomputable def a4f (os : Os) : World :=
  let w0 := World.holding Tryd.prog os ⟨e6t.toArray, #[], []⟩
  { w0 with heap := ((w0.heap.toList.zipIdx).map fun
      | (.cells c t fz, 8) => .cells #[.iface 170 (.agg #[.pointer (some ⟨22, 45, none⟩)])] t fz
      | (.cells c t fz, i) => if i ∈ ([0, 1, 2, 3, 4, 5, 6, 7, 9, 10, 11, 12, 13, 14, 15, 16, 17, 18, 19, 20, 21] : List Nat) then .cells #[.iface 186 (.pointer (some ⟨low + i, 0, none⟩))] t fz else .cells c t fz
      | (o, _) => o).toArray }
theorem b0g (os : Os) (args : Array Value) : ((a4f os).forCall (fun _ _ => 0) ⟨#[], args, []⟩).Shaped Tryd.prog :=
  World.shaped_of_RefB (by kernel_rfl) (by kernel_rfl)
theorem hEt : Tryd.prog.globalNamed "errors.errorType" = some 8 := by kernel_rfl
theorem hRt : (Tryd.prog.cutTypes.find? (·.1 == "internal/reflectlite.rtype")).map (·.2) = some 170 := by kernel_rfl
theorem e9s : ((List.range 220).filter fun t => Tryd.prog.rowNamed t [101, 114, 114, 111, 114]) = [45] := by kernel_rfl
theorem h1j : Tryd.prog.types.size = 220 := by kernel_rfl
abbrev hX : String × DataW Unit := ("errors.errorType", .iface "internal/reflectlite.rtype" (.agg [.ptr (.lit (.string [101, 114, 114, 111, 114]))]))
abbrev hV : Value := .iface 170 (.agg #[.pointer (some ⟨22, 45, none⟩)])
theorem a4y {W : World} (h' : handlesMet Tryd.prog [hX] W) : 8 < W.heap.size ∧ ∃ cur T fz, W.heap[8]? = some (.cells cur T fz) ∧ cur[0]? = some hV := by
  obtain ⟨name, u, ty, e1, e2, e3, e4, e5⟩ := h' _ (List.mem_singleton.2 rfl)
  have en : name = [101, 114, 114, 111, 114] := (Option.some.inj e1).symm
  subst en
  obtain rfl := Option.some.inj (hRt.symm.trans e2)
  have hm : ty ∈ (List.range 220).filter fun t => Tryd.prog.rowNamed t [101, 114, 114, 111, 114] := List.mem_filter.2 ⟨List.mem_range.2 (by rw [← h1j]; exact e3), e4⟩
  rw [e9s] at hm
  obtain rfl := List.mem_singleton.1 hm
  have hh : typeHandle Tryd.prog 45 = .pointer (some ⟨22, 45, none⟩) := by kernel_rfl
  rw [hh] at e5
  unfold World.var? at e5
  rw [hEt] at e5
  simp only [Option.bind_some] at e5
  split at e5
  · rename_i c t0 fz hc
    injection e5 with e5
    subst e5
    exact ⟨(Array.getElem?_eq_some_iff.1 hc).1, _, _, _, hc, rfl⟩
  · cases e5
end Go.Proofs.YtfncabcldhemkaaDoor
end
section
set_option linter.unusedVariables false
set_option linter.unusedSimpArgs false
namespace Go.Ideal
open Go.ChangeShapes Go.RowKit Classical
section
variable {H : Type} {e : TypeId × Value → H} {P : Program} {w : World}
def RdF (e : TypeId × Value → H) (P : Program) (w : World) (T : Type) (ts : List (TypeId × Nat)) (o total : Nat) (enc : T → List AV) (ok : T → Prop) : Prop :=
  ∀ (n : Nat) (cs : List Value) (xs : List (DataW H × List MemPlace)), cs.length = total → xs.length = ts.length →
    (∀ (i : Nat) (p : TypeId × Nat), ts[i]? = some p → DataW.trod e P w 0 (fun _ => true) true n p.1 ((cs.drop p.2).take (P.cellsOf p.1)) = xs[i]?) →
    (DataW.weightsEach P (ts.map (·.1)) (xs.map (·.1))).all (· ≤ reachBytes) = true → ∃ x, ok x ∧ RL w (fun b => b < w.heap.size) (enc x) noQ noB (cs.drop o) ∧ C1 (cs.drop o)
theorem RdF.nil {o : Nat} : RdF e P w Unit [] o o (fun _ => []) (fun _ => True) := by
  intro n cs xs hl _ _ _
  refine ⟨(), trivial, ?_, fun u hu => ?_⟩
  · rw [List.drop_of_length_le (by omega)]; simp [RL]
  · rw [List.drop_of_length_le (by omega)] at hu; simp at hu
theorem RdF.cons {T U : Type} {t : TypeId} {k : Nat} {ts : List (TypeId × Nat)} {o total : Nat} {enc : T → List AV} {ok : T → Prop} {enc' : U → List AV} {ok' : U → Prop} (hk : P.cellsOf t = k) (h : Rd e P w T t enc ok) (hr : RdF e P w U ts (o + k) total enc' ok') :
    RdF e P w (T × U) ((t, o) :: ts) o total (fun p => enc p.1 ++ enc' p.2) (fun p => ok p.1 ∧ ok' p.2) := by
  intro n cs xs hl hx ht hw
  cases xs with
  | nil => simp at hx
  | cons y ys =>
    simp only [List.map_cons, DataW.weightsEach, List.all_append, Bool.and_eq_true] at hw
    have h0 := ht 0 (t, o) rfl
    simp only [List.getElem?_cons_zero, hk] at h0
    obtain ⟨x, ox, rx, cx⟩ := h n _ y.1 y.2 h0 hw.1
    obtain ⟨z, oz, rz, cz⟩ := hr n cs ys hl (by simpa using hx) (fun i p hp => by simpa using ht (i + 1) p (by simpa using hp)) hw.2
    have e1 : cs.drop o = (cs.drop o).take k ++ cs.drop (o + k) := by rw [← List.drop_drop]; exact (List.take_append_drop _ _).symm
    refine ⟨(x, z), ⟨ox, oz⟩, ?_, fun u hu => ?_⟩
    · rw [e1]
      exact a2l (fun b hb => hb.elim (fun h => h) fun h => h) (a12 rx rz fun b hb => hb.elim)
    · rw [e1] at hu
      rcases List.mem_append.1 hu with hu | hu
      · exact cx u hu
      · exact cz u hu
def c0q (P : Program) (t : TypeId) (l : List (TypeId × Nat)) : Bool := match P.underlying t with
  | some (.struct fs) => fs.toList.map (fun f => (f.type, f.offset)) == l
  | _ => false
theorem Rd.struct {T : Type} {t : TypeId} {l : List (TypeId × Nat)} {total : Nat} {enc : T → List AV} {ok : T → Prop} (hs : c0q P t l = true) (hc : P.cellsOf t = total) (hF : RdF e P w T l 0 total enc ok) : Rd e P w T t enc ok := by
  intro fuel cs d ps h hw
  unfold c0q at hs
  split at hs
  · rename_i fs ht
    simp only [beq_iff_eq] at hs
    obtain ⟨xs, n, _, hx, hl, hxl, hf⟩ := DataW.trod_struct ht h
    simp only [Prod.mk.injEq] at hx
    obtain ⟨rfl, _⟩ := hx
    simp only [DataW.weights, ht] at hw
    have := hF n cs xs (by rw [hl, hc]) (by rw [hxl, ← hs]; simp) (fun i p hp => by
      rw [← hs] at hp
      simp only [List.getElem?_map, Option.map_eq_some_iff] at hp
      obtain ⟨f, hfi, rfl⟩ := hp
      exact hf i f (by simpa using hfi)) (by
      rw [← hs, List.map_map]
      exact hw)
    simpa using this
  · cases hs
theorem Rd.map {T U : Type} {t : TypeId} {enc : T → List AV} {ok : T → Prop} {enc' : U → List AV} {ok' : U → Prop} (h : Rd e P w T t enc ok) (f : T → U) (henc : ∀ x, enc' (f x) = enc x) (hok : ∀ x, ok x → ok' (f x)) : Rd e P w U t enc' ok' := by
  intro fuel cs d ps h1 h2
  obtain ⟨x, a, b, c⟩ := h fuel cs d ps h1 h2
  exact ⟨f x, hok x a, by rw [henc]; exact b, c⟩
theorem e57 {t : TypeId} {v : Value} {l : List (TypeId × Nat)} {r : Reach} {base : Nat} {ks : List AV} (hs : c0q P t l = true) (hv : Value.okWide P w r base t v) (hr : RL w (fun b => b < w.heap.size) ks noQ noB v.cells.toList) (hc : C1 v.cells.toList) : R w (fun b => b < w.heap.size) (.agg ks) noQ noB v := by
  unfold c0q at hs
  split at hs
  · rename_i fs ht
    unfold Value.okWide at hv
    rw [ht] at hv
    obtain ⟨cs, rfl, _⟩ := hv
    simp only [R]
    exact ⟨cs, rfl, hc, hr⟩
  · cases hs
end
end Go.Ideal
end
section
set_option linter.unusedSimpArgs false
set_option linter.unusedVariables false
set_option maxRecDepth 10000
namespace Go.Ideal.Tryd
@[go_sem] def b8v : List AO := [oo 2 (.asg (.nl 1))]
@[go_sem] def b9e : List AO := [om 5 0,
 oo 6 (.len 24 false (.t 5)),
 oo 7 (.mks 24 3 1 8 [.lit (.int .i64 0)] (.n 0) (.t 6)),
 oo 3 (.asg (.t 7))]
@[go_sem] def b9j : List AO := [oo 4 (.asg (.n 0))]
@[go_sem] def b9k : List AO := [om 8 4,
 om 9 0,
 oo 10 (.len 24 false (.t 9)),
 oo 11 (.bin .lss 3 0 (.t 8) (.t 10) 3)]
@[go_sem] def b8o : List AO := [om 14 3,
 om 15 0,
 om 16 4,
 oo 17 (.iaddr 24 1 (.t 15) (.t 16)),
 oo 18 (.load 3 none (.t 17)),
 oo 19 (.bslice 24 3 1 1 [.lit (.int .i64 0)] [(0, (.t 18))]),
 oo 20 (.app 24 3 1 8 (.t 14) (.t 19)),
 oo 3 (.asg (.t 20))]
@[go_sem] def b8l : List AO := [om 12 4,
 oo 13 (.bin .add 3 0 (.t 12) (.n 1) 3),
 oo 4 (.asg (.t 13))]
def a5g : IC := (.seq (.seq (.reg b9k) (.cond (.t 11) .skip (.exit 0))) (.seq (.block 1 (.reg b8o)) (.reg b8l)))
@[go_sem] def b8q : List AO := [om 21 3,
 oo 2 (.asg (.t 21))]
def b1j : IC := (.seq (.reg b8v) (.seq (.reg b9e) (.seq (.seq (.reg b9j) (.block 0 (.loop a5g))) (.seq (.reg b8q) .ret))))
abbrev b90 : Nat := 34
theorem b6c : fnC pg 34 22 [(.tmp 2)] b1j := a0x Go.Proofs.Tryd.f34 [(.tmp 2)] (by kernel_rfl)
@[go_sem] theorem d99 : fnB pg 34 = true := by kernel_rfl
@[go_sem] def d2p : List AO := [oo 1 (.box 71 3 (.t 0)),
 oo 2 (.asg (.c .nilIface))]
@[go_sem] def d0e : List AO := [oo 6 (.faddr 71 0 (.t 1) 0),
 oo 7 (.load 26 (some 2) (.t 6)),
 oc 8 58 [(false, (.t 7))] [26],
 oo 3 (.asg (.t 8))]
@[go_sem] def d3w : List AO := [om 9 3,
 oo 10 (.bin .neq 45 2 (.t 9) (.c .nilIface) 45)]
@[go_sem] def d0s : List AO := [om 11 3,
 oo 2 (.asg (.t 11))]
@[go_sem] def d2q : List AO := [oo 12 (.faddr 71 2 (.t 1) 1),
 oo 13 (.load 24 none (.t 12)),
 oo 14 (.len 24 false (.t 13)),
 oo 15 (.faddr 71 0 (.t 1) 0),
 oo 16 (.faddr 26 0 (.t 15) 0),
 oo 17 (.load 24 none (.t 16)),
 oc 18 56 [(false, (.t 17))] [24],
 oo 19 (.bin .neq 3 0 (.t 14) (.t 18) 3)]
@[go_sem] def d09 : List AO := [oo 20 (.load 45 none (.g 7)),
 oo 2 (.asg (.t 20))]
@[go_sem] def d0b : List AO := [oo 21 (.faddr 71 2 (.t 1) 1),
 oo 22 (.load 24 none (.t 21)),
 oo 23 (.len 24 false (.t 22)),
 oo 24 (.mv (.n 0))]
@[go_sem] def d3c : List AO := [oo 25 (.bin .lss 3 0 (.t 24) (.t 23) 3)]
@[go_sem] def d1l : List AO := [om 26 24,
 oo 27 (.iaddr 24 1 (.t 22) (.t 24)),
 oo 28 (.load 3 none (.t 27)),
 oo 4 (.asg (.t 26)),
 oo 5 (.asg (.t 28))]
@[go_sem] def d3j : List AO := [om 29 5,
 oo 30 (.faddr 71 0 (.t 1) 0),
 oo 31 (.faddr 26 1 (.t 30) 1),
 oo 32 (.load 4 none (.t 31)),
 oc 33 80 [(false, (.t 29)), (false, (.t 32))] [3, 4],
 oo 34 (.un .not 4 (.t 33))]
@[go_sem] def c8g : List AO := [om 35 4,
 oo 36 (.load 45 none (.g 3)),
 oo 37 (.build 114 [.lit (.int .i64 0), .lit .nilIface] [(0, 0, 1, (.t 35)), (1, 1, 1, (.t 36))]),
 oo 38 (.box 114 2 (.t 37)),
 oo 39 (.mki 110 (.t 38)),
 oo 2 (.asg (.t 39))]
@[go_sem] def c8d : List AO := [oo 40 (.bin .add 3 0 (.t 24) (.n 1) 3),
 om 24 40]
def a5q : IC := (.seq (.reg d3c) (.seq (.cond (.t 25) .skip (.exit 0)) (.seq (.block 1 (.seq (.reg d1l) (.seq (.reg d3j) (.cond (.t 34) (.seq (.reg c8g) .ret) .skip)))) (.reg c8d))))
@[go_sem] def c43 : List AO := [oo 2 (.asg (.c .nilIface))]
def b8c : IC := (.seq (.reg d2p) (.seq (.seq (.reg d0e) (.seq (.reg d3w) (.cond (.t 10) (.seq (.reg d0s) .ret) .skip))) (.seq (.seq (.draw d2q [[], [0], [1], [], [3], [4], [5], [2, 6]]) (.cond (.t 19) (.seq (.reg d09) .ret) .skip)) (.seq (.seq (.reg d0b) (.block 0 (.loop a5q))) (.seq (.reg c43) .ret)))))
abbrev d5k : Nat := 59
theorem c37 : fnC pg 59 41 [(.tmp 2)] b8c := a0x Go.Proofs.Tryd.f59 [(.tmp 2)] (by kernel_rfl)
@[go_sem] theorem e54 : fnB pg 59 = true := by kernel_rfl
@[go_sem] def c6r : List AO := [oo 1 (.box 26 2 (.t 0)),
 oo 2 (.asg (.c .nilIface))]
@[go_sem] def c78 : List AO := [oo 8 (.faddr 26 0 (.t 1) 0),
 oo 9 (.load 24 none (.t 8)),
 oo 10 (.len 24 false (.t 9)),
 oo 11 (.bin .gtr 3 0 (.t 10) (.n 4) 3)]
@[go_sem] def c6v : List AO := [oo 12 (.load 45 none (.g 2)),
 oo 2 (.asg (.t 12))]
@[go_sem] def c77 : List AO := [oo 3 (.asg (.n 1))]
@[go_sem] def c87 : List AO := [oo 13 (.faddr 26 0 (.t 1) 0),
 oo 14 (.load 24 none (.t 13)),
 oo 15 (.len 24 false (.t 14)),
 oo 16 (.mv (.n 0))]
@[go_sem] def c8o : List AO := [oo 17 (.bin .lss 3 0 (.t 16) (.t 15) 3)]
@[go_sem] def c4v : List AO := [oo 18 (.iaddr 24 1 (.t 14) (.t 16)),
 oo 19 (.load 3 none (.t 18)),
 oo 5 (.asg (.t 19))]
@[go_sem] def c72 : List AO := [om 20 5,
 oo 21 (.bin .lss 3 0 (.t 20) (.n 1) 3),
 om 22 21,
 og 23 (.mv (.t 5)) 2 22 false,
 og 24 (.bin .gtr 3 0 (.t 23) (.n 256) 3) 2 22 false,
 oo 25 (.pick (.t 22) (.c (.bool true)) (.t 24))]
@[go_sem] def c5r : List AO := [oo 26 (.load 45 none (.g 3)),
 oo 2 (.asg (.t 26))]
@[go_sem] def c6u : List AO := [oo 27 (.bin .add 3 0 (.t 16) (.n 1) 3),
 om 16 27]
def a2w : IC := (.seq (.reg c8o) (.seq (.cond (.t 17) .skip (.exit 0)) (.seq (.block 1 (.seq (.reg c4v) (.seq (.reg c72) (.cond (.t 25) (.seq (.reg c5r) .ret) .skip)))) (.reg c6u))))
@[go_sem] def c22 : List AO := [oo 28 (.faddr 26 0 (.t 1) 0),
 oo 29 (.load 24 none (.t 28)),
 oo 30 (.len 24 false (.t 29)),
 oo 31 (.mv (.n 0))]
@[go_sem] def c08 : List AO := [oo 32 (.bin .lss 3 0 (.t 31) (.t 30) 3)]
@[go_sem] def c1i : List AO := [oo 33 (.iaddr 24 1 (.t 29) (.t 31)),
 oo 34 (.load 3 none (.t 33)),
 oo 7 (.asg (.t 34))]
@[go_sem] def c3x : List AO := [om 35 3,
 om 36 7,
 oo 37 (.bin .mul 3 0 (.t 35) (.t 36) 3),
 oo 3 (.asg (.t 37))]
@[go_sem] def c1m : List AO := [om 38 3,
 oo 39 (.bin .gtr 3 0 (.t 38) (.n 16384) 3)]
@[go_sem] def c1j : List AO := [oo 40 (.load 45 none (.g 2)),
 oo 2 (.asg (.t 40))]
@[go_sem] def b9v : List AO := [oo 41 (.bin .add 3 0 (.t 31) (.n 1) 3),
 om 31 41]
def a3r : IC := (.seq (.reg c08) (.seq (.cond (.t 32) .skip (.exit 2)) (.seq (.block 3 (.seq (.reg c1i) (.seq (.reg c3x) (.seq (.reg c1m) (.cond (.t 39) (.seq (.reg c1j) .ret) .skip))))) (.reg b9v))))
@[go_sem] def c3b : List AO := [oo 2 (.asg (.c .nilIface))]
def b0h : IC := (.seq (.reg c6r) (.seq (.seq (.reg c78) (.cond (.t 11) (.seq (.reg c6v) .ret) .skip)) (.seq (.reg c77) (.seq (.seq (.reg c87) (.block 0 (.loop a2w))) (.seq (.seq (.reg c22) (.block 2 (.loop a3r))) (.seq (.reg c3b) .ret))))))
abbrev d2k : Nat := 58
theorem b82 : fnC pg 58 42 [(.tmp 2)] b0h := a0x Go.Proofs.Tryd.f58 [(.tmp 2)] (by kernel_rfl)
@[go_sem] theorem e4q : fnB pg 58 = true := by kernel_rfl
@[go_sem] def c6c : List AO := [oo 2 (.asg (.n 0))]
@[go_sem] def c7b : List AO := [om 6 0,
 oc 7 77 [(false, (.t 6))] [24],
 oo 8 (.un .not 4 (.t 7))]
@[go_sem] def c5t : List AO := [oo 2 (.asg (.n 0))]
@[go_sem] def c4t : List AO := [oo 3 (.asg (.n 1))]
@[go_sem] def c5s : List AO := [om 9 0,
 oo 10 (.len 24 false (.t 9)),
 oo 11 (.mv (.n 0))]
@[go_sem] def c8n : List AO := [oo 12 (.bin .lss 3 0 (.t 11) (.t 10) 3)]
@[go_sem] def c75 : List AO := [oo 13 (.iaddr 24 1 (.t 9) (.t 11)),
 oo 14 (.load 3 none (.t 13)),
 oo 5 (.asg (.t 14))]
@[go_sem] def c5n : List AO := [om 15 3,
 om 16 5,
 oo 17 (.bin .mul 3 0 (.t 15) (.t 16) 3),
 oo 3 (.asg (.t 17))]
@[go_sem] def c4p : List AO := [oo 18 (.bin .add 3 0 (.t 11) (.n 1) 3),
 om 11 18]
def a8f : IC := (.seq (.reg c8n) (.seq (.cond (.t 12) .skip (.exit 0)) (.seq (.block 1 (.seq (.reg c75) (.reg c5n))) (.reg c4p))))
@[go_sem] def c4j : List AO := [om 19 3,
 oo 2 (.asg (.t 19))]
def b43 : IC := (.seq (.reg c6c) (.seq (.seq (.reg c7b) (.cond (.t 8) (.seq (.reg c5t) .ret) .skip)) (.seq (.reg c4t) (.seq (.seq (.reg c5s) (.block 0 (.loop a8f))) (.seq (.reg c4j) .ret)))))
abbrev c99 : Nat := 56
theorem b9i : fnC pg 56 20 [(.tmp 2)] b43 := a0x Go.Proofs.Tryd.f56 [(.tmp 2)] (by kernel_rfl)
@[go_sem] theorem e5k : fnB pg 56 = true := by kernel_rfl
@[go_sem] def d4x : List AO := [oo 4 (.asg (.c (.bool false)))]
@[go_sem] def d44 : List AO := [om 5 1]
@[go_sem] def d4f : List AO := [om 6 0,
 oo 7 (.bin .geq 3 0 (.t 6) (.n (-2147483648)) 3),
 om 8 7,
 og 9 (.mv (.t 0)) 2 8 true,
 og 10 (.bin .leq 3 0 (.t 9) (.n 2147483647) 3) 2 8 true,
 oo 11 (.pick (.t 8) (.t 10) (.c (.bool false))),
 oo 4 (.asg (.t 11))]
@[go_sem] def d6f : List AO := [om 12 0,
 oo 13 (.bin .geq 3 0 (.t 12) (.n (-128)) 3),
 om 14 13,
 og 15 (.mv (.t 0)) 2 14 true,
 og 16 (.bin .leq 3 0 (.t 15) (.n 127) 3) 2 14 true,
 oo 17 (.pick (.t 14) (.t 16) (.c (.bool false))),
 oo 4 (.asg (.t 17))]
def b3x : IC := (.seq (.reg d4x) (.seq (.seq (.reg d44) (.cond (.t 5) (.seq (.reg d4f) .ret) .skip)) (.seq (.reg d6f) .ret)))
abbrev d62 : Nat := 80
theorem c8c : fnC pg 80 18 [(.tmp 4)] b3x := a0x Go.Proofs.Tryd.f80 [(.tmp 4)] (by kernel_rfl)
@[go_sem] theorem e7c : fnB pg 80 = true := by kernel_rfl
@[go_sem] def c5c : List AO := [oo 1 (.box 26 2 (.t 0)),
 oo 2 (.asg (.n 0))]
@[go_sem] def c60 : List AO := [oo 3 (.faddr 26 1 (.t 1) 1),
 oo 4 (.load 4 none (.t 3))]
@[go_sem] def c7r : List AO := [oo 5 (.faddr 26 0 (.t 1) 0),
 oo 6 (.load 24 none (.t 5)),
 oc 7 56 [(false, (.t 6))] [24],
 oo 8 (.bin .mul 3 0 (.n 4) (.t 7) 3),
 oo 2 (.asg (.t 8))]
@[go_sem] def c6j : List AO := [oo 9 (.faddr 26 0 (.t 1) 0),
 oo 10 (.load 24 none (.t 9)),
 oc 11 56 [(false, (.t 10))] [24],
 oo 2 (.asg (.t 11))]
def b5o : IC := (.seq (.reg c5c) (.seq (.seq (.reg c60) (.cond (.t 4) (.seq (.reg c7r) .ret) .skip)) (.seq (.reg c6j) .ret)))
abbrev d1m : Nat := 33
theorem b89 : fnC pg 33 12 [(.tmp 2)] b5o := a0x Go.Proofs.Tryd.f33 [(.tmp 2)] (by kernel_rfl)
@[go_sem] theorem e5a : fnB pg 33 = true := by kernel_rfl
@[go_sem] def d1g : List AO := [oo 2 (.asg (.c (.bool false)))]
@[go_sem] def d2s : List AO := [om 3 0,
 oo 4 (.build 26 [.own 1 0 [], .lit (.bool false)] [(0, 0, 1, (.t 3))]),
 oc 5 58 [(false, (.t 4))] [26],
 oo 6 (.bin .eql 45 2 (.t 5) (.c .nilIface) 45),
 oo 2 (.asg (.t 6))]
def b8g : IC := (.seq (.reg d1g) (.seq (.reg d2s) .ret))
abbrev d5h : Nat := 77
theorem c0t : fnC pg 77 7 [(.tmp 2)] b8g := a0x Go.Proofs.Tryd.f77 [(.tmp 2)] (by kernel_rfl)
@[go_sem] theorem e5q : fnB pg 77 = true := by kernel_rfl
end Go.Ideal.Tryd
end
section
set_option linter.unusedVariables false
set_option linter.unusedSimpArgs false
set_option maxRecDepth 10000
namespace Go.Ideal.Tryd
section
variable {G : GG} {Q : Exit → St → Prop} {st : St}
abbrev lu (n : Int) : AV := .lit (.int .u8 n)
abbrev u8 (n : Int) : Int := IntKind.u8.wrap n
end
end Go.Ideal.Tryd
end
section
set_option linter.unusedVariables false
set_option linter.unusedSimpArgs false
set_option maxRecDepth 10000
namespace Go.Ideal
section
variable {k yk : IntKind} {a b : Int}
theorem f1i (h : 0 ≤ b) : a16 .shr (.int k a) (.int yk b) = some (.int k (a.fdiv (2 ^ min b.toNat k.bits))) := by simp [a16, Op.shift, show ¬ b < 0 by omega]; rfl
@[go_sem] theorem h4m (h : 0 ≤ b) : a3o .shr 0 (.lit (.int k a)) (.lit (.int yk b)) = some (.lit (.int k (a.fdiv (2 ^ min b.toNat k.bits)))) := by simp [a3o, e1q, f1i h]
end
namespace Tryd
section
variable {G : GG} {Q : Exit → St → Prop} {st : St}
end
end Tryd
end Go.Ideal
end
section
set_option linter.unusedVariables false
set_option linter.unusedSimpArgs false
set_option maxRecDepth 10000
namespace Go.Ideal.Tryd
section
variable {Q : Exit → St → Prop} {st : St}
theorem e81 (G : GG) (xs : List Int) (hlen : xs.length < 2 ^ 40) : ACalls pg G b90 [slI xs] (owI xs) := by
  refine b6c rfl ?_
  simp (disch := omega) [go_sem, b1j]
  refine a1g Nat (fun i st => st.s 0 = slI xs ∧ (∃ ys, ys = xs.take i ∧ st.s 3 = owI ys) ∧ st.s 4 = li i ∧ i ≤ xs.length) (fun i => xs.length - i) 0 ?_ ?_
  · exact ⟨by simp (disch := omega) [go_sem], ⟨[], by simp, by simp (disch := omega) [go_sem]⟩, by simp (disch := omega) [go_sem], by omega⟩
  · rintro i st K ⟨h0, ⟨ys, hys, h3⟩, h4, hi⟩ hK
    have hl : ys.length = i := by rw [hys]; simp; omega
    by_cases hlt : i < xs.length
    · simp (disch := omega) [go_sem, a5g, h0, h3, h4, hlt]
      refine hK (i + 1) _ ⟨by simp (disch := omega) [go_sem, h0], ⟨ys ++ [xs[i]], by rw [List.take_succ_eq_append_getElem hlt, hys], ?_⟩, by simp (disch := omega) [go_sem, h4], by omega⟩ (by omega)
      simp (disch := omega) [go_sem]
    · obtain rfl : i = xs.length := by omega
      have : ys = xs := by rw [hys]; simp
      subst this
      simp (disch := omega) [go_sem, a5g, h0, h3, h4]
end
end Go.Ideal.Tryd
end
section
set_option linter.unusedVariables false
set_option linter.unusedSimpArgs false
namespace Go.Ideal
def fm {α : Type} (f : α → List AV) (xs : List α) : List AV := xs.flatMap f
section
variable {α : Type} {f : α → List AV} {k : Nat} {xs : List α}
@[go_sem] theorem g6t {z y : AV} {zs : List AV} : a95 1 (z :: y :: zs) = z :: y :: zs := by simp [a95]
@[go_sem] theorem g29 {zs : List AV} : a95 0 zs = [] := by simp [a95]
theorem g0o : fm f [] = [] := rfl
theorem b0o {x : α} : fm f (x :: xs) = f x ++ fm f xs := rfl
theorem a9k (hf : ∀ x, (f x).length = k) : (fm f xs).length = xs.length * k := by
  induction xs with
  | nil => simp [fm]
  | cons x xs ih => rw [b0o, List.length_append, hf, ih, List.length_cons, Nat.add_mul, Nat.one_mul, Nat.add_comm]
theorem e37 {x : α} : fm f [x] = f x := by simp [fm]
theorem a5e (hf : ∀ x, (f x).length = k) : (fm f xs).take (xs.length * k) = fm f xs := List.take_of_length_le (by rw [a9k hf]; exact Nat.le_refl _)
theorem d9p {ys : List α} : fm f (xs ++ ys) = fm f xs ++ fm f ys := by simp [fm, List.flatMap_append]
theorem c3w (hf : ∀ x, (f x).length = k) {i : Nat} (h : i < xs.length) : ((fm f xs).drop (i * k)).take k = f xs[i] := by
  induction xs generalizing i with
  | nil => simp at h
  | cons x xs ih =>
    rw [b0o]
    cases i with
    | zero => rw [Nat.zero_mul, List.drop_zero, List.take_append_of_le_length (by rw [hf]; exact Nat.le_refl _), List.take_of_length_le (by rw [hf]; exact Nat.le_refl _)]; rfl
    | succ i =>
      rw [Nat.add_mul, Nat.one_mul, List.drop_append, hf, List.drop_of_length_le (by rw [hf]; omega), List.nil_append, Nat.add_sub_cancel]
      rw [ih (by simpa using h)]
      rfl
theorem d9a {a b : List AV} : a1v (a ++ b) = a1v a ++ a1v b := by simp only [d8h, List.map_append]
theorem b1k : a1v (fm f xs) = fm (fun x => a1v (f x)) xs := by
  induction xs with
  | nil => simp [fm, a1v]
  | cons x xs ih => rw [b0o, b0o, d9a, ih]
theorem e1y {a b : List AV} : a0u (a ++ b) = (a0u a && a0u b) := by
  induction a with
  | nil => simp [a0u]
  | cons x a ih => simp only [List.cons_append, a0u, ih, Bool.and_assoc]
theorem e0p {a b : List AV} : a07 (a ++ b) = (a07 a && a07 b) := by
  induction a with
  | nil => simp [a07]
  | cons x a ih => simp only [List.cons_append, a07, ih, Bool.and_assoc]
theorem b6g (h : ∀ x, a0u (f x) = true) : a0u (fm f xs) = true := by
  induction xs with
  | nil => simp [fm, a0u]
  | cons x xs ih => rw [b0o, e1y, h, ih]; rfl
theorem b5u (h : ∀ x, a07 (f x) = true) : a07 (fm f xs) = true := by
  induction xs with
  | nil => simp [fm, a07]
  | cons x xs ih => rw [b0o, e0p, h, ih]; rfl
end
end Go.Ideal
end
section
set_option linter.unusedVariables false
set_option linter.unusedSimpArgs false
set_option maxRecDepth 10000
namespace Go.Ideal.Tryd
structure Nd where
  op : Int
  ins : List Int
  args : List Int
  shape : List Int
  wide : Bool
  data : List Int
def c9h (n : Nd) : List AV := [li n.op, slI n.ins, slI n.args, slI n.shape, lb n.wide, slI n.data]
@[go_sem] theorem g77 {xs : List Nd} : (fm c9h xs).length = xs.length * 6 := a9k fun _ => rfl
@[go_sem] theorem g4i {xs : List Nd} {i : Nat} (h : i < xs.length) : ((fm c9h xs).drop (i * 6)).take 6 = [li xs[i].op, slI xs[i].ins, slI xs[i].args, slI xs[i].shape, lb xs[i].wide, slI xs[i].data] := c3w (f := c9h) (k := 6) (fun _ => rfl) h
@[go_sem] theorem f6l {xs : List Nd} : (fm c9h xs).take (xs.length * 6) = fm c9h xs := a5e fun _ => rfl
@[go_sem] theorem f54 {xs : List Nd} : a0u (fm c9h xs) = true := b6g fun _ => rfl
@[go_sem] theorem g5e {xs : List Nd} : a1v (fm c9h xs) = fm c9h xs := by
  rw [b1k]; congr 1
section
variable {G : GG} {Q : Exit → St → Prop} {st : St}
end
end Go.Ideal.Tryd
end
section
set_option linter.unusedVariables false
set_option linter.unusedSimpArgs false
set_option maxRecDepth 10000
namespace Go.Ideal.Tryd
section
variable {G : GG} {Q : Exit → St → Prop} {st : St}
def g0w (r : List Int) : List AV := [li 4, owI r, .own 1 0 [], .own 1 0 [], lb false, .own 1 0 []]
def h4j (r : List Int) : Nd := ⟨4, r, [], [], false, []⟩
@[go_sem] theorem g6a {xs : List (List Int)} : (fm g0w xs).length = xs.length * 6 := a9k fun _ => rfl
@[go_sem] theorem f6v {xs : List (List Int)} : (fm g0w xs).take (xs.length * 6) = fm g0w xs := a5e fun _ => rfl
@[go_sem] theorem g7q {xs : List (List Int)} : a1v (fm g0w xs) = fm c9h (xs.map h4j) := by
  rw [b1k]
  induction xs with
  | nil => rfl
  | cons x xs ih =>
    rw [b0o, List.map_cons, b0o, ih]
    congr 1
    simp [g0w, c9h, h4j, go_sem]
end
end Go.Ideal.Tryd
end
section
set_option linter.unusedVariables false
set_option linter.unusedSimpArgs false
set_option maxRecDepth 10000
namespace Go.Ideal.Tryd
section
variable {G : GG} {Q : Exit → St → Prop} {st : St}
end
end Go.Ideal.Tryd
end
section
set_option linter.unusedVariables false
set_option linter.unusedSimpArgs false
namespace Go.Ideal.Tryd
def sp (t : Nat) : List (List Int) → Nat → List Int
  | [], _ => []
  | r :: rs, i => (if (t : Int) ∈ r then [(i : Int)] else []) ++ sp t rs (i + 1)
end Go.Ideal.Tryd
end
section
set_option linter.unusedVariables false
set_option linter.unusedSimpArgs false
set_option maxRecDepth 10000
namespace Go.Ideal.Tryd
end Go.Ideal.Tryd
end
section
set_option linter.unusedSimpArgs false
set_option linter.unusedVariables false
set_option maxRecDepth 10000
namespace Go.Ideal.Tryd
@[go_sem] def b2p : List AO := [oo 2 (.box 71 3 (.t 0)),
 oo 4 (.asg (.c (.bool false)))]
@[go_sem] def b2y : List AO := [oo 5 (.faddr 71 0 (.t 2) 0),
 oo 6 (.load 26 (some 2) (.t 5)),
 oc 7 42 [(false, (.t 6))] [26],
 om 8 7,
 og 9 (.faddr 71 2 (.t 2) 1) 3 8 true,
 og 10 (.load 24 none (.t 9)) 3 8 true,
 og 11 (.len 24 false (.t 10)) 3 8 true,
 og 12 (.mv (.t 1)) 3 8 true,
 og 13 (.bin .leq 3 0 (.t 11) (.t 12) 3) 3 8 true,
 oo 14 (.pick (.t 8) (.t 13) (.c (.bool false))),
 oo 4 (.asg (.t 14))]
def a5y : IC := (.seq (.reg b2p) (.seq (.reg b2y) .ret))
abbrev b3k : Nat := 45
theorem b01 : fnC pg 45 15 [(.tmp 4)] a5y := a0x Go.Proofs.Tryd.f45 [(.tmp 4)] (by kernel_rfl)
@[go_sem] theorem d5s : fnB pg 45 = true := by kernel_rfl
@[go_sem] def b4m : List AO := [oo 1 (.box 26 2 (.t 0)),
 oo 2 (.asg (.c (.bool false)))]
@[go_sem] def b6a : List AO := [oo 3 (.faddr 26 0 (.t 1) 0),
 oo 4 (.load 24 none (.t 3)),
 oo 5 (.len 24 false (.t 4)),
 oo 6 (.bin .leq 3 0 (.t 5) (.n 8) 3),
 oo 2 (.asg (.t 6))]
def a4n : IC := (.seq (.reg b4m) (.seq (.reg b6a) .ret))
abbrev b7j : Nat := 42
theorem b2v : fnC pg 42 7 [(.tmp 2)] a4n := a0x Go.Proofs.Tryd.f42 [(.tmp 2)] (by kernel_rfl)
@[go_sem] theorem d61 : fnB pg 42 = true := by kernel_rfl
@[go_sem] def b00 : List AO := [oo 1 (.box 26 2 (.t 0)),
 oo 2 (.asg (.n 0))]
@[go_sem] def b0w : List AO := [oo 5 (.faddr 26 0 (.t 1) 0),
 oo 6 (.load 24 none (.t 5)),
 oo 7 (.len 24 false (.t 6)),
 oo 8 (.bin .gtr 3 0 (.t 7) (.n 4) 3)]
@[go_sem] def b08 : List AO := [oo 2 (.asg (.n 104))]
@[go_sem] def b03 : List AO := [oo 3 (.asg (.n 1))]
@[go_sem] def b06 : List AO := [oo 4 (.asg (.n 0))]
@[go_sem] def b0y : List AO := [om 9 4,
 oo 10 (.faddr 26 0 (.t 1) 0),
 oo 11 (.load 24 none (.t 10)),
 oo 12 (.len 24 false (.t 11)),
 oo 13 (.bin .lss 3 0 (.t 9) (.t 12) 3)]
@[go_sem] def b09 : List AO := [oo 16 (.faddr 26 0 (.t 1) 0),
 oo 17 (.load 24 none (.t 16)),
 om 18 4,
 oo 19 (.iaddr 24 1 (.t 17) (.t 18)),
 oo 20 (.load 3 none (.t 19)),
 oo 21 (.bin .lss 3 0 (.t 20) (.n 1) 3),
 om 22 21,
 og 23 (.faddr 26 0 (.t 1) 0) 6 22 false,
 og 24 (.load 24 none (.t 23)) 6 22 false,
 og 25 (.mv (.t 4)) 6 22 false,
 og 26 (.iaddr 24 1 (.t 24) (.t 25)) 6 22 false,
 og 27 (.load 3 none (.t 26)) 6 22 false,
 og 28 (.bin .gtr 3 0 (.t 27) (.n 256) 3) 6 22 false,
 oo 29 (.pick (.t 22) (.c (.bool true)) (.t 28))]
@[go_sem] def b02 : List AO := [oo 2 (.asg (.n 102))]
@[go_sem] def b05 : List AO := [om 30 3,
 oo 31 (.faddr 26 0 (.t 1) 0),
 oo 32 (.load 24 none (.t 31)),
 om 33 4,
 oo 34 (.iaddr 24 1 (.t 32) (.t 33)),
 oo 35 (.load 3 none (.t 34)),
 oo 36 (.bin .mul 3 0 (.t 30) (.t 35) 3),
 oo 3 (.asg (.t 36))]
@[go_sem] def b1a : List AO := [om 14 4,
 oo 15 (.bin .add 3 0 (.t 14) (.n 1) 3),
 oo 4 (.asg (.t 15))]
def a1d : IC := (.seq (.seq (.reg b0y) (.cond (.t 13) .skip (.exit 0))) (.seq (.block 1 (.seq (.seq (.reg b09) (.cond (.t 29) (.seq (.reg b02) .ret) .skip)) (.reg b05))) (.reg b1a)))
@[go_sem] def b0i : List AO := [om 37 3,
 oo 38 (.bin .gtr 3 0 (.t 37) (.n 16384) 3)]
@[go_sem] def a98 : List AO := [oo 2 (.asg (.n 104))]
@[go_sem] def b0m : List AO := [oo 2 (.asg (.n 0))]
def a3d : IC := (.seq (.reg b00) (.seq (.seq (.reg b0w) (.cond (.t 8) (.seq (.reg b08) .ret) .skip)) (.seq (.reg b03) (.seq (.seq (.reg b06) (.block 0 (.loop a1d))) (.seq (.seq (.reg b0i) (.cond (.t 38) (.seq (.reg a98) .ret) .skip)) (.seq (.reg b0m) .ret))))))
abbrev b1g : Nat := 55
theorem a9r : fnC pg 55 39 [(.tmp 2)] a3d := a0x Go.Proofs.Tryd.f55 [(.tmp 2)] (by kernel_rfl)
@[go_sem] theorem d3v : fnB pg 55 = true := by kernel_rfl
@[go_sem] def b6d : List AO := [oo 2 (.asg (.n 0))]
@[go_sem] def b5t : List AO := [om 5 0,
 oo 6 (.build 26 [.own 1 0 [], .lit (.bool false)] [(0, 0, 1, (.t 5))]),
 oc 7 55 [(false, (.t 6))] [26],
 oo 8 (.bin .neq 3 0 (.t 7) (.n 0) 3)]
@[go_sem] def b5c : List AO := [oo 2 (.asg (.n 0))]
@[go_sem] def b6o : List AO := [oo 3 (.asg (.n 1))]
@[go_sem] def b54 : List AO := [oo 4 (.asg (.n 0))]
@[go_sem] def b5g : List AO := [om 9 4,
 om 10 0,
 oo 11 (.len 24 false (.t 10)),
 oo 12 (.bin .lss 3 0 (.t 9) (.t 11) 3)]
@[go_sem] def b4p : List AO := [om 15 3,
 om 16 0,
 om 17 4,
 oo 18 (.iaddr 24 1 (.t 16) (.t 17)),
 oo 19 (.load 3 none (.t 18)),
 oo 20 (.bin .mul 3 0 (.t 15) (.t 19) 3),
 oo 3 (.asg (.t 20))]
@[go_sem] def b5p : List AO := [om 13 4,
 oo 14 (.bin .add 3 0 (.t 13) (.n 1) 3),
 oo 4 (.asg (.t 14))]
def a4c : IC := (.seq (.seq (.reg b5g) (.cond (.t 12) .skip (.exit 0))) (.seq (.block 1 (.reg b4p)) (.reg b5p)))
@[go_sem] def b5j : List AO := [om 21 3,
 oo 2 (.asg (.t 21))]
def a9y : IC := (.seq (.reg b6d) (.seq (.seq (.reg b5t) (.cond (.t 8) (.seq (.reg b5c) .ret) .skip)) (.seq (.reg b6o) (.seq (.seq (.reg b54) (.block 0 (.loop a4c))) (.seq (.reg b5j) .ret)))))
abbrev b7f : Nat := 32
theorem b2o : fnC pg 32 22 [(.tmp 2)] a9y := a0x Go.Proofs.Tryd.f32 [(.tmp 2)] (by kernel_rfl)
@[go_sem] theorem d7m : fnB pg 32 = true := by kernel_rfl
end Go.Ideal.Tryd
end
section
set_option linter.unusedVariables false
set_option linter.unusedSimpArgs false
set_option maxRecDepth 10000
namespace Go.Ideal.Tryd
section
variable {G : GG} {Q : Exit → St → Prop} {st : St}
end
end Go.Ideal.Tryd
end
section
set_option linter.unusedVariables false
set_option linter.unusedSimpArgs false
set_option maxRecDepth 10000
namespace Go.Ideal.Tryd
def a26 (k : Int) : Bool := decide (1 ≤ k ∧ k ≤ 256)
def a3t : List Int → Int → Int
  | [], n => n
  | k :: ks, n => a3t ks (n * k)
def a03 (sh : List Int) : Er := if 4 < sh.length then .s 2 else if sh.all a26 = true then (if 16384 < a3t sh 1 then .s 2 else .nil) else .s 3
def c9w (sh : List Int) : Bool := decide (sh.length ≤ 4) && sh.all a26 && decide (a3t sh 1 ≤ 16384)
def a23 (sh : List Int) : Int := if c9w sh = true then a3t sh 1 else 0
theorem b5r : ∀ {ks : List Int} {n : Int}, ks.all a26 = true → 0 ≤ n → n ≤ a3t ks n
  | [], n, _, _ => Int.le_refl _
  | k :: ks, n, h, hn => by
    simp only [List.all_cons, Bool.and_eq_true] at h
    obtain ⟨ha, hb⟩ := h
    simp only [a26, decide_eq_true_eq] at ha
    have h1 : n * 1 ≤ n * k := Int.mul_le_mul_of_nonneg_left ha.1 hn
    exact Int.le_trans (b := n * k) (by omega) (b5r (ks := ks) (n := n * k) hb (by omega))
theorem b0c {sh : List Int} : a03 sh = .nil ↔ c9w sh = true := by
  unfold a03 c9w
  by_cases h1 : 4 < sh.length
  · have : ¬ sh.length ≤ 4 := by omega
    simp [h1, this]
  · have h1' : sh.length ≤ 4 := by omega
    by_cases h2 : sh.all a26 = true
    · by_cases h3 : 16384 < a3t sh 1
      · have : ¬ a3t sh 1 ≤ 16384 := by omega
        simp [h1, h2, h3, this]
      · have : a3t sh 1 ≤ 16384 := by omega
        simp [h1, h1', h2, h3, this]
    · simp [h1, h2]
theorem a57 (sh : List Int) : a03 sh = .nil ∨ a03 sh = .s 2 ∨ a03 sh = .s 3 := by
  unfold a03
  split
  · simp
  · split
    · split <;> simp
    · simp
@[go_sem] theorem a0h {bk : Nat → Nat × Nat} (e : Er) : a0r (a0m bk e) = true := (e2o e).1
@[go_sem] theorem f3w {bk : Nat → Nat × Nat} (e : Er) : a0s (a0m bk e) = true := (e2o e).2
section
variable {G : GG} {bk : Nat → Nat × Nat} {Q : Exit → St → Prop} {st : St}
theorem e7o (hS : Sent3 G bk) {sh : List Int} {w : Bool} (hl : sh.length ≤ 4) (h : st.s 1 = .var [slI sh, lb w] ∧ st.s 14 = slI sh ∧ st.s 15 = li sh.length ∧ st.s 16 = li 0 ∧ st.s 3 = li 1)
    (hex : sh.all a26 = true → ∀ s, s.s 1 = .var [slI sh, lb w] ∧ s.s 3 = li 1 → Q (.exit 0) s) (hret : sh.all a26 = false → ∀ s, s.s 2 = sv bk 3 → Q .ret s) : AW pg G 42 (.loop a2w) Q st := by
  refine a1g Nat (fun i st => i ≤ sh.length ∧ (sh.drop i).all a26 = sh.all a26 ∧ st.s 1 = .var [slI sh, lb w] ∧ st.s 14 = slI sh ∧ st.s 15 = li sh.length ∧ st.s 16 = li i ∧ st.s 3 = li 1) (fun i => sh.length - i) 0 ⟨by simp, rfl, h⟩ ?_
  clear h
  rintro i st K ⟨hi, hm, h⟩ hK
  by_cases hlt : i < sh.length
  · rw [List.drop_eq_getElem_cons hlt, List.all_cons] at hm
    by_cases k1 : sh[i] < 1
    · have d : a26 sh[i] = false := by simp [a26]; omega
      rw [d] at hm
      simp (disch := omega) [go_sem, a2w, h, hlt, k1, hS.val]
      exact hret hm.symm _ (by simp (disch := omega) [go_sem])
    · by_cases k2 : 256 < sh[i]
      · have d : a26 sh[i] = false := by simp [a26]; omega
        rw [d] at hm
        simp (disch := omega) [go_sem, a2w, h, hlt, k1, k2, hS.val]
        exact hret hm.symm _ (by simp (disch := omega) [go_sem])
      · have d : a26 sh[i] = true := by simp [a26]; omega
        rw [d] at hm
        simp (disch := omega) [go_sem, a2w, h, hlt, k1, k2, hS.val]
        exact hK (i + 1) _ ⟨by omega, hm, by simp (disch := omega) [go_sem, h]⟩ (by omega)
  · obtain rfl : i = sh.length := by omega
    rw [List.drop_length] at hm
    simp (disch := omega) [go_sem, a2w, h]
    exact hex hm.symm _ (by simp (disch := omega) [go_sem, h])
theorem e60 (hS : Sent3 G bk) {sh : List Int} (hl : sh.length ≤ 4) (hd : sh.all a26 = true) (h : st.s 29 = slI sh ∧ st.s 30 = li sh.length ∧ st.s 31 = li 0 ∧ st.s 3 = li 1)
    (hex : a3t sh 1 ≤ 16384 → ∀ s, Q (.exit 2) s) (hret : 16384 < a3t sh 1 → ∀ s, s.s 2 = sv bk 2 → Q .ret s) : AW pg G 42 (.loop a3r) Q st := by
  refine a1g (Nat × Int) (fun p st => p.1 ≤ sh.length ∧ a3t (sh.drop p.1) p.2 = a3t sh 1 ∧ 1 ≤ p.2 ∧ p.2 ≤ 16384 ∧ (sh.drop p.1).all a26 = true ∧ st.s 29 = slI sh ∧ st.s 30 = li sh.length ∧ st.s 31 = li p.1 ∧ st.s 3 = li p.2) (fun p => sh.length - p.1) (0, 1) ⟨by simp, rfl, by simp, by simp, by simpa using hd, h⟩ ?_
  clear h
  rintro ⟨i, n⟩ st K ⟨hi, hm, hn1, hn2, ha, h⟩ hK
  simp only at hi hm hn1 hn2 ha h
  by_cases hlt : i < sh.length
  · rw [List.drop_eq_getElem_cons hlt] at hm ha
    simp only [List.all_cons, Bool.and_eq_true] at ha
    have hd1 := ha.1
    simp only [a26, decide_eq_true_eq] at hd1
    simp only [a3t] at hm
    have b1 : n * 1 ≤ n * sh[i] := Int.mul_le_mul_of_nonneg_left hd1.1 (by omega)
    have b2 : n * sh[i] ≤ 16384 * 256 := Int.mul_le_mul hn2 hd1.2 (by omega) (by omega)
    by_cases k : 16384 < n * sh[i]
    · have g := b5r ha.2 (show 0 ≤ n * sh[i] by omega)
      simp (disch := omega) [go_sem, a3r, h, hlt, k, hS.val]
      exact hret (by omega) _ (by simp (disch := omega) [go_sem])
    · simp (disch := omega) [go_sem, a3r, h, hlt, k, hS.val]
      exact hK (i + 1, n * sh[i]) _ ⟨by simp only; omega, hm, by simp only; omega, by simp only; omega, ha.2, by simp (disch := omega) [go_sem, h]⟩ (by simp only; omega)
  · obtain rfl : i = sh.length := by omega
    rw [List.drop_length, a3t] at hm
    simp (disch := omega) [go_sem, a3r, h]
    exact hex (by omega) _
theorem a04 (hS : Sent3 G bk) (sh : List Int) (w : Bool) (hlen : sh.length < 2 ^ 62) : ACalls pg G d2k [.agg [slI sh, lb w]] (a0m bk (a03 sh)) := by
  refine b82 rfl ?_
  by_cases h4 : 4 < sh.length
  · have h4' : (4 : Int) < sh.length := by omega
    simp (disch := omega) [go_sem, b0h, h4', a03, h4, hS.val, a0m]
  · have h4' : ¬ (4 : Int) < sh.length := by omega
    simp (disch := omega) [go_sem, b0h, h4', hS.val]
    refine e7o (sh := sh) (w := w) hS (by omega) (by simp (disch := omega) [go_sem]) (fun hd s h => ?_) (fun hd s h => by simp (disch := omega) [go_sem, h, a03, h4, hd, a0m])
    simp (disch := omega) [go_sem, h]
    refine e60 (sh := sh) hS (by omega) hd (by simp (disch := omega) [go_sem, h]) (fun hp s => ?_) (fun hp s h => by simp (disch := omega) [go_sem, h, a03, h4, hd, hp, a0m])
    have hp' : ¬ 16384 < a3t sh 1 := by omega
    simp (disch := omega) [go_sem, a03, h4, hd, hp', a0m]
theorem f02 (hS : Sent3 G bk) (sh : List Int) (hlen : sh.length < 2 ^ 62) : ACalls pg G d5h [slI sh] (lb (c9w sh)) := by
  refine c0t rfl ?_
  simp (disch := omega) [go_sem, b8g]
  have hv := a04 (G := G) hS sh false hlen
  rcases a57 sh with e | e | e <;> rw [e] at hv <;> simp only [a0m] at hv
  · refine a0d hv rfl rfl ?_
    simp (disch := omega) [go_sem, b0c.1 e]
  all_goals
    have n : c9w sh = false := by
      cases hh : c9w sh
      · rfl
      · rw [b0c.2 hh] at e; cases e
    refine a0d hv rfl rfl ?_
    simp (disch := omega) [go_sem, n]
theorem b56 (hS : Sent3 G bk) (sh : List Int) (hlen : sh.length < 2 ^ 62) : ACalls pg G c99 [slI sh] (li (a23 sh)) := by
  refine b9i rfl ?_
  simp (disch := omega) [go_sem, b43]
  refine a0d (f02 hS sh hlen) rfl rfl ?_
  cases hok : c9w sh with
  | false => simp (disch := omega) [go_sem, hok, a23]
  | true =>
    simp (disch := omega) [go_sem, hok, a23]
    simp only [c9w, Bool.and_eq_true, decide_eq_true_eq] at hok
    refine a1g (Nat × Int) (fun p st => p.1 ≤ sh.length ∧ a3t (sh.drop p.1) p.2 = a3t sh 1 ∧ 1 ≤ p.2 ∧ (sh.drop p.1).all a26 = true ∧ st.s 9 = slI sh ∧ st.s 10 = li sh.length ∧ st.s 11 = li p.1 ∧ st.s 3 = li p.2) (fun p => sh.length - p.1) (0, 1) ⟨by simp, rfl, by simp, by simpa using hok.1.2, by simp (disch := omega) [go_sem]⟩ ?_
    rintro ⟨i, n⟩ st K ⟨hi, hm, hn1, ha, h⟩ hK
    simp only at hi hm hn1 ha h
    by_cases hlt : i < sh.length
    · rw [List.drop_eq_getElem_cons hlt] at hm ha
      simp only [List.all_cons, Bool.and_eq_true] at ha
      have hd1 := ha.1
      simp only [a26, decide_eq_true_eq] at hd1
      simp only [a3t] at hm
      have b1 : n * 1 ≤ n * sh[i] := Int.mul_le_mul_of_nonneg_left hd1.1 (by omega)
      have g := b5r ha.2 (show 0 ≤ n * sh[i] by omega)
      simp (disch := omega) [go_sem, a8f, h, hlt]
      exact hK (i + 1, n * sh[i]) _ ⟨by simp only; omega, hm, by simp only; omega, ha.2, by simp (disch := omega) [go_sem, h]⟩ (by simp only; omega)
    · obtain rfl : i = sh.length := by omega
      rw [List.drop_length, a3t] at hm
      simp (disch := omega) [go_sem, a8f, h, hm]
def a05 (sh : List Int) (w : Bool) : Int := if w = true then 4 * a23 sh else a23 sh
theorem b2d (sh : List Int) : 0 ≤ a23 sh ∧ a23 sh ≤ 16384 := by
  unfold a23
  split
  · rename_i h
    simp only [c9w, Bool.and_eq_true, decide_eq_true_eq] at h
    have := b5r (n := 1) h.1.2 (by omega)
    omega
  · omega
theorem b9o (hS : Sent3 G bk) (sh : List Int) (w : Bool) (hlen : sh.length < 2 ^ 62) : ACalls pg G d1m [.agg [slI sh, lb w]] (li (a05 sh w)) := by
  refine b89 rfl ?_
  have hr := b2d sh
  cases w <;> simp (disch := omega) [go_sem, b5o] <;> refine a0d (b56 hS sh hlen) rfl rfl ?_ <;> simp (disch := omega) [go_sem, a05]
def e3r (n : Int) (w : Bool) : Bool := if w = true then decide (-2147483648 ≤ n ∧ n ≤ 2147483647) else decide (-128 ≤ n ∧ n ≤ 127)
theorem e99 (n : Int) (w : Bool) : ACalls pg G d62 [li n, lb w] (lb (e3r n w)) := by
  refine c8c rfl ?_
  cases w
  · by_cases h1 : -128 ≤ n <;> by_cases h2 : n ≤ 127 <;> simp (disch := omega) [go_sem, b3x, e3r, h1, h2]
  · by_cases h1 : -2147483648 ≤ n <;> by_cases h2 : n ≤ 2147483647 <;> simp (disch := omega) [go_sem, b3x, e3r, h1, h2]
def a5p (w : Bool) : List Int → Nat → Option Nat
  | [], _ => none
  | n :: ns, i => if e3r n w = true then a5p w ns (i + 1) else some i
def e40 : Option Nat → Er
  | none => .nil
  | some i => .at i (.s 3)
def b7c (sh : List Int) (w : Bool) (data : List Int) : Er := if c9w sh = true then (if (data.length : Int) = a23 sh then e40 (a5p w data 0) else .s 6) else a03 sh
abbrev h4q (sh : List Int) (w : Bool) (data : List Int) : AV := .agg [slI sh, lb w, slI data]
theorem e2y (hS : Sent3 G bk) {sh : List Int} {w : Bool} {data : List Int} (hl : data.length < 2 ^ 62) (h : st.s 1 = .var [slI sh, lb w, slI data] ∧ st.s 22 = slI data ∧ st.s 23 = li data.length ∧ st.s 24 = li 0)
    (hex : a5p w data 0 = none → ∀ s, Q (.exit 0) s) (hret : ∀ i, a5p w data 0 = some i → ∀ s, s.s 2 = a0m bk (.at i (.s 3)) → Q .ret s) : AW pg G 41 (.loop a5q) Q st := by
  refine a1g Nat (fun i st => i ≤ data.length ∧ a5p w (data.drop i) i = a5p w data 0 ∧ st.s 1 = .var [slI sh, lb w, slI data] ∧ st.s 22 = slI data ∧ st.s 23 = li data.length ∧ st.s 24 = li i) (fun i => data.length - i) 0 ⟨by simp, rfl, h⟩ ?_
  clear h
  rintro i st K ⟨hi, hm, h⟩ hK
  by_cases hlt : i < data.length
  · rw [List.drop_eq_getElem_cons hlt, a5p] at hm
    simp (disch := omega) [go_sem, a5q, h, hlt]
    refine a0d (e99 data[i] w) rfl rfl ?_
    cases hf : e3r data[i] w with
    | true =>
      rw [if_pos hf] at hm
      simp (disch := omega) [go_sem, h, hf]
      exact hK (i + 1) _ ⟨by omega, hm, by simp (disch := omega) [go_sem, h]⟩ (by omega)
    | false =>
      rw [if_neg (by simp [hf])] at hm
      simp (disch := omega) [go_sem, h, hf, hS.val]
      exact hret i hm.symm _ (by simp (disch := omega) [go_sem, a0m])
  · obtain rfl : i = data.length := by omega
    rw [List.drop_length, a5p] at hm
    simp (disch := omega) [go_sem, a5q, h]
    exact hex hm.symm _
theorem e2c (hS : Sent3 G bk) (sh : List Int) (w : Bool) (data : List Int) (hlen : sh.length < 2 ^ 62) (hl : data.length < 2 ^ 62) : ACalls pg G d5k [h4q sh w data] (a0m bk (b7c sh w data)) := by
  refine c37 rfl ?_
  simp (disch := omega) [go_sem, b8c]
  have hv := a04 (G := G) hS sh w hlen
  rcases a57 sh with e | e | e
  · have ok := b0c.1 e
    rw [e] at hv
    simp only [a0m] at hv
    refine a0d hv rfl rfl ?_
    simp (disch := omega) [go_sem]
    refine a0b ?_
    simp (disch := omega) [go_sem]
    refine a0p (b56 hS sh hlen) rfl rfl (by simp) [18] (by simp) (by simp (disch := omega) [go_sem]) ?_
    simp (disch := omega) [go_sem]
    refine a0c (by decide) fun s2 hs he => ?_
    by_cases hn : (data.length : Int) = a23 sh
    · simp (disch := omega) [go_sem, hs, hn]
      refine e2y (sh := sh) (w := w) (data := data) hS hl (by simp (disch := omega) [go_sem, hs, hn]) (fun hf s => ?_) (fun i hf s h => ?_)
      · simp (disch := omega) [go_sem, b7c, ok, hn, hf, e40, a0m]
      · simp (disch := omega) [go_sem, b7c, ok, hn, hf, e40, h]
    · simp (disch := omega) [go_sem, hs, hn, hS.val, b7c, ok, a0m]
  all_goals
    have ok : c9w sh = false := by
      cases hh : c9w sh
      · rfl
      · rw [b0c.2 hh] at e; cases e
    rw [e] at hv
    simp only [a0m] at hv
    refine a0d hv rfl rfl ?_
    simp (disch := omega) [go_sem, b7c, ok, e, a0m]
end
end Go.Ideal.Tryd
end
section
set_option linter.unusedVariables false
set_option linter.unusedSimpArgs false
set_option maxRecDepth 10000
namespace Go.Ideal.Tryd
@[go_sem] theorem f6n (xs : List Int) : a07 (xs.map lu) = true := b7w fun x => by simp only [a0z]
@[go_sem] theorem f8a (xs : List Int) : a0u (xs.map lu) = true := b7a fun x => by simp only [a0s]
@[go_sem] theorem g2g {α : Type} {f : α → AV} {xs : List α} {a : AV} : List.take (xs.length + 1) (xs.map f ++ [a]) = xs.map f ++ [a] := List.take_of_length_le (by simp)
@[go_sem] theorem f8m {α : Type} {f : α → AV} {xs : List α} {a b : AV} : List.take (xs.length + 2) (xs.map f ++ [a, b]) = xs.map f ++ [a, b] := List.take_of_length_le (by simp)
section
variable {G : GG} {bk : Nat → Nat × Nat} {Q : Exit → St → Prop} {st : St}
def b4g (sh : List Int) : Int := (a03 sh).flt.1
theorem e7h (sh : List Int) (w : Bool) (hlen : sh.length < 2 ^ 62) : ACalls pg G b1g [.agg [slI sh, lb w]] (li (b4g sh)) := by
  refine a9r rfl ?_
  have c2 : (Er.s 2).flt.1 = 104 := by decide
  have c3 : (Er.s 3).flt.1 = 102 := by decide
  have c0 : Er.nil.flt.1 = 0 := rfl
  by_cases h4 : 4 < sh.length
  · have h4' : (4 : Int) < sh.length := by omega
    simp (disch := omega) [go_sem, a3d, h4', b4g, a03, h4, c2]
  · have h4' : ¬ (4 : Int) < sh.length := by omega
    simp (disch := omega) [go_sem, a3d, h4']
    refine a1g (Nat × Int) (fun p st => p.1 ≤ sh.length ∧ (sh.drop p.1).all a26 = sh.all a26 ∧ a3t (sh.drop p.1) p.2 = a3t sh 1 ∧ 1 ≤ p.2 ∧ p.2 ≤ 256 ^ p.1 ∧ st.s 1 = .var [slI sh, lb w] ∧ st.s 3 = li p.2 ∧ st.s 4 = li p.1) (fun p => sh.length - p.1) (0, 1) ⟨by simp, rfl, rfl, by simp, by simp, by simp (disch := omega) [go_sem]⟩ ?_
    rintro ⟨i, n⟩ st K ⟨hi, ha, hm, hn1, hn2, h⟩ hK
    simp only at hi ha hm hn1 hn2 h
    by_cases hlt : i < sh.length
    · rw [List.drop_eq_getElem_cons hlt] at hm ha
      rw [List.all_cons] at ha
      simp only [a3t] at hm
      by_cases k1 : sh[i] < 1
      · have d : a26 sh[i] = false := by simp [a26]; omega
        rw [d] at ha
        have ha' : sh.all a26 = false := ha.symm
        simp (disch := omega) [go_sem, a1d, h, hlt, k1, b4g, a03, h4, ha', c3]
      · by_cases k2 : 256 < sh[i]
        · have d : a26 sh[i] = false := by simp [a26]; omega
          rw [d] at ha
          have ha' : sh.all a26 = false := ha.symm
          simp (disch := omega) [go_sem, a1d, h, hlt, k1, k2, b4g, a03, h4, ha', c3]
        · have d : a26 sh[i] = true := by simp [a26]; omega
          rw [d] at ha
          have b1 : n * 1 ≤ n * sh[i] := Int.mul_le_mul_of_nonneg_left (by omega) (by omega)
          have b2 : n * sh[i] ≤ 256 ^ i * 256 := Int.mul_le_mul hn2 (by omega) (by omega) (by omega)
          have b3 : (256 : Int) ^ i * 256 ≤ 4294967296 := by
            have : i = 0 ∨ i = 1 ∨ i = 2 ∨ i = 3 := by omega
            rcases this with rfl | rfl | rfl | rfl <;> decide
          simp (disch := omega) [go_sem, a1d, h, hlt, k1, k2]
          exact hK (i + 1, n * sh[i]) _ ⟨by simp only; omega, ha, hm, by simp only; omega, by simp only; rw [Int.pow_succ]; exact b2, by simp (disch := omega) [go_sem, h]⟩ (by simp only; omega)
    · obtain rfl : i = sh.length := by omega
      rw [List.drop_length] at hm ha
      rw [a3t] at hm
      have ha' : sh.all a26 = true := ha.symm
      subst hm
      by_cases k : 16384 < a3t sh 1
      · simp (disch := omega) [go_sem, a1d, h, k, b4g, a03, h4, ha', c2]
      · simp (disch := omega) [go_sem, a1d, h, k, b4g, a03, h4, ha', c0]
theorem d5m {sh : List Int} : b4g sh = 0 ↔ c9w sh = true := by
  rw [← b0c]
  unfold b4g
  rcases a57 sh with e | e | e <;> rw [e]
  · simp [Er.flt]
  · exact ⟨fun h => absurd h (by decide), fun h => by cases h⟩
  · exact ⟨fun h => absurd h (by decide), fun h => by cases h⟩
theorem e43 (sh : List Int) (hlen : sh.length < 2 ^ 62) : ACalls pg G b7f [slI sh] (li (a23 sh)) := by
  refine b2o rfl ?_
  simp (disch := omega) [go_sem, a9y]
  refine a0d (e7h sh false hlen) rfl rfl ?_
  by_cases hok : c9w sh = true
  · have hc := d5m.2 hok
    simp (disch := omega) [go_sem, hc]
    have hok0 := hok
    simp only [c9w, Bool.and_eq_true, decide_eq_true_eq] at hok
    refine a1g (Nat × Int) (fun p st => p.1 ≤ sh.length ∧ a3t (sh.drop p.1) p.2 = a3t sh 1 ∧ 1 ≤ p.2 ∧ (sh.drop p.1).all a26 = true ∧ st.s 0 = slI sh ∧ st.s 3 = li p.2 ∧ st.s 4 = li p.1) (fun p => sh.length - p.1) (0, 1) ⟨by simp, rfl, by simp, by simpa using hok.1.2, by simp (disch := omega) [go_sem]⟩ ?_
    rintro ⟨i, n⟩ st K ⟨hi, hm, hn1, ha, h⟩ hK
    simp only at hi hm hn1 ha h
    by_cases hlt : i < sh.length
    · rw [List.drop_eq_getElem_cons hlt] at hm ha
      simp only [List.all_cons, Bool.and_eq_true] at ha
      have hd1 := ha.1
      simp only [a26, decide_eq_true_eq] at hd1
      simp only [a3t] at hm
      have b1 : n * 1 ≤ n * sh[i] := Int.mul_le_mul_of_nonneg_left hd1.1 (by omega)
      have g := b5r ha.2 (show 0 ≤ n * sh[i] by omega)
      simp (disch := omega) [go_sem, a4c, h, hlt]
      exact hK (i + 1, n * sh[i]) _ ⟨by simp only; omega, hm, by simp only; omega, ha.2, by simp (disch := omega) [go_sem, h]⟩ (by simp only; omega)
    · obtain rfl : i = sh.length := by omega
      rw [List.drop_length, a3t] at hm
      simp (disch := omega) [go_sem, a4c, h, hm, a23, hok0]
  · have hc : ¬ b4g sh = 0 := fun hc => hok (d5m.1 hc)
    simp (disch := omega) [go_sem, hc, a23, hok]
end
end Go.Ideal.Tryd
end
section
set_option linter.unusedVariables false
set_option linter.unusedSimpArgs false
set_option maxRecDepth 10000
namespace Go.Ideal.Tryd
structure Gr where
  nodes : List Nd
  out : Int
def f1j (n : Nd) : List AV := [li n.op, owI n.ins, owI n.args, owI n.shape, lb n.wide, owI n.data]
@[go_sem] theorem g7l {xs : List Nd} : (fm f1j xs).length = xs.length * 6 := a9k fun _ => rfl
@[go_sem] theorem f7r {xs : List Nd} : (fm f1j xs).take (xs.length * 6) = fm f1j xs := a5e fun _ => rfl
@[go_sem] theorem g5q {xs : List Nd} : a1v (fm f1j xs) = fm c9h xs := by
  rw [b1k]
  congr 1
  funext n
  simp [f1j, c9h, go_sem]
@[go_sem] theorem f2z {xs : List Nd} : a07 (fm f1j xs) = true := b5u fun n => by simp [f1j, go_sem]
theorem e5h (xs : List Int) : a0z (owI xs) = true := by simp only [a0z]; exact a2u xs
section
variable {G : GG} {bk : Nat → Nat × Nat} {Q : Exit → St → Prop} {st : St}
theorem d8l (sh : List Int) (w : Bool) (hlen : sh.length < 2 ^ 62) : ACalls pg G b7j [.agg [slI sh, lb w]] (lb (decide (sh.length ≤ 8))) := by
  refine b2v rfl ?_
  by_cases h : sh.length ≤ 8
  · have h' : (sh.length : Int) ≤ 8 := by omega
    simp (disch := omega) [go_sem, a4n, h, h']
  · have h' : ¬ (sh.length : Int) ≤ 8 := by omega
    simp (disch := omega) [go_sem, a4n, h, h']
theorem f1f (sh : List Int) (w : Bool) (data : List Int) (m : Nat) (hlen : sh.length < 2 ^ 62) : ACalls pg G b3k [h4q sh w data, li m] (lb (decide (sh.length ≤ 8) && decide (data.length ≤ m))) := by
  refine b01 rfl ?_
  simp (disch := omega) [go_sem, a5y]
  refine a0d (d8l sh w hlen) rfl rfl ?_
  by_cases h : sh.length ≤ 8
  · by_cases h2 : data.length ≤ m
    · have h2' : (data.length : Int) ≤ m := by omega
      simp (disch := omega) [go_sem, h, h2, h2']
    · have h2' : ¬ (data.length : Int) ≤ m := by omega
      simp (disch := omega) [go_sem, h, h2, h2']
  · simp (disch := omega) [go_sem, h]
structure Nd.fin (n : Nd) : Prop where
  ins : n.ins.length < 2 ^ 62
  args : n.args.length < 2 ^ 62
  shape : n.shape.length < 2 ^ 62
  data : n.data.length < 2 ^ 62
structure Nd.sh (n : Nd) : Prop where
  ins : n.ins.length < 2 ^ 36
  args : n.args.length < 2 ^ 36
  shape : n.shape.length < 2 ^ 36
  data : n.data.length < 2 ^ 36
end
end Go.Ideal.Tryd
end
section
set_option linter.unusedVariables false
set_option linter.unusedSimpArgs false
set_option maxRecDepth 10000
namespace Go.Ideal.Tryd
section
variable {G : GG} {bk : Nat → Nat × Nat} {Q : Exit → St → Prop} {st : St}
theorem d7d (sh : List Int) (w : Bool) (data : List Int) : b7c sh w data = .nil ∨ (∃ g, g < 21 ∧ b7c sh w data = .s g) ∨ ∃ p g, g < 21 ∧ b7c sh w data = .at p (.s g) := by
  unfold b7c
  split
  · split
    · cases a5p w data 0 with
      | none => exact .inl rfl
      | some i => exact .inr (.inr ⟨i, 3, by decide, rfl⟩)
    · exact .inr (.inl ⟨6, by decide, rfl⟩)
  · rcases a57 sh with e | e | e <;> rw [e]
    · exact .inl rfl
    · exact .inr (.inl ⟨2, by decide, rfl⟩)
    · exact .inr (.inl ⟨3, by decide, rfl⟩)
end
end Go.Ideal.Tryd
end
section
set_option linter.unusedVariables false
set_option linter.unusedSimpArgs false
set_option maxRecDepth 10000
namespace Go.Ideal.Tryd
structure Nd.good (n : Nd) : Prop where
  ins : n.ins.length ≤ 8
  args : n.args.length ≤ 8
  tens : n.op = 2 → b7c n.shape n.wide n.data = .nil
section
variable {G : GG} {bk : Nat → Nat × Nat} {Q : Exit → St → Prop} {st : St}
end
end Go.Ideal.Tryd
end
section
set_option linter.unusedVariables false
set_option linter.unusedSimpArgs false
set_option maxRecDepth 10000
namespace Go.Ideal
theorem d7w {α : Type} {f : α → List AV} {k : Nat} {xs : List α} (hf : ∀ x, (f x).length = k) {i j : Nat} (h : i < xs.length) (hj : j < k) : (fm f xs)[i * k + j]? = (f xs[i])[j]? := by
  have h1 := c3w (f := f) (k := k) hf h
  rw [← h1, List.getElem?_take, if_pos hj, List.getElem?_drop]
theorem e8z {α : Type} {f : α → List AV} {k : Nat} {xs : List α} (hf : ∀ x, (f x).length = k) {i j m : Nat} (h : i < xs.length) (hj : j + m ≤ k) : ((fm f xs).drop (i * k + j)).take m = ((f xs[i]).drop j).take m := by
  have h1 := c3w (f := f) (k := k) hf h
  rw [← h1, List.drop_take, List.take_take, List.drop_drop, Nat.min_eq_left (by omega)]
namespace Tryd
section
variable {xs : List Nd} {i : Nat}
@[go_sem] theorem h6z (h : i < xs.length) : (fm c9h xs)[i * 6]? = some (li xs[i].op) := d7w (f := c9h) (k := 6) (j := 0) (fun _ => rfl) h (by omega)
@[go_sem] theorem h40 (h : i < xs.length) : (fm c9h xs)[i * 6 + 1]? = some (slI xs[i].ins) := d7w (f := c9h) (k := 6) (fun _ => rfl) h (by omega)
@[go_sem] theorem h7z (h : i < xs.length) : (fm c9h xs)[i * 6 + 2]? = some (slI xs[i].args) := d7w (f := c9h) (k := 6) (fun _ => rfl) h (by omega)
@[go_sem] theorem h56 (h : i < xs.length) : ((fm c9h xs).drop (i * 6 + 3)).take 3 = [slI xs[i].shape, lb xs[i].wide, slI xs[i].data] := e8z (f := c9h) (k := 6) (fun _ => rfl) h (by omega)
end
section
variable {G : GG} {bk : Nat → Nat × Nat} {Q : Exit → St → Prop} {st : St}
end
end Tryd
end Go.Ideal
end
section
set_option linter.unusedVariables false
set_option linter.unusedSimpArgs false
set_option maxRecDepth 10000
namespace Go.Ideal.Tryd
def Er.isNil : Er → Bool
  | .nil => true
  | _ => false
section
variable {G : GG} {bk : Nat → Nat × Nat} {Q : Exit → St → Prop} {st : St}
end
end Go.Ideal.Tryd
end
section
set_option linter.unusedVariables false
set_option linter.unusedSimpArgs false
set_option maxRecDepth 10000
namespace Go.Ideal.Tryd
section
variable {G : GG} {bk : Nat → Nat × Nat} {Q : Exit → St → Prop} {st : St}
end
end Go.Ideal.Tryd
end
section
set_option linter.unusedSimpArgs false
set_option linter.unusedVariables false
set_option maxRecDepth 10000
namespace Go.Ideal.Tryd
@[go_sem] def b6b : List AO := [oo 1 (.box 37 7 (.t 0)),
 oo 2 (.asg (.c (.bool false)))]
@[go_sem] def b6n : List AO := [oo 6 (.faddr 37 1 (.t 1) 1),
 oo 7 (.load 32 none (.t 6)),
 oo 8 (.len 32 false (.t 7)),
 oo 9 (.bin .gtr 3 0 (.t 8) (.n 140) 3),
 om 10 9,
 og 11 (.faddr 37 3 (.t 1) 3) 4 10 false,
 og 12 (.load 34 none (.t 11)) 4 10 false,
 og 13 (.len 34 false (.t 12)) 4 10 false,
 og 14 (.bin .gtr 3 0 (.t 13) (.n 10) 3) 4 10 false,
 oo 15 (.pick (.t 10) (.c (.bool true)) (.t 14)),
 om 16 15,
 og 17 (.faddr 37 4 (.t 1) 4) 10 16 false,
 og 18 (.load 35 none (.t 17)) 10 16 false,
 og 19 (.len 35 false (.t 18)) 10 16 false,
 og 20 (.bin .gtr 3 0 (.t 19) (.n 300) 3) 10 16 false,
 oo 21 (.pick (.t 16) (.c (.bool true)) (.t 20)),
 om 22 21,
 og 23 (.faddr 37 2 (.t 1) 2) 16 22 false,
 og 24 (.load 33 none (.t 23)) 16 22 false,
 ⟨(some 25), .call 41 [(false, (.t 24)), (false, (.n 70)), (false, (.n 300))] [33, 3, 3], (some (16, 22, false))⟩,
 og 26 (.un .not 4 (.t 25)) 16 22 false,
 oo 27 (.pick (.t 22) (.c (.bool true)) (.t 26))]
@[go_sem] def b5i : List AO := [oo 2 (.asg (.c (.bool false)))]
@[go_sem] def a7p : List AO := [oo 3 (.asg (.n 0))]
@[go_sem] def b6h : List AO := [om 28 3,
 oo 29 (.faddr 37 1 (.t 1) 1),
 oo 30 (.load 32 none (.t 29)),
 oo 31 (.len 32 false (.t 30)),
 oo 32 (.bin .lss 3 0 (.t 28) (.t 31) 3)]
@[go_sem] def b4h : List AO := [oo 35 (.faddr 37 1 (.t 1) 1),
 oo 36 (.load 32 none (.t 35)),
 om 37 3,
 oo 38 (.iaddr 32 3 (.t 36) (.t 37)),
 oo 39 (.faddr 28 1 (.t 38) 1),
 oo 40 (.load 26 (some 2) (.t 39)),
 oc 41 42 [(false, (.t 40))] [26],
 oo 42 (.un .not 4 (.t 41))]
@[go_sem] def b4k : List AO := [oo 2 (.asg (.c (.bool false)))]
@[go_sem] def b52 : List AO := [om 33 3,
 oo 34 (.bin .add 3 0 (.t 33) (.n 1) 3),
 oo 3 (.asg (.t 34))]
def a2g : IC := (.seq (.seq (.reg b6h) (.cond (.t 32) .skip (.exit 0))) (.seq (.block 1 (.seq (.reg b4h) (.cond (.t 42) (.seq (.reg b4k) .ret) .skip))) (.reg b52)))
@[go_sem] def a7x : List AO := [oo 4 (.asg (.n 0))]
@[go_sem] def b4j : List AO := [om 43 4,
 oo 44 (.faddr 37 3 (.t 1) 3),
 oo 45 (.load 34 none (.t 44)),
 oo 46 (.len 34 false (.t 45)),
 oo 47 (.bin .lss 3 0 (.t 43) (.t 46) 3)]
@[go_sem] def b32 : List AO := [oo 50 (.faddr 37 3 (.t 1) 3),
 oo 51 (.load 34 none (.t 50)),
 om 52 4,
 oo 53 (.iaddr 34 2 (.t 51) (.t 52)),
 oo 54 (.load 26 (some 2) (.t 53)),
 oc 55 42 [(false, (.t 54))] [26],
 oo 56 (.un .not 4 (.t 55))]
@[go_sem] def b3g : List AO := [oo 2 (.asg (.c (.bool false)))]
@[go_sem] def b3d : List AO := [om 48 4,
 oo 49 (.bin .add 3 0 (.t 48) (.n 1) 3),
 oo 4 (.asg (.t 49))]
def a2d : IC := (.seq (.seq (.reg b4j) (.cond (.t 47) .skip (.exit 2))) (.seq (.block 3 (.seq (.reg b32) (.cond (.t 56) (.seq (.reg b3g) .ret) .skip))) (.reg b3d)))
@[go_sem] def a53 : List AO := [oo 5 (.asg (.n 0))]
@[go_sem] def b3v : List AO := [om 57 5,
 oo 58 (.faddr 37 4 (.t 1) 4),
 oo 59 (.load 35 none (.t 58)),
 oo 60 (.len 35 false (.t 59)),
 oo 61 (.bin .lss 3 0 (.t 57) (.t 60) 3)]
@[go_sem] def b3m : List AO := [oo 64 (.faddr 37 4 (.t 1) 4),
 oo 65 (.load 35 none (.t 64)),
 om 66 5,
 oo 67 (.iaddr 35 6 (.t 65) (.t 66)),
 oo 68 (.faddr 40 2 (.t 67) 2),
 oo 69 (.load 24 none (.t 68)),
 oo 70 (.len 24 false (.t 69)),
 oo 71 (.bin .gtr 3 0 (.t 70) (.n 10) 3),
 om 72 71,
 og 73 (.faddr 37 4 (.t 1) 4) 8 72 false,
 og 74 (.load 35 none (.t 73)) 8 72 false,
 og 75 (.mv (.t 5)) 8 72 false,
 og 76 (.iaddr 35 6 (.t 74) (.t 75)) 8 72 false,
 og 77 (.faddr 40 3 (.t 76) 3) 8 72 false,
 og 78 (.load 24 none (.t 77)) 8 72 false,
 og 79 (.len 24 false (.t 78)) 8 72 false,
 og 80 (.bin .gtr 3 0 (.t 79) (.n 10) 3) 8 72 false,
 oo 81 (.pick (.t 72) (.c (.bool true)) (.t 80))]
@[go_sem] def b33 : List AO := [oo 2 (.asg (.c (.bool false)))]
@[go_sem] def b4b : List AO := [om 62 5,
 oo 63 (.bin .add 3 0 (.t 62) (.n 1) 3),
 oo 5 (.asg (.t 63))]
def a1j : IC := (.seq (.seq (.reg b3v) (.cond (.t 61) .skip (.exit 4))) (.seq (.block 5 (.seq (.reg b3m) (.cond (.t 81) (.seq (.reg b33) .ret) .skip))) (.reg b4b)))
@[go_sem] def a59 : List AO := [oo 2 (.asg (.c (.bool true)))]
def a14 : IC := (.seq (.reg b6b) (.seq (.seq (.reg b6n) (.cond (.t 27) (.seq (.reg b5i) .ret) .skip)) (.seq (.seq (.reg a7p) (.block 0 (.loop a2g))) (.seq (.seq (.reg a7x) (.block 2 (.loop a2d))) (.seq (.seq (.reg a53) (.block 4 (.loop a1j))) (.seq (.reg a59) .ret))))))
abbrev b6s : Nat := 20
theorem b2z : fnC pg 20 82 [(.tmp 2)] a14 := a0x Go.Proofs.Tryd.f20 [(.tmp 2)] (by kernel_rfl)
@[go_sem] theorem d8f : fnB pg 20 = true := by kernel_rfl
@[go_sem] def b1o : List AO := [oo 6 (.asg (.c (.bool false)))]
@[go_sem] def b15 : List AO := [om 8 0,
 oo 9 (.len 33 false (.t 8)),
 om 10 1,
 oo 11 (.bin .gtr 3 0 (.t 9) (.t 10) 3)]
@[go_sem] def b2b : List AO := [oo 6 (.asg (.c (.bool false)))]
@[go_sem] def b1n : List AO := [oo 7 (.asg (.n 0))]
@[go_sem] def b1r : List AO := [om 12 7,
 om 13 0,
 oo 14 (.len 33 false (.t 13)),
 oo 15 (.bin .lss 3 0 (.t 12) (.t 14) 3)]
@[go_sem] def b1v : List AO := [om 18 0,
 om 19 7,
 oo 20 (.iaddr 33 3 (.t 18) (.t 19)),
 oo 21 (.load 71 (some 3) (.t 20)),
 om 22 2,
 oc 23 45 [(false, (.t 21)), (false, (.t 22))] [71, 3],
 oo 24 (.un .not 4 (.t 23))]
@[go_sem] def b10 : List AO := [oo 6 (.asg (.c (.bool false)))]
@[go_sem] def b18 : List AO := [om 16 7,
 oo 17 (.bin .add 3 0 (.t 16) (.n 1) 3),
 oo 7 (.asg (.t 17))]
def a3b : IC := (.seq (.seq (.reg b1r) (.cond (.t 15) .skip (.exit 0))) (.seq (.block 1 (.seq (.reg b1v) (.cond (.t 24) (.seq (.reg b10) .ret) .skip))) (.reg b18)))
@[go_sem] def b1q : List AO := [oo 6 (.asg (.c (.bool true)))]
def a3l : IC := (.seq (.reg b1o) (.seq (.seq (.reg b15) (.cond (.t 11) (.seq (.reg b2b) .ret) .skip)) (.seq (.seq (.reg b1n) (.block 0 (.loop a3b))) (.seq (.reg b1q) .ret))))
abbrev b2l : Nat := 41
theorem a97 : fnC pg 41 25 [(.tmp 6)] a3l := a0x Go.Proofs.Tryd.f41 [(.tmp 6)] (by kernel_rfl)
@[go_sem] theorem d38 : fnB pg 41 = true := by kernel_rfl
@[go_sem] def c5a : List AO := [oo 1 (.box 26 2 (.t 0)),
 oo 2 (.alloc 26 [.own 1 0 [], .lit (.bool false)])]
@[go_sem] def c6b : List AO := [oo 3 (.faddr 26 0 (.t 1) 0),
 oo 4 (.load 24 none (.t 3)),
 oc 5 99 [(false, (.t 4))] [24],
 oo 6 (.faddr 26 1 (.t 1) 1),
 oo 7 (.load 4 none (.t 6)),
 oo 8 (.build 26 [.own 1 0 [], .lit (.bool false)] [(0, 0, 1, (.t 5)), (1, 1, 1, (.t 7))]),
 ov (.store 26 2 (.t 2) (.t 8))]
def b49 : IC := (.seq (.reg c5a) (.seq (.draw c6b [[], [0], [1], [], [3], [2, 4], [5, 2, 0, 1, 2, 3, 4, 5]]) .ret))
abbrev d15 : Nat := 71
theorem b8y : fnC pg 71 9 [(.cells 2 2)] b49 := a0x Go.Proofs.Tryd.f71 [(.cell 2 26)] (by kernel_rfl)
@[go_sem] theorem e41 : fnB pg 71 = true := by kernel_rfl
@[go_sem] def b4d : List AO := [oo 2 (.asg (.nl 1))]
@[go_sem] def b3p : List AO := [om 3 0,
 ⟨(some 4), .nilq 24 (.t 3) 24, none⟩]
@[go_sem] def b36 : List AO := [oo 2 (.asg (.nl 1))]
@[go_sem] def b35 : List AO := [oo 5 (.bslice 24 3 1 0 [.lit (.int .i64 0)] []),
 om 6 0,
 oo 7 (.app 24 3 1 8 (.t 5) (.t 6)),
 oo 2 (.asg (.t 7))]
def a7w : IC := (.seq (.reg b4d) (.seq (.seq (.reg b3p) (.cond (.t 4) (.seq (.reg b36) .ret) .skip)) (.seq (.reg b35) .ret)))
abbrev b4r : Nat := 99
theorem b1i : fnC pg 99 8 [(.tmp 2)] a7w := a0x Go.Proofs.Tryd.f99 [(.tmp 2)] (by kernel_rfl)
@[go_sem] theorem d6i : fnB pg 99 = true := by kernel_rfl
@[go_sem] def d3q : List AO := [oo 2 (.box 26 2 (.t 0)),
 oo 3 (.box 26 2 (.t 1)),
 oo 4 (.asg (.c (.bool false)))]
@[go_sem] def d3d : List AO := [oo 5 (.faddr 26 1 (.t 2) 1),
 oo 6 (.load 4 none (.t 5)),
 oo 7 (.faddr 26 1 (.t 3) 1),
 oo 8 (.load 4 none (.t 7)),
 oo 9 (.bin .eql 4 1 (.t 6) (.t 8) 4),
 om 10 9,
 og 11 (.faddr 26 0 (.t 2) 0) 5 10 true,
 og 12 (.load 24 none (.t 11)) 5 10 true,
 og 13 (.faddr 26 0 (.t 3) 0) 5 10 true,
 og 14 (.load 24 none (.t 13)) 5 10 true,
 ⟨(some 15), .call 107 [(false, (.t 12)), (false, (.t 14))] [24, 24], (some (5, 10, true))⟩,
 oo 16 (.pick (.t 10) (.t 15) (.c (.bool false))),
 oo 4 (.asg (.t 16))]
def b1d : IC := (.seq (.reg d3q) (.seq (.reg d3d) .ret))
abbrev d5p : Nat := 85
theorem b9z : fnC pg 85 17 [(.tmp 4)] b1d := a0x Go.Proofs.Tryd.f85 [(.tmp 4)] (by kernel_rfl)
@[go_sem] theorem e5v : fnB pg 85 = true := by kernel_rfl
@[go_sem] def b3w : List AO := [oo 4 (.asg (.c (.bool false)))]
@[go_sem] def b3a : List AO := [om 6 0,
 oo 7 (.len 24 false (.t 6)),
 om 8 1,
 oo 9 (.len 24 false (.t 8)),
 oo 10 (.bin .neq 3 0 (.t 7) (.t 9) 3)]
@[go_sem] def b3f : List AO := [oo 4 (.asg (.c (.bool false)))]
@[go_sem] def b3o : List AO := [om 11 0,
 oo 12 (.len 24 false (.t 11)),
 oo 13 (.mv (.n 0))]
@[go_sem] def b3s : List AO := [oo 14 (.bin .lss 3 0 (.t 13) (.t 12) 3)]
@[go_sem] def b4a : List AO := [om 15 13,
 oo 5 (.asg (.t 15))]
@[go_sem] def b3e : List AO := [om 16 0,
 om 17 5,
 oo 18 (.iaddr 24 1 (.t 16) (.t 17)),
 oo 19 (.load 3 none (.t 18)),
 om 20 1,
 om 21 5,
 oo 22 (.iaddr 24 1 (.t 20) (.t 21)),
 oo 23 (.load 3 none (.t 22)),
 oo 24 (.bin .neq 3 0 (.t 19) (.t 23) 3)]
@[go_sem] def b3i : List AO := [oo 4 (.asg (.c (.bool false)))]
@[go_sem] def b3j : List AO := [oo 25 (.bin .add 3 0 (.t 13) (.n 1) 3),
 om 13 25]
def a31 : IC := (.seq (.reg b3s) (.seq (.cond (.t 14) .skip (.exit 0)) (.seq (.block 1 (.seq (.reg b4a) (.seq (.draw b3e [[], [], [0, 1], [2], [], [], [4, 5], [6], [3, 7]]) (.cond (.t 24) (.seq (.reg b3i) .ret) .skip)))) (.reg b3j))))
@[go_sem] def b4e : List AO := [oo 4 (.asg (.c (.bool true)))]
def a4j : IC := (.seq (.reg b3w) (.seq (.seq (.reg b3a) (.cond (.t 10) (.seq (.reg b3f) .ret) .skip)) (.seq (.seq (.reg b3o) (.block 0 (.loop a31))) (.seq (.reg b4e) .ret))))
abbrev b4w : Nat := 107
theorem b11 : fnC pg 107 26 [(.tmp 4)] a4j := a0x Go.Proofs.Tryd.f107 [(.tmp 4)] (by kernel_rfl)
@[go_sem] theorem d6h : fnB pg 107 = true := by kernel_rfl
end Go.Ideal.Tryd
end
section
set_option linter.unusedVariables false
set_option linter.unusedSimpArgs false
set_option maxRecDepth 10000
namespace Go.Ideal.Tryd
structure Ds where
  shape : List Int
  wide : Bool
  deriving DecidableEq
structure Tn where
  shape : List Int
  wide : Bool
  data : List Int
  deriving DecidableEq
structure Vw where
  off : Int
  shape : List Int
  wide : Bool
  deriving DecidableEq
structure In where
  op : Int
  dst : Int
  ins : List Int
  args : List Int
  frm : Int
  to : Int
  deriving DecidableEq
structure Pl where
  size : Int
  views : List Vw
  consts : List Tn
  weights : List Ds
  code : List In
  input : Int
  output : Int
  deriving DecidableEq
def eD (d : Ds) : List AV := [slI d.shape, lb d.wide]
def eT (d : Tn) : List AV := [slI d.shape, lb d.wide, slI d.data]
def eV (d : Vw) : List AV := [li d.off, slI d.shape, lb d.wide]
def eI (d : In) : List AV := [li d.op, li d.dst, slI d.ins, slI d.args, li d.frm, li d.to]
def oD (d : Ds) : List AV := [owI d.shape, lb d.wide]
def oT (d : Tn) : List AV := [owI d.shape, lb d.wide, owI d.data]
def oV (d : Vw) : List AV := [li d.off, owI d.shape, lb d.wide]
def oI (d : In) : List AV := [li d.op, li d.dst, owI d.ins, owI d.args, li d.frm, li d.to]
@[go_sem] theorem h5s {xs : List Ds} : (fm eD xs).length = xs.length * 2 := a9k fun _ => rfl
@[go_sem] theorem h58 {xs : List Ds} {i : Nat} (h : i < xs.length) : ((fm eD xs).drop (i * 2)).take 2 = [slI xs[i].shape, lb xs[i].wide] := c3w (f := eD) (k := 2) (fun _ => rfl) h
@[go_sem] theorem h02 {xs : List Ds} : (fm eD xs).take (xs.length * 2) = fm eD xs := a5e fun _ => rfl
@[go_sem] theorem g4b {xs : List Ds} : a0u (fm eD xs) = true := b6g fun _ => rfl
@[go_sem] theorem h6n {xs : List Ds} : a1v (fm eD xs) = fm eD xs := by
  rw [b1k]; congr 1
@[go_sem] theorem h46 {xs : List Ds} : (fm oD xs).length = xs.length * 2 := a9k fun _ => rfl
@[go_sem] theorem g93 {xs : List Ds} : (fm oD xs).take (xs.length * 2) = fm oD xs := a5e fun _ => rfl
@[go_sem] theorem h4g {xs : List Ds} : a1v (fm oD xs) = fm eD xs := by
  rw [b1k]
  congr 1
  funext n
  simp [oD, eD, go_sem]
@[go_sem] theorem g36 {xs : List Ds} : a07 (fm oD xs) = true := b5u fun n => by simp [oD, go_sem]
@[go_sem] theorem h7t {xs : List Tn} : (fm eT xs).length = xs.length * 3 := a9k fun _ => rfl
@[go_sem] theorem h5g {xs : List Tn} {i : Nat} (h : i < xs.length) : ((fm eT xs).drop (i * 3)).take 3 = [slI xs[i].shape, lb xs[i].wide, slI xs[i].data] := c3w (f := eT) (k := 3) (fun _ => rfl) h
@[go_sem] theorem h09 {xs : List Tn} : (fm eT xs).take (xs.length * 3) = fm eT xs := a5e fun _ => rfl
@[go_sem] theorem g5j {xs : List Tn} : a0u (fm eT xs) = true := b6g fun _ => rfl
@[go_sem] theorem h7d {xs : List Tn} : a1v (fm eT xs) = fm eT xs := by
  rw [b1k]; congr 1
@[go_sem] theorem h7g {xs : List Tn} : (fm oT xs).length = xs.length * 3 := a9k fun _ => rfl
@[go_sem] theorem g8l {xs : List Tn} : (fm oT xs).take (xs.length * 3) = fm oT xs := a5e fun _ => rfl
@[go_sem] theorem h7f {xs : List Tn} : a1v (fm oT xs) = fm eT xs := by
  rw [b1k]
  congr 1
  funext n
  simp [oT, eT, go_sem]
@[go_sem] theorem g48 {xs : List Tn} : a07 (fm oT xs) = true := b5u fun n => by simp [oT, go_sem]
@[go_sem] theorem h7l {xs : List Vw} : (fm eV xs).length = xs.length * 3 := a9k fun _ => rfl
@[go_sem] theorem f8o {xs : List Vw} {i : Nat} (h : i < xs.length) : ((fm eV xs).drop (i * 3)).take 3 = [li xs[i].off, slI xs[i].shape, lb xs[i].wide] := c3w (f := eV) (k := 3) (fun _ => rfl) h
@[go_sem] theorem g97 {xs : List Vw} : (fm eV xs).take (xs.length * 3) = fm eV xs := a5e fun _ => rfl
@[go_sem] theorem g51 {xs : List Vw} : a0u (fm eV xs) = true := b6g fun _ => rfl
@[go_sem] theorem h5j {xs : List Vw} : a1v (fm eV xs) = fm eV xs := by
  rw [b1k]; congr 1
@[go_sem] theorem h41 {xs : List Vw} : (fm oV xs).length = xs.length * 3 := a9k fun _ => rfl
@[go_sem] theorem h0z {xs : List Vw} : (fm oV xs).take (xs.length * 3) = fm oV xs := a5e fun _ => rfl
@[go_sem] theorem h7x {xs : List Vw} : a1v (fm oV xs) = fm eV xs := by
  rw [b1k]
  congr 1
  funext n
  simp [oV, eV, go_sem]
@[go_sem] theorem g4h {xs : List Vw} : a07 (fm oV xs) = true := b5u fun n => by simp [oV, go_sem]
@[go_sem] theorem h5d {xs : List In} : (fm eI xs).length = xs.length * 6 := a9k fun _ => rfl
@[go_sem] theorem h4l {xs : List In} {i : Nat} (h : i < xs.length) : ((fm eI xs).drop (i * 6)).take 6 = [li xs[i].op, li xs[i].dst, slI xs[i].ins, slI xs[i].args, li xs[i].frm, li xs[i].to] := c3w (f := eI) (k := 6) (fun _ => rfl) h
@[go_sem] theorem h1x {xs : List In} : (fm eI xs).take (xs.length * 6) = fm eI xs := a5e fun _ => rfl
@[go_sem] theorem g6x {xs : List In} : a0u (fm eI xs) = true := b6g fun _ => rfl
@[go_sem] theorem g3a {xs : List In} : a1v (fm eI xs) = fm eI xs := by
  rw [b1k]; congr 1
@[go_sem] theorem h6t {xs : List In} : (fm oI xs).length = xs.length * 6 := a9k fun _ => rfl
@[go_sem] theorem h1t {xs : List In} : (fm oI xs).take (xs.length * 6) = fm oI xs := a5e fun _ => rfl
@[go_sem] theorem h4w {xs : List In} : a1v (fm oI xs) = fm eI xs := by
  rw [b1k]
  congr 1
  funext n
  simp [oI, eI, go_sem]
@[go_sem] theorem g61 {xs : List In} : a07 (fm oI xs) = true := b5u fun n => by simp [oI, go_sem]
abbrev slD (xs : List Ds) : AV := .sl xs.length (fm eD xs)
abbrev slT (xs : List Tn) : AV := .sl xs.length (fm eT xs)
abbrev slV (xs : List Vw) : AV := .sl xs.length (fm eV xs)
abbrev slJ (xs : List In) : AV := .sl xs.length (fm eI xs)
def eP (p : Pl) : List AV := [li p.size, slV p.views, slT p.consts, slD p.weights, slJ p.code, li p.input, li p.output]
section
variable {G : GG} {bk : Nat → Nat × Nat} {Q : Exit → St → Prop} {st : St}
theorem d7o (xs : List Int) (h : xs.length < 2 ^ 40) : ACalls pg G b4r [slI xs] (owI xs) := by
  refine b1i rfl ?_
  simp (disch := omega) [go_sem, a7w]
  refine h2e fun b hb => ?_
  cases b with
  | true =>
    have : xs = [] := by simpa using hb rfl
    subst this
    simp (disch := omega) [go_sem]
  | false => simp (disch := omega) [go_sem]
theorem a5o (sh : List Int) (w : Bool) (hlen : sh.length < 2 ^ 40) : ACalls pg G d15 [.agg [slI sh, lb w]] (.agg [owI sh, lb w]) := by
  refine b8y rfl ?_
  simp (disch := omega) [go_sem, b49]
  refine a0b ?_
  simp (disch := omega) [go_sem]
  refine a0p (d7o sh hlen) rfl (e5h _) (by simp) [5] (by simp) (by simp (disch := omega) [go_sem]) ?_
  simp (disch := omega) [go_sem]
  refine a0c (by decide) fun s2 hs he => ?_
  simp (disch := omega) [go_sem, hs]
end
end Go.Ideal.Tryd
end
section
set_option linter.unusedVariables false
set_option linter.unusedSimpArgs false
set_option maxRecDepth 10000
namespace Go.Ideal.Tryd
def eqP {α : Type} (p : α → α → Bool) : List α → List α → Bool
  | [], [] => true
  | x :: xs, y :: ys => p x y && eqP p xs ys
  | _, _ => false
theorem e8k {α : Type} [DecidableEq α] {p : α → α → Bool} : ∀ {a b : List α}, (∀ x ∈ a, ∀ y ∈ b, p x y = decide (x = y)) → eqP p a b = decide (a = b)
  | [], [], h => by simp [eqP]
  | [], _ :: _, _ => by simp [eqP]
  | _ :: _, [], _ => by simp [eqP]
  | x :: xs, y :: ys, h => by
    rw [eqP, h x (by simp) y (by simp), e8k fun a ha b hb => h a (by simp [ha]) b (by simp [hb])]
    by_cases h1 : x = y <;> by_cases h2 : xs = ys <;> simp [h1, h2]
theorem e6x {α : Type} {p : α → α → Bool} {a b : List α} {i : Nat} (h : i < a.length) (h2 : i < b.length) : eqP p (a.drop i) (b.drop i) = (p a[i] b[i] && eqP p (a.drop (i + 1)) (b.drop (i + 1))) := by
  rw [List.drop_eq_getElem_cons h, List.drop_eq_getElem_cons h2]; rfl
section
variable {G : GG} {bk : Nat → Nat × Nat} {Q : Exit → St → Prop} {st : St}
theorem e7w (a b : List Int) (ha : a.length < 2 ^ 62) (hb : b.length < 2 ^ 62) : ACalls pg G b4w [slI a, slI b] (lb (decide (a = b))) := by
  refine b11 rfl ?_
  by_cases hl : a.length = b.length
  · have hl' : (a.length : Int) = b.length := by omega
    simp (disch := omega) [go_sem, a4j, hl']
    refine a1g Nat (fun i st => i ≤ a.length ∧ eqP (fun x y => decide (x = y)) (a.drop i) (b.drop i) = decide (a = b) ∧ st.s 0 = slI a ∧ st.s 1 = slI b ∧ st.s 11 = slI a ∧ st.s 12 = li a.length ∧ st.s 13 = li i) (fun i => a.length - i) 0 ⟨by simp, e8k fun _ _ _ _ => rfl, by simp (disch := omega) [go_sem, hl']⟩ ?_
    rintro i st K ⟨hi, hm, h⟩ hK
    by_cases hlt : i < a.length
    · have hlt2 : i < b.length := by omega
      rw [e6x hlt hlt2] at hm
      simp (disch := omega) [go_sem, a31, h, hlt]
      refine a0b ?_
      simp (disch := omega) [go_sem, h, hlt]
      refine a0c (by decide) fun s2 hs he => ?_
      by_cases k : a[i] = b[i]
      · rw [decide_eq_true k, Bool.true_and] at hm
        simp (disch := omega) [go_sem, hs, h, k]
        exact hK (i + 1) _ ⟨by omega, hm, by simp (disch := omega) [go_sem, hs, h]⟩ (by omega)
      · rw [decide_eq_false k, Bool.false_and] at hm
        simp (disch := omega) [go_sem, hs, h, k, ← hm]
    · obtain rfl : i = a.length := by omega
      rw [List.drop_length, hl, List.drop_length, eqP] at hm
      simp (disch := omega) [go_sem, a31, h, ← hm]
  · have hl' : ¬ (a.length : Int) = b.length := by omega
    have hn : a ≠ b := fun h => hl (by rw [h])
    simp (disch := omega) [go_sem, a4j, hl', hn]
theorem a4q (a b : Ds) (ha : a.shape.length < 2 ^ 62) (hb : b.shape.length < 2 ^ 62) : ACalls pg G d5p [.agg (eD a), .agg (eD b)] (lb (decide (a = b))) := by
  refine b9z rfl ?_
  obtain ⟨s1, w1⟩ := a
  obtain ⟨s2, w2⟩ := b
  by_cases k : w1 = w2
  · simp (disch := omega) [go_sem, b1d, eD, k]
    refine a0d (e7w s1 s2 ha hb) rfl rfl ?_
    simp (disch := omega) [go_sem, Ds.mk.injEq, k]
  · simp (disch := omega) [go_sem, b1d, eD, k, Ds.mk.injEq]
structure Pl.fin (p : Pl) : Prop where
  vl : p.views.length < 2 ^ 62
  cl : p.consts.length < 2 ^ 62
  wl : p.weights.length < 2 ^ 62
  il : p.code.length < 2 ^ 62
  vs : ∀ x ∈ p.views, x.shape.length < 2 ^ 62
  cs : ∀ x ∈ p.consts, x.shape.length < 2 ^ 62 ∧ x.data.length < 2 ^ 62
  ws : ∀ x ∈ p.weights, x.shape.length < 2 ^ 62
  is : ∀ x ∈ p.code, x.ins.length < 2 ^ 62 ∧ x.args.length < 2 ^ 62
end
end Go.Ideal.Tryd
end
section
set_option linter.unusedVariables false
set_option linter.unusedSimpArgs false
namespace Go.Proofs.YtfncabcldhemkaaDoor
open Go Go.ChangeShapes Go.WideShapes Go.RowKit Go.Ideal Go.Ideal.Tryd
section
variable {H : Type} {e : TypeId × Value → H} {w : World}
theorem d4m : Rd e Tryd.prog w Int 3 (fun n => [li n]) (fun n => -9223372036854775808 ≤ n ∧ n ≤ 9223372036854775807) := Rd.int Tryd.underlying3
theorem f8e : Rd e Tryd.prog w Bool 4 (fun n => [lb n]) (fun _ => True) := Rd.bool Tryd.underlying4
theorem d9o : Rd e Tryd.prog w (List Int) 24 (fun xs => [slI xs]) (fun xs => xs.length ≤ reachBytes ∧ ∀ x ∈ xs, -9223372036854775808 ≤ x ∧ x ≤ 9223372036854775807) :=
  Rd.slice1 Tryd.underlying24 (of_decide_eq_true (by kernel_rfl)) (of_decide_eq_true (by kernel_rfl)) (Rd.int Tryd.underlying3)
theorem b74 : Tryd.prog.cellsOf 3 = 1 := by kernel_rfl
theorem g05 : Tryd.prog.cellsOf 4 = 1 := by kernel_rfl
theorem d3e : Tryd.prog.cellsOf 24 = 1 := by kernel_rfl
theorem d0c : Tryd.prog.cellsOf 26 = 2 := by kernel_rfl
theorem e4l : Tryd.prog.cellsOf 71 = 3 := by kernel_rfl
theorem e5j : Tryd.prog.cellsOf 28 = 3 := by kernel_rfl
theorem e2z : Tryd.prog.cellsOf 40 = 6 := by kernel_rfl
theorem e9n : Tryd.prog.cellsOf 37 = 7 := by kernel_rfl
theorem e98 : Tryd.prog.cellsOf 34 = 1 := by kernel_rfl
theorem e9o : Tryd.prog.cellsOf 33 = 1 := by kernel_rfl
theorem f0m : Tryd.prog.cellsOf 32 = 1 := by kernel_rfl
theorem e89 : Tryd.prog.cellsOf 35 = 1 := by kernel_rfl
theorem g8o : Rd e Tryd.prog w Ds 26 eD (fun d => d.shape.length ≤ reachBytes) :=
  (Rd.struct (l := [(24, 0), (4, 1)]) (by kernel_rfl) d0c (.cons d3e d9o (.cons g05 f8e .nil))).map (fun x => ⟨x.1, x.2.1⟩) (fun x => rfl) (fun x hx => hx.1.1)
theorem h8t : Rd e Tryd.prog w Tn 71 eT (fun d => d.shape.length ≤ reachBytes ∧ d.data.length ≤ reachBytes) :=
  (Rd.struct (l := [(26, 0), (24, 2)]) (by kernel_rfl) e4l (.cons d0c g8o (.cons d3e d9o .nil))).map (fun x => ⟨x.1.shape, x.1.wide, x.2.1⟩) (fun x => rfl) (fun x hx => ⟨hx.1, hx.2.1.1⟩)
theorem h8n : Rd e Tryd.prog w Vw 28 eV (fun d => d.shape.length ≤ reachBytes) :=
  (Rd.struct (l := [(3, 0), (26, 1)]) (by kernel_rfl) e5j (.cons b74 d4m (.cons d0c g8o .nil))).map (fun x => ⟨x.1, x.2.1.shape, x.2.1.wide⟩) (fun x => rfl) (fun x hx => hx.2.1)
theorem h8v : Rd e Tryd.prog w In 40 eI (fun d => d.ins.length ≤ reachBytes ∧ d.args.length ≤ reachBytes) :=
  (Rd.struct (l := [(3, 0), (3, 1), (24, 2), (24, 3), (3, 4), (3, 5)]) (by kernel_rfl) e2z (.cons b74 d4m (.cons b74 d4m (.cons d3e d9o (.cons d3e d9o (.cons b74 d4m (.cons b74 d4m .nil))))))).map
    (fun x => ⟨x.1, x.2.1, x.2.2.1, x.2.2.2.1, x.2.2.2.2.1, x.2.2.2.2.2.1⟩) (fun x => rfl) (fun x hx => ⟨hx.2.2.1.1, hx.2.2.2.1.1⟩)
theorem g9v : Tryd.prog.underlying 34 = some (.slice 26) := by kernel_rfl
theorem h1z : Rd e Tryd.prog w (List Ds) 34 (fun xs => [slD xs]) (fun xs => xs.length ≤ reachBytes ∧ ∀ x ∈ xs, x.shape.length ≤ reachBytes) :=
  Rd.slice g9v (of_decide_eq_true (by kernel_rfl)) g8o (fun x => by rw [d0c]; rfl)
theorem g90 : Tryd.prog.underlying 33 = some (.slice 71) := by kernel_rfl
theorem h06 : Rd e Tryd.prog w (List Tn) 33 (fun xs => [slT xs]) (fun xs => xs.length ≤ reachBytes ∧ ∀ x ∈ xs, x.shape.length ≤ reachBytes ∧ x.data.length ≤ reachBytes) :=
  Rd.slice g90 (of_decide_eq_true (by kernel_rfl)) h8t (fun x => by rw [e4l]; rfl)
theorem g8s : Tryd.prog.underlying 32 = some (.slice 28) := by kernel_rfl
theorem g8g : Rd e Tryd.prog w (List Vw) 32 (fun xs => [slV xs]) (fun xs => xs.length ≤ reachBytes ∧ ∀ x ∈ xs, x.shape.length ≤ reachBytes) :=
  Rd.slice g8s (of_decide_eq_true (by kernel_rfl)) h8n (fun x => by rw [e5j]; rfl)
theorem g96 : Tryd.prog.underlying 35 = some (.slice 40) := by kernel_rfl
theorem h1w : Rd e Tryd.prog w (List In) 35 (fun xs => [slJ xs]) (fun xs => xs.length ≤ reachBytes ∧ ∀ x ∈ xs, x.ins.length ≤ reachBytes ∧ x.args.length ≤ reachBytes) :=
  Rd.slice g96 (of_decide_eq_true (by kernel_rfl)) h8v (fun x => by rw [e2z]; rfl)
theorem e5m : c0q Tryd.prog 37 [(3, 0), (32, 1), (33, 2), (34, 3), (35, 4), (3, 5), (3, 6)] = true := by kernel_rfl
theorem f6j : Rd e Tryd.prog w Pl 37 eP Pl.fin :=
  (Rd.struct e5m e9n (.cons b74 d4m (.cons f0m g8g (.cons e9o h06 (.cons e98 h1z (.cons e89 h1w (.cons b74 d4m (.cons b74 d4m .nil)))))))).map
    (fun x => ⟨x.1, x.2.1, x.2.2.1, x.2.2.2.1, x.2.2.2.2.1, x.2.2.2.2.2.1, x.2.2.2.2.2.2.1⟩) (fun x => rfl)
    (fun x hx => by
      obtain ⟨_, ⟨v1, v2⟩, ⟨c1, c2⟩, ⟨w1, w2⟩, ⟨i1, i2⟩, _⟩ := hx
      have k : ∀ n : Nat, n ≤ reachBytes → n < 2 ^ 62 := fun n h => Nat.lt_of_le_of_lt h (by unfold reachBytes; decide)
      exact ⟨k _ v1, k _ c1, k _ w1, k _ i1, fun x hx => k _ (v2 x hx), fun x hx => ⟨k _ (c2 x hx).1, k _ (c2 x hx).2⟩, fun x hx => k _ (w2 x hx), fun x hx => ⟨k _ (i2 x hx).1, k _ (i2 x hx).2⟩⟩)
end
end Go.Proofs.YtfncabcldhemkaaDoor
end
section
set_option linter.unusedVariables false
set_option linter.unusedSimpArgs false
namespace Go.Ideal
theorem ACalls.frz {P : Program} {G : GG} {f : FuncId} {pre : List AV} {res : AV} (h : ACalls P G f pre res) : ACalls P G f pre (Ideal.frz res) := by
  intro w args A ow h1 h2 h3 h4 h5
  refine (h w args A ow h1 h2 h3 h4 h5).mono ?_
  rintro e w' ⟨v, rfl, hr⟩
  refine ⟨v, rfl, hr.le, hr.os, hr.tape, hr.output, hr.frame, noB, fun _ h => h.elim, ?_⟩
  obtain ⟨F, hF, hR⟩ := hr.own
  exact d6s (fun b hb => ⟨hb.1, fun h => h, hb.2.2⟩) res (fun b hb => ⟨(hF b hb).2, fun h => h, (hF b hb).1.elim (fun h => .inr (.inl h)) fun h => .inr (.inr h)⟩) hR
theorem ACalls.shown {P : Program} {G : GG} {f : FuncId} {pre : List AV} {res res' : AV} (h : ACalls P G f pre res) (he : Ideal.frz res = res') : ACalls P G f pre res' := he ▸ h.frz
end Go.Ideal
end
section
set_option linter.unusedSimpArgs false
set_option linter.unusedVariables false
set_option maxRecDepth 10000
namespace Go.Ideal.Tryd
@[go_sem] def c51 : List AO := [oo 4 (.asg (.c (.bool false)))]
@[go_sem] def c5g : List AO := [om 5 0,
 om 6 1,
 oc 7 44 [(false, (.t 6))] [3],
 oc 8 17 [(false, (.t 5)), (false, (.t 7))] [45, 48],
 oo 4 (.asg (.t 8))]
def b51 : IC := (.seq (.reg c51) (.seq (.reg c5g) .ret))
abbrev d3b : Nat := 23
theorem b81 : fnC pg 23 9 [(.tmp 4)] b51 := a0x Go.Proofs.Tryd.f23 [(.tmp 4)] (by kernel_rfl)
@[go_sem] theorem e46 : fnB pg 23 = true := by kernel_rfl
end Go.Ideal.Tryd
end
