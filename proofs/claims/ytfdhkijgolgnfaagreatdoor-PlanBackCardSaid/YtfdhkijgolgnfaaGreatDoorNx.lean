/- Part Nx of the proof: a machine with trees for values, its soundness, and walks on it. -/
import Derived.Test.YtfdhkijgolgnfaaGreatDoorNw
section
set_option linter.unusedVariables false
set_option linter.unusedSimpArgs false
namespace Go.Ideal
section
variable {P : Program} {G : Nat → Option Value} {N : Nat} {st : St} {K : St → Prop} {T : List (Nat × AV)} {u : Nat}
def cvK (N d : Nat) (o : Option (St × Nat × Nat × List AV)) : Option St := match o with
  | some r => gO (r.2.1 = 1 ∧ 0 < r.2.2.1) (some ((r.1.put N (.own r.2.1 r.2.2.1 r.2.2.2)).thru N d (.own r.2.1 r.2.2.1 r.2.2.2)))
  | none => none
@[congr] theorem f7u {d : Nat} {o o' : Option (St × Nat × Nat × List AV)} (h : o = o') : cvK N d o = cvK N d o' := by rw [h]
@[go_sem] theorem g5g {d sz n : Nat} {ks : List AV} : cvK N d (some (st, sz, n, ks)) = gO (sz = 1 ∧ 0 < n) (some ((st.put N (.own sz n ks)).thru N d (.own sz n ks))) := (rfl)
@[go_sem] theorem f7f {d : Nat} {s t : TypeId} {x : X} : evS G N (some d) (.conv s t .keep x) st = cvK N d (tkS st N x (rdv st x)) := by
  simp only [evS, a1c, Ev.run_bind, d4o, Option.bind]
  cases tkS st N x (rdv st x) with
  | none => rfl
  | some r =>
    simp only [Option.map, a1i, St.put_s, if_true, a0d, Ev.run_bind, Option.bind, cvK, gO]
    by_cases h1 : r.2.1 = 1
    · by_cases h2 : 0 < r.2.2.1
      · simp only [h1, h2, beq_self_eq_true, decide_true, Bool.and_self, if_true, and_self, a82]
      · simp only [h1, h2, beq_self_eq_true, decide_false, Bool.and_false, Bool.false_eq_true, if_false, and_false]
    · have : (r.2.1 == 1) = false := by simpa using h1
      simp only [this, Bool.false_and, Bool.false_eq_true, if_false, h1, false_and]
def lkB {α : Type} (b : Bool) (v : α) (o : Option α) : Option α := if b then some v else o
@[congr] theorem f95 {α : Type} {b b' : Bool} {v : α} {o : Option α} (h : b = b') : lkB b v o = lkB b' v o := by rw [h]
@[go_sem] theorem h79 {α : Type} {v : α} {o : Option α} : lkB true v o = some v := (rfl)
@[go_sem] theorem h78 {α : Type} {v : α} {o : Option α} : lkB false v o = o := (rfl)
@[go_sem] theorem g6b {α : Type} {a b : Nat} {v : α} {T : List (Nat × α)} : List.lookup a ((b, v) :: T) = lkB (a == b) v (List.lookup a T) := by
  simp only [List.lookup_cons, lkB]
  cases a == b <;> rfl
def f0u (b : Bool) (o : Option AV) (T : List (Nat × AV)) (v : AV) : AV := if b then (match o with
  | some av => av
  | none => a02 (a66 T) v) else .dead
@[congr] theorem f6r {b b' : Bool} {o o' : Option AV} {v : AV} (h : b = b') (h2 : o = o') : f0u b o T v = f0u b' o' T v := by rw [h, h2]
@[go_sem] theorem h7u {o : Option AV} {v : AV} : f0u false o T v = .dead := (rfl)
@[go_sem] theorem h4k {av v : AV} : f0u true (some av) T v = av := (rfl)
@[go_sem] theorem h5z {v : AV} : f0u true none T v = a02 (a66 T) v := (rfl)
@[go_sem] theorem g9u : (st.lentS N T).s u = f0u (decide (u < N)) (T.lookup u) T (st.s u) := by
  simp only [St.lentS, f0u, decide_eq_true_eq]
  cases T.lookup u <;> rfl
@[go_sem] theorem g6v : (st.lentS N T).ep u = st.ep u := (rfl)
def d4j (o : Option AV) : Bool := match o with
  | some (.var ks) => !a0j ks
  | _ => false
@[congr] theorem f2d {o o' : Option AV} (h : o = o') : d4j o = d4j o' := by rw [h]
@[go_sem] theorem h3b : d4j none = false := (rfl)
@[go_sem] theorem h1o {ks : List AV} : d4j (some (.var ks)) = !a0j ks := (rfl)
theorem c9v {t i : Nat} {q : List Nat} : a66 T t (i :: q) = d4j (T.lookup t) := by
  simp only [a66, d4j]
  cases T.lookup t with
  | none => rfl
  | some av => cases av <;> rfl
def e8y (b : Bool) (v : AV) : AV := if b then .dead else v
@[congr] theorem f6j {b b' : Bool} {v : AV} (h : b = b') : e8y b v = e8y b' v := by rw [h]
@[go_sem] theorem h6f {v : AV} : e8y true v = .dead := (rfl)
@[go_sem] theorem h41 {v : AV} : e8y false v = v := (rfl)
@[go_sem] theorem f2n {t o e : Nat} : a02 (a66 T) (.ref t [] o e) = .ref t [] o e := by simp [a02, a66]
@[go_sem] theorem f5i {t i o e : Nat} {q : List Nat} : a02 (a66 T) (.ref t (i :: q) o e) = e8y (d4j (T.lookup t)) (.ref t (i :: q) o e) := by simp only [a02, c9v, e8y]
@[go_sem] theorem f4w {t lo n e : Nat} : a02 (a66 T) (.bor t [] lo n e) = .bor t [] lo n e := by simp [a02, a66]
@[go_sem] theorem f5m {t i lo n e : Nat} {q : List Nat} : a02 (a66 T) (.bor t (i :: q) lo n e) = e8y (d4j (T.lookup t)) (.bor t (i :: q) lo n e) := by simp only [a02, c9v, e8y]
def e1g (b : Bool) (o : Option (List AV × List (Nat × Nat))) : Option (List AV × List (Nat × Nat)) := if b then o else none
@[congr] theorem f4r {b b' : Bool} {o : Option (List AV × List (Nat × Nat))} (h : b = b') : e1g b o = e1g b' o := by rw [h]
@[go_sem] theorem h4t {o : Option (List AV × List (Nat × Nat))} : e1g true o = o := (rfl)
section
variable {st1 : St} {acc : List AV} {L : List (Nat × Nat)} {es : List (Option Nat × AV)}
def pxV (N : Nat) (st1 st : St) (acc : List AV) (L : List (Nat × Nat)) (t : Nat) (v v1 : AV) (es : List (Option Nat × AV)) : Option (List AV × List (Nat × Nat)) := match v, v1 with
  | .var (k :: ks), .var (_ :: _) => pX N st1 st (acc ++ [.var (k :: ks)]) (L ++ [(t, acc.length)]) es
  | _, _ => none
def pxR (N : Nat) (st1 st : St) (acc : List AV) (L : List (Nat × Nat)) (t e : Nat) (o : Option Nat) (es : List (Option Nat × AV)) : Option (List AV × List (Nat × Nat)) := match o with
  | some j => e1g (decide (e = st.ep t)) (pX N st1 st (acc ++ [.ref j [] 0 0]) L es)
  | none => e1g (decide (e = st.ep t) && decide (t < N)) (pxV N st1 st acc L t (st.s t) (st1.s t) es)
def pxT (N : Nat) (st1 st : St) (acc : List AV) (L : List (Nat × Nat)) (o : Option AV) (es : List (Option Nat × AV)) : Option (List AV × List (Nat × Nat)) := match o with
  | some p => pX N st1 st (acc ++ [p]) L es
  | none => none
@[congr] theorem f7m {t : Nat} {v v' v1 v1' : AV} (h : v = v') (h1 : v1 = v1') : pxV N st1 st acc L t v v1 es = pxV N st1 st acc L t v' v1' es := by rw [h, h1]
@[congr] theorem f66 {t e : Nat} {o o' : Option Nat} (h : o = o') : pxR N st1 st acc L t e o es = pxR N st1 st acc L t e o' es := by rw [h]
@[congr] theorem f8k {o o' : Option AV} (h : o = o') : pxT N st1 st acc L o es = pxT N st1 st acc L o' es := by rw [h]
@[congr] theorem g76 {acc' : List AV} {L' : List (Nat × Nat)} {es' : List (Option Nat × AV)} (h1 : acc = acc') (h2 : L = L') (h3 : es = es') : pX N st1 st acc L es = pX N st1 st acc' L' es' := by rw [h1, h2, h3]
@[go_sem] theorem h0w {t : Nat} {k k1 : AV} {ks ks1 : List AV} : pxV N st1 st acc L t (.var (k :: ks)) (.var (k1 :: ks1)) es = pX N st1 st (acc ++ [.var (k :: ks)]) (L ++ [(t, acc.length)]) es := (rfl)
@[go_sem] theorem h8x {t e j : Nat} : pxR N st1 st acc L t e (some j) es = e1g (decide (e = st.ep t)) (pX N st1 st (acc ++ [.ref j [] 0 0]) L es) := (rfl)
@[go_sem] theorem h8f {t e : Nat} : pxR N st1 st acc L t e none es = e1g (decide (e = st.ep t) && decide (t < N)) (pxV N st1 st acc L t (st.s t) (st1.s t) es) := (rfl)
@[go_sem] theorem h77 {p : AV} : pxT N st1 st acc L (some p) es = pX N st1 st (acc ++ [p]) L es := (rfl)
@[go_sem] theorem h4u : pX N st1 st acc L [] = some (acc, L) := (rfl)
@[go_sem] theorem h9p {k : Nat} {av : AV} : pX N st1 st acc L ((some k, av) :: es) = e1g (a0k av) (pX N st1 st (acc ++ [av]) L es) := by
  simp only [pX, e1g]
@[go_sem] theorem h5s {t e : Nat} : pX N st1 st acc L ((none, .ref t [] 0 e) :: es) = pxR N st1 st acc L t e (L.lookup t) es := by
  simp only [pX, pxR, e1g, pxV, decide_eq_true_eq, Bool.and_eq_true]
  cases L.lookup t <;> rfl
@[go_sem] theorem h5m {v : Value} : pX N st1 st acc L ((none, .lit v) :: es) = pX N st1 st (acc ++ [.lit v]) L es := (rfl)
@[go_sem] theorem h74 {n : Nat} {ks : List AV} : pX N st1 st acc L ((none, .sl n ks) :: es) = pX N st1 st (acc ++ [.sl n ks]) L es := (rfl)
@[go_sem] theorem h8b {n : Nat} {ks : List AV} : pX N st1 st acc L ((none, .ip ks n) :: es) = pX N st1 st (acc ++ [.ip ks n]) L es := (rfl)
@[go_sem] theorem h7b {ks : List AV} : pX N st1 st acc L ((none, .agg ks) :: es) = e1g (a0j ks) (pX N st1 st (acc ++ [.agg ks]) L es) := by
  simp only [pX, trA, a0l, e1g]
  by_cases h : a0j ks = true <;> simp [h]
@[go_sem] theorem h59 {t : TypeId} {k : AV} : pX N st1 st acc L ((none, .ifc t k) :: es) = e1g (a0l k) (pX N st1 st (acc ++ [.ifc t k]) L es) := by
  simp only [pX, trA, a0l, e1g]
  by_cases h : a0l k = true <;> simp [h]
@[go_sem] theorem h8n {f : FuncId} {fs cs : List AV} : pX N st1 st acc L ((none, .fn f fs cs) :: es) = pxT N st1 st acc L (trA st L (.fn f fs cs)) es := (rfl)
def fn2 (f : FuncId) (a b : Option (List AV)) : Option AV := match a, b with
  | some a, some b => some (.fn f a b)
  | _, _ => none
@[go_sem] theorem h8r {f : FuncId} {a b : List AV} : fn2 f (some a) (some b) = some (.fn f a b) := (rfl)
@[go_sem] theorem h7t {f : FuncId} {fs cs : List AV} : trA st L (.fn f fs cs) = fn2 f (trL st L fs) (trL st L cs) := by
  simp only [trA, fn2]
  cases trL st L fs <;> cases trL st L cs <;> rfl
@[go_sem] theorem g99 : trL st L [] = some [] := by simp only [trL]
@[go_sem] theorem g68 {k : AV} {ks : List AV} : trL st L (k :: ks) = avs (trA st L k) (trL st L ks) := by
  simp only [trL, avs]
  cases trA st L k <;> cases trL st L ks <;> rfl
@[go_sem] theorem g9b {v : Value} : trA st L (.lit v) = some (.lit v) := by simp only [trA, a0l, if_true]
@[go_sem] theorem h5k {n : Nat} {ks : List AV} : trA st L (.sl n ks) = some (.sl n ks) := by simp only [trA, a0l, if_true]
@[go_sem] theorem h68 {n : Nat} {ks : List AV} : trA st L (.ip ks n) = some (.ip ks n) := by simp only [trA, a0l, if_true]
def f7n (b : Bool) (l : Option Nat) (o : Nat) : Option AV := if b then l.map fun i => .ref i [] o 0 else none
@[congr] theorem f4h {b b' : Bool} {l l' : Option Nat} {o : Nat} (h : b = b') (h2 : l = l') : f7n b l o = f7n b' l' o := by rw [h, h2]
@[go_sem] theorem h6b {i o : Nat} : f7n true (some i) o = some (.ref i [] o 0) := (rfl)
@[go_sem] theorem h21 {t o e : Nat} : trA st L (.ref t [] o e) = f7n (decide (e = st.ep t)) (L.lookup t) o := by simp [trA, f7n]
@[go_sem] theorem h9f {t : Nat} : xv st (.t t) = st.s t := (rfl)
@[go_sem] theorem h88 {v : Value} : xv st (.c v) = .lit v := (rfl)
@[go_sem] theorem h89 {n : Nat} : xv st (.f n) = .fn n [] [] := (rfl)
@[go_sem] theorem h9h {n : Nat} : xv st (.g n) = .lit (.pointer (some ⟨n, 0, none⟩)) := (rfl)
@[go_sem] theorem h0y {fs cs : List AV} {lay : List CS} : c9i N st fs lay cs = fs.map (fun a => (none, a)) ++ (lay.map (e3c N st) ++ cs.map (fun a => (none, a))) := (rfl)
@[go_sem] theorem h7f {k : Nat} : e3c N st (.p k) = (some k, st.s (N + 2 + k)) := (rfl)
@[go_sem] theorem h7d {y : X} : e3c N st (.x y) = (none, xv st y) := (rfl)
end
def e23 (st : St) (N : Nat) (T : List (Nat × AV)) (d : Option Nat) (res : AV) : St := match d with
  | some d => (st.lentS N T).thru N d res
  | none => st.lentS N T
@[go_sem] theorem g1t {d : Nat} {res : AV} : e23 st N T (some d) res = (st.lentS N T).thru N d res := (rfl)
@[go_sem] theorem g3l {res : AV} : e23 st N T none res = st.lentS N T := (rfl)
def e22 : AV → Bool
  | .var _ => true
  | _ => false
def clx (P : Program) (G : Nat → Option Value) (N : Nat) (d : Option Nat) (f : FuncId) (pre : List AV) (L : List (Nat × Nat)) (st1 st2 : St) (K : St → Prop) : Prop :=
  ∃ res posts, ACallsX P G f pre res posts ∧ a0k res = true ∧ posts.map (·.1) = L.map (·.2) ∧ (posts.all fun p => e22 p.2) = true ∧ K (e23 (if a0w res && posts.all fun p => a0w p.2 then st1 else st2) N ((L.map (·.1)).zip (posts.map (·.2))) d res)
def f6a (P : Program) (G : Nat → Option Value) (N : Nat) (d : Option Nat) (f : FuncId) (st1 st2 : St) (o : Option (List AV × List (Nat × Nat))) (K : St → Prop) : Prop := match o with
  | some x => clx P G N d f x.1 x.2 st1 st2 K
  | none => False
def f07 (P : Program) (G : Nat → Option Value) (N : Nat) (d : Option Nat) (v : AV) (lay : List CS) (st1 st2 : St) (K : St → Prop) : Prop := match v with
  | .fn f fs cs => fnB P f = true ∧ f6a P G N d f st1 st2 (pX N st1 st2 [] [] (c9i N st2 fs lay cs)) K
  | _ => False
def e8u (P : Program) (G : Nat → Option Value) (N : Nat) (d : Option Nat) (cv : X) (lay : List CS) (o1 o2 : Option St) (K : St → Prop) : Prop := match o1, o2 with
  | some st1, some st2 => f07 P G N d (xv st2 cv) lay st1 st2 K
  | _, _ => False
def e9y (P : Program) (G : Nat → Option Value) (N : Nat) (d : Option Nat) (cv : X) (args : List (Bool × X)) (lay : List CS) (o1 : Option St) (K : St → Prop) : Prop := e8u P G N d cv lay o1 (pss N (N + 2) args o1) K
section
variable {d : Option Nat} {cv : X} {args : List (Bool × X)} {lay : List CS} {st1 st2 : St} {f : FuncId}
@[congr] theorem f6q {o o' : Option St} (h : o = o') : e9y P G N d cv args lay o K = e9y P G N d cv args lay o' K := by rw [h]
@[congr] theorem f3a {o1 o o' : Option St} (h : o = o') : e8u P G N d cv lay o1 o K = e8u P G N d cv lay o1 o' K := by rw [h]
@[congr] theorem f4t {v v' : AV} (h : v = v') : f07 P G N d v lay st1 st2 K = f07 P G N d v' lay st1 st2 K := by rw [h]
@[congr] theorem f6k {o o' : Option (List AV × List (Nat × Nat))} (h : o = o') : f6a P G N d f st1 st2 o K = f6a P G N d f st1 st2 o' K := by rw [h]
@[congr] theorem g2s {pre pre' : List AV} {L L' : List (Nat × Nat)} (h : pre = pre') (h2 : L = L') : clx P G N d f pre L st1 st2 K = clx P G N d f pre' L' st1 st2 K := by rw [h, h2]
@[go_sem] theorem f9o : e9y P G N d cv args lay (some st) K = e8u P G N d cv lay (some st) (pss N (N + 2) args (some st)) K := (rfl)
@[go_sem] theorem f9e : e8u P G N d cv lay (some st1) (some st2) K = f07 P G N d (xv st2 cv) lay st1 st2 K := (rfl)
@[go_sem] theorem h2j {fs cs : List AV} : f07 P G N d (.fn f fs cs) lay st1 st2 K = (fnB P f = true ∧ f6a P G N d f st1 st2 (pX N st1 st2 [] [] (c9i N st2 fs lay cs)) K) := (rfl)
@[go_sem] theorem g08 {pre : List AV} {L : List (Nat × Nat)} : f6a P G N d f st1 st2 (some (pre, L)) K = clx P G N d f pre L st1 st2 K := (rfl)
@[go_sem] theorem f3j {tys : List TypeId} {rest : List AO} : b6q P G N (⟨d, .callx cv args lay tys, none⟩ :: rest) K st = e9y P G N d cv args lay (gvs N (N + 2) args (some st)) (b6q P G N rest K) := by
  simp only [b6q, b60, c80, e1p]
  rw [← a89]
  have hvar : ∀ {posts : List (Nat × AV)}, (∀ i av, (i, av) ∈ posts → ∃ ks, av = .var ks) ↔ (posts.all fun p => e22 p.2) = true := by
    intro posts
    simp only [List.all_eq_true]
    constructor
    · rintro h ⟨i, av⟩ hm
      obtain ⟨ks, rfl⟩ := h i av hm
      rfl
    · intro h i av hm
      have := h _ hm
      cases av <;> simp [e22] at this
      exact ⟨_, rfl⟩
  apply propext
  constructor
  · rintro ⟨f, fs, cs, st1, st2, L, pre, res, posts, st3, h1, h2, h3, h4, h5, h6, h7, h8, h9, h10, h11⟩
    have e2 := a38 (N := N) args (N + 2) st1
    rw [h2] at e2
    simp only [h1, Option.map, e9y, e8u, ← e2, h3, f07, h5, f6a]
    refine ⟨h4, res, posts, h6, h7, h8, hvar.1 h9, ?_⟩
    have : e23 (if a0w res && posts.all fun p => a0w p.2 then st1 else st2) N ((L.map (·.1)).zip (posts.map (·.2))) d res = st3 := by
      cases d with
      | none =>
        simp only [d8c, Ev.run_pure, Option.some.injEq, Prod.mk.injEq, true_and] at h10
        exact h10
      | some d =>
        simp only [d8c, a82, Option.some.injEq, Prod.mk.injEq, true_and] at h10
        exact h10
    rw [this]; exact h11
  · cases h1 : (a5r N (N + 2) args).run st with
    | none => intro h; simp only [Option.map, e9y, e8u] at h
    | some r =>
      obtain ⟨_, st1⟩ := r
      simp only [Option.map, e9y]
      rw [← a38]
      cases h2 : (a3x N (N + 2) args).run st1 with
      | none => intro h; simp only [Option.map, e8u] at h
      | some r2 =>
        obtain ⟨_, st2⟩ := r2
        simp only [Option.map, e8u]
        cases h3 : xv st2 cv <;> simp only [f07] <;> try exact False.elim
        rename_i f fs cs
        rintro ⟨h4, h⟩
        cases h5 : pX N st1 st2 [] [] (c9i N st2 fs lay cs) with
        | none => rw [h5] at h; exact h.elim
        | some x =>
          obtain ⟨pre, L⟩ := x
          rw [h5] at h
          obtain ⟨res, posts, h6, h7, h8, h9, h10⟩ := h
          refine ⟨f, fs, cs, st1, st2, L, pre, res, posts, _, rfl, h2, h3, h4, h5, h6, h7, h8, hvar.2 h9, ?_, h10⟩
          cases d <;> rfl
theorem a0o {pre : List AV} {L : List (Nat × Nat)} {res : AV} {posts : List (Nat × AV)} (hA : ACallsX P G f pre res posts) (hn : a0k res = true) (hp : posts.map (·.1) = L.map (·.2)) (hv : (posts.all fun p => e22 p.2) = true) (hi : (a0w res && posts.all fun p => a0w p.2) = true)
    (h : K (e23 st1 N ((L.map (·.1)).zip (posts.map (·.2))) d res)) : clx P G N d f pre L st1 st2 K := ⟨res, posts, hA, hn, hp, hv, by rw [hi]; exact h⟩
theorem f0l {pre : List AV} {L : List (Nat × Nat)} {res : AV} {posts : List (Nat × AV)} (hA : ACallsX P G f pre res posts) (hn : a0k res = true) (hp : posts.map (·.1) = L.map (·.2)) (hv : (posts.all fun p => e22 p.2) = true)
    (h : K (e23 st1 N ((L.map (·.1)).zip (posts.map (·.2))) d res)) (h2 : K (e23 st2 N ((L.map (·.1)).zip (posts.map (·.2))) d res)) : clx P G N d f pre L st1 st2 K := ⟨res, posts, hA, hn, hp, hv, by split; exact h; exact h2⟩
end
section
variable {d : Option Nat} {cv : X} {args : List (Bool × X)} {lay : List CS} {f : FuncId} {aft : DA} {rest : List AO} {fps : List (List Nat × List Nat)} {K : St → Prop} {ex : List Nat}
def f2k : AV → Bool
  | .var ks => a0j ks
  | _ => false
@[go_sem] theorem g05 {ks : List AV} : f2k (.var ks) = a0j ks := (rfl)
@[go_sem] theorem g7l {v : Value} : e7g (.lit v) = true := (rfl)
@[go_sem] theorem f7s {rd : List Nat} {n : Nat} : a41 rd (.t n) = rd.contains n := (rfl)
@[go_sem] theorem f8g {rd : List Nat} {v : Value} : a41 rd (.c v) = true := (rfl)
@[go_sem] theorem g0n {rd : List Nat} {n : Nat} : a41 rd (.f n) = true := (rfl)
@[go_sem] theorem g3g {rd : List Nat} {n : Nat} : a41 rd (.g n) = true := (rfl)
@[go_sem] theorem f6h {rd : List Nat} {t : Nat} {q : List Nat} {o e : Nat} : a3d rd (.ref t q o e) = rd.contains t := by simp only [a3d]
@[go_sem] theorem f3w {rd : List Nat} {t : Nat} {q : List Nat} {lo n e : Nat} : a3d rd (.bor t q lo n e) = rd.contains t := by simp only [a3d]
@[go_sem] theorem f9a {rd : List Nat} {f : FuncId} {a c : List AV} : a3d rd (.fn f a c) = (a2j rd a && a2j rd c) := by simp only [a3d]
@[go_sem] theorem f2t {rd : List Nat} {v : Value} : a3d rd (.lit v) = true := by simp only [a3d]
@[go_sem] theorem f6v {rd : List Nat} {n : Nat} {ks : List AV} : a3d rd (.sl n ks) = true := by simp only [a3d]
@[go_sem] theorem e9q {rd : List Nat} : a2j rd [] = true := by simp only [a2j]
@[go_sem] theorem e8v {rd : List Nat} {k : AV} {ks : List AV} : a2j rd (k :: ks) = (a3d rd k && a2j rd ks) := by simp only [a2j]
@[go_sem] theorem f6p {rd : List Nat} : d1a st rd args = args.all fun p => !p.1 && (e7g (rdv st p.2) && a41 rd p.2) := (rfl)
@[go_sem] theorem e9t {j : Nat} : a1b st j [] = st := (rfl)
@[go_sem] theorem e9m {j : Nat} {p : Bool × X} : a1b st j (p :: args) = a1b (st.put j (rdv st p.2)) (j + 1) args := (rfl)
@[go_sem] theorem g2c {rd : List Nat} {n : Nat} : d7w st rd n [] = true := (rfl)
@[go_sem] theorem h35 {rd : List Nat} {n k : Nat} : d7w st rd n (.p k :: lay) = (decide (k < n) && d7w st rd n lay) := (rfl)
@[go_sem] theorem h07 {rd : List Nat} {n : Nat} {y : X} : d7w st rd n (.x y :: lay) = ((a41 rd y && a3d rd (xv st y)) && d7w st rd n lay) := (rfl)
def dCx (P : Program) (G : Nat → Option Value) (N : Nat) (aft : DA) (ex : List Nat) (d : Option Nat) (cv : X) (args : List (Bool × X)) (lay : List CS) (rest : List AO) (fps : List (List Nat × List Nat)) (K : St → Prop) (st : St) : Prop :=
  e7i P G N aft ex d (.callx cv args lay []) fps (fun fps st => b4q aft.2 st ∧ b83 P G N aft rest fps K st) st
@[congr] theorem g1r {st' : St} (h : st = st') : dCx P G N aft ex d cv args lay rest fps K st = dCx P G N aft ex d cv args lay rest fps K st' := by rw [h]
@[go_sem] theorem f3f {tys : List TypeId} : b83 P G N aft (⟨d, .callx cv args lay tys, none⟩ :: rest) fps K st = dCx P G N aft [] d cv args lay rest fps K st := (rfl)
theorem e2k (rd : List Nat) {fs cs pre : List AV} {L : List (Nat × Nat)} {res : AV} {posts : List (Nat × AV)} (hA : ACallsX P G f pre res posts) (hpo : posts.map (·.1) = L.map (·.2))
    (hs : d1a st rd args = true ∧ a41 rd cv = true ∧ xv st cv = .fn f fs cs ∧ fnB P f = true ∧ (a2j rd fs && a2j rd cs) = true ∧ d7w st rd args.length lay = true ∧
      pX N st (a1b st (N + 2) args) [] [] (c9i N (a1b st (N + 2) args) fs lay cs) = some (pre, L) ∧ a0k res = true ∧ (posts.all fun p => f2k p.2) = true ∧
      (∀ t ∈ ex ++ rd, t < N) ∧ (∀ t ∈ d.toList, t < N) ∧ ∀ t ∈ L.map (·.1), t < N ∧ t ∈ rd)
    (h : b4q aft.2 (e23 st N ((L.map (·.1)).zip (posts.map (·.2))) d res) ∧ b83 P G N aft rest (fps ++ [(ex ++ (d.toList ++ rd), d.toList ++ L.map (·.1))]) K (e23 st N ((L.map (·.1)).zip (posts.map (·.2))) d res)) : dCx P G N aft ex d cv args lay rest fps K st := by
  obtain ⟨h1, h2, h3, h4, h5, h6, h7, h8, h9, h10, h11, h12⟩ := hs
  refine ⟨f, fs, cs, pre, L, res, posts, rd, h1, h2, h3, h4, h5, h6, h7, hA, h8, hpo, fun i av hm => ?_, h10, h11, h12, ?_⟩
  · have := List.all_eq_true.1 h9 _ hm
    cases av <;> simp only [f2k, Bool.false_eq_true] at this
    exact ⟨_, rfl, this⟩
  · cases d <;> exact h
end
def d8m (rs : List RV) (res : AV) (posts : List (Nat × AV)) : Exit → St → Prop
  | .normal, st | .ret, st => f3z rs st = some res ∧ ∀ p ∈ posts, st.s p.1 = p.2
  | _, _ => False
section
variable {rs : List RV} {res : AV} {posts : List (Nat × AV)}
@[congr] theorem f1i {e : Exit} {st' : St} (h2 : st = st') : d8m rs res posts e st = d8m rs res posts e st' := by rw [h2]
def poK : List (Nat × AV) → St → Prop
  | [], _ => True
  | p :: ps, st => st.s p.1 = p.2 ∧ poK ps st
@[congr] theorem f8q {ps : List (Nat × AV)} {st' : St} (h : st = st') : poK ps st = poK ps st' := by rw [h]
@[go_sem] theorem h3j : poK [] st = True := (rfl)
@[go_sem] theorem g42 {t : Nat} {v : AV} {ps : List (Nat × AV)} : poK ((t, v) :: ps) st = (st.s t = v ∧ poK ps st) := (rfl)
theorem d92 : ∀ {ps : List (Nat × AV)}, (∀ p ∈ ps, st.s p.1 = p.2) = poK ps st
  | [] => by simp [poK]
  | p :: ps => by simp only [List.mem_cons, forall_eq_or_imp, poK, d92 (ps := ps)]
@[go_sem] theorem g9n : d8m rs res posts .normal st = (f1x (rvL rs st) = some res ∧ poK posts st) := by rw [← d92]; rfl
@[go_sem] theorem g8u : d8m rs res posts .ret st = (f1x (rvL rs st) = some res ∧ poK posts st) := by rw [← d92]; rfl
theorem e0t {vs : List ResultVar} (h : d7u P N rs vs = true) : ∀ e st, d8m rs res posts e st → h4l P N vs res posts e st := by
  intro e st hq
  have key : f3z rs st = some res → c4g P N st vs = some res := by
    intro hk
    unfold f3z at hk
    cases hl : rvL rs st with
    | none => rw [hl] at hk; cases hk
    | some ks =>
      rw [hl] at hk
      simp only [c4g, c52 h hl]
      exact hk
  cases e <;> first | exact ⟨key hq.1, hq.2⟩ | exact hq
end
theorem ACallsX.of_walk {P : Program} {G : Nat → Option Value} {f : FuncId} {fn : Func} {c : Code} {N : Nat} {vs : List ResultVar} {rs : List RV} {ic : IC} (hord : P.follows .mixedOrders = true) (hf : P.funcs[f]? = some fn) (hb : fn.body = some c) (hN : fn.ntmps = N) (hrs : fn.results.toList = vs) (hnd : (vs.map rvT).Nodup)
    (he : b4y c = ic.ec) (hok : ic.ok P N = true) (hr : d7u P N rs vs = true) {pins : List Nat} (hpin : ic.pin pins = true) {pre : List AV} {res : AV} {posts : List (Nat × AV)} (hsz : pre.length ≤ N) (hpo : posts.map (·.1) = pins) (hpr : pins.all (fun t => !(vs.map rvT).contains t && decide (t < pre.length)) = true) (hnr : (posts.all fun p => a0k p.2) = true)
    (h : AW P G N ic (d8m rs res posts) (St.init pre)) : ACallsX P G f pre res posts :=
  b2o hf hb hN hrs hnd hsz (fun p hp => by
    have := List.all_eq_true.1 hpr p.1 (by rw [← hpo]; exact List.mem_map.2 ⟨p, hp, rfl⟩)
    simp only [Bool.and_eq_true, Bool.not_eq_true', decide_eq_true_eq] at this
    exact ⟨fun hm => by simp [hm] at this, this.2, List.all_eq_true.1 hnr p hp⟩) (by rw [hpo]; exact (e1n hord ic c _ _ he hok hpin h).mono (e0t hr))
end
end Go.Ideal
end
section
set_option linter.unusedVariables false
set_option linter.unusedSimpArgs false
namespace Go.Ideal
abbrev oo (d : Nat) (i : IOp) : AO := ⟨some d, .op i, none⟩
abbrev om (d t : Nat) : AO := ⟨some d, .op (.mv (.t t)), none⟩
abbrev ov (i : IOp) : AO := ⟨none, .op i, none⟩
abbrev og (d : Nat) (i : IOp) (j t : Nat) (b : Bool) : AO := ⟨some d, .op i, some (j, t, b)⟩
abbrev oc (d : Nat) (f : FuncId) (args : List (Bool × X)) (tys : List TypeId) : AO := ⟨some d, .call f args tys, none⟩
abbrev X.n (k : Int) : X := .c (.int .i64 k)
abbrev fnK : Type := Bool × Option Func × Option EC × Nat × List ResultVar × Bool × Bool × Bool
def fnL (P : Program) (f : FuncId) (fn : Func) (N : Nat) (rs : List RV) (vs : List ResultVar) (ic : IC) : fnK :=
  (P.follows .mixedOrders, P.funcs[f]?, fn.body.map b4y, fn.ntmps, fn.results.toList, decide ((vs.map rvT).Nodup), ic.ok P N, d7u P N rs vs)
def fnR (fn : Func) (N : Nat) (vs : List ResultVar) (ic : IC) : fnK := (true, some fn, some ic.ec, N, vs, true, true, true)
abbrev fnC (P : Program) (f : FuncId) (N : Nat) (rs : List RV) (ic : IC) : Prop :=
  ∀ {G : Nat → Option Value} {pre : List AV} {res : AV} (hsz : decide (pre.length ≤ N) = true) (hw : AW P G N ic (f2h rs res) (St.init pre)), ACalls P G f pre res
abbrev fnX (P : Program) (f : FuncId) (N : Nat) (rs : List RV) (vs : List ResultVar) (ic : IC) : Prop :=
  ∀ {G : Nat → Option Value} {pre : List AV} {res : AV} {posts : List (Nat × AV)} {pins : List Nat} (hpin : ic.pin pins = true) (hpo : posts.map (·.1) = pins)
    (hpr : pins.all (fun t => !(vs.map rvT).contains t && decide (t < pre.length)) = true) (hnr : (posts.all fun p => a0k p.2) = true) (hsz : decide (pre.length ≤ N) = true) (hw : AW P G N ic (d8m rs res posts) (St.init pre)), ACallsX P G f pre res posts
section
variable {P : Program} {f : FuncId} {N : Nat} {rs : List RV} {ic : IC}
theorem a0v (fn : Func) (vs : List ResultVar) (h : fnL P f fn N rs vs ic = fnR fn N vs ic) : fnC P f N rs ic := by
  intro G pre res hsz hw
  simp only [fnL, fnR, Prod.mk.injEq, Option.map_eq_some_iff, decide_eq_true_eq] at h
  obtain ⟨h1, h2, ⟨c, hc, he⟩, h4, h5, h6, h7, h8⟩ := h
  exact ACalls.of_walk h1 h2 hc h4 h5 h6 he h7 h8 (of_decide_eq_true hsz) hw
theorem a2o (fn : Func) {vs : List ResultVar} (h : fnL P f fn N rs vs ic = fnR fn N vs ic) : fnX P f N rs vs ic := by
  intro G pre res posts pins hpin hpo hpr hnr hsz hw
  simp only [fnL, fnR, Prod.mk.injEq, Option.map_eq_some_iff, decide_eq_true_eq] at h
  obtain ⟨h1, h2, ⟨c, hc, he⟩, h4, h5, h6, h7, h8⟩ := h
  exact ACallsX.of_walk h1 h2 hc h4 h5 h6 he h7 h8 hpin (of_decide_eq_true hsz) hpo hpr hnr hw
end
end Go.Ideal
end
