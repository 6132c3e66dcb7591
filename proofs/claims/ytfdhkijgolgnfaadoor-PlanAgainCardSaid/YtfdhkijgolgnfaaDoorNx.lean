/- Part Nx of the proof: a machine with trees for values, its soundness, and walks on it. -/
import Derived.Test.YtfdhkijgolgnfaaDoorNw
section
set_option linter.unusedVariables false
set_option linter.unusedSimpArgs false
namespace Go.Ideal
section
variable {P : Program} {G : Nat → Option Value} {N : Nat} {st : St} {K : St → Prop} {T : List (Nat × AV)} {u : Nat}
def cvK (N d : Nat) (o : Option (St × Nat × Nat × List AV)) : Option St := match o with
  | some r => gO (r.2.1 = 1 ∧ 0 < r.2.2.1) (some ((r.1.put N (.own r.2.1 r.2.2.1 r.2.2.2)).thru N d (.own r.2.1 r.2.2.1 r.2.2.2)))
  | none => none
@[congr] theorem e9m {d : Nat} {o o' : Option (St × Nat × Nat × List AV)} (h : o = o') : cvK N d o = cvK N d o' := by rw [h]
@[go_sem] theorem f26 {d sz n : Nat} {ks : List AV} : cvK N d (some (st, sz, n, ks)) = gO (sz = 1 ∧ 0 < n) (some ((st.put N (.own sz n ks)).thru N d (.own sz n ks))) := (rfl)
@[go_sem] theorem e8m {d : Nat} {s t : TypeId} {x : X} : evS G N (some d) (.conv s t .keep x) st = cvK N d (tkS st N x (rdv st x)) := by
  simp only [evS, a06, Ev.run_bind, c77, Option.bind]
  cases tkS st N x (rdv st x) with
  | none => rfl
  | some r =>
    simp only [Option.map, a1b, St.put_s, if_true, a0d, Ev.run_bind, Option.bind, cvK, gO]
    by_cases h1 : r.2.1 = 1
    · by_cases h2 : 0 < r.2.2.1
      · simp only [h1, h2, beq_self_eq_true, decide_true, Bool.and_self, if_true, and_self, a7g]
      · simp only [h1, h2, beq_self_eq_true, decide_false, Bool.and_false, Bool.false_eq_true, if_false, and_false]
    · have : (r.2.1 == 1) = false := by simpa using h1
      simp only [this, Bool.false_and, Bool.false_eq_true, if_false, h1, false_and]
def lkB {α : Type} (b : Bool) (v : α) (o : Option α) : Option α := if b then some v else o
@[congr] theorem e8b {α : Type} {b b' : Bool} {v : α} {o : Option α} (h : b = b') : lkB b v o = lkB b' v o := by rw [h]
@[go_sem] theorem g4p {α : Type} {v : α} {o : Option α} : lkB true v o = some v := (rfl)
@[go_sem] theorem g42 {α : Type} {v : α} {o : Option α} : lkB false v o = o := (rfl)
@[go_sem] theorem f3o {α : Type} {a b : Nat} {v : α} {T : List (Nat × α)} : List.lookup a ((b, v) :: T) = lkB (a == b) v (List.lookup a T) := by
  simp only [List.lookup_cons, lkB]
  cases a == b <;> rfl
def e05 (b : Bool) (o : Option AV) (T : List (Nat × AV)) (v : AV) : AV := if b then (match o with
  | some av => av
  | none => a0z (a5u T) v) else .dead
@[congr] theorem e3u {b b' : Bool} {o o' : Option AV} {v : AV} (h : b = b') (h2 : o = o') : e05 b o T v = e05 b' o' T v := by rw [h, h2]
@[go_sem] theorem g4c {o : Option AV} {v : AV} : e05 false o T v = .dead := (rfl)
@[go_sem] theorem g24 {av v : AV} : e05 true (some av) T v = av := (rfl)
@[go_sem] theorem g3z {v : AV} : e05 true none T v = a0z (a5u T) v := (rfl)
@[go_sem] theorem g0y : (st.lentS N T).s u = e05 (decide (u < N)) (T.lookup u) T (st.s u) := by
  simp only [St.lentS, e05, decide_eq_true_eq]
  cases T.lookup u <;> rfl
@[go_sem] theorem f2v : (st.lentS N T).ep u = st.ep u := (rfl)
def c8q (o : Option AV) : Bool := match o with
  | some (.var ks) => !a0i ks
  | _ => false
@[congr] theorem d91 {o o' : Option AV} (h : o = o') : c8q o = c8q o' := by rw [h]
@[go_sem] theorem f9v : c8q none = false := (rfl)
@[go_sem] theorem f7e {ks : List AV} : c8q (some (.var ks)) = !a0i ks := (rfl)
theorem c1c {t i : Nat} {q : List Nat} : a5u T t (i :: q) = c8q (T.lookup t) := by
  simp only [a5u, c8q]
  cases T.lookup t with
  | none => rfl
  | some av => cases av <;> rfl
def d8n (b : Bool) (v : AV) : AV := if b then .dead else v
@[congr] theorem e1k {b b' : Bool} {v : AV} (h : b = b') : d8n b v = d8n b' v := by rw [h]
@[go_sem] theorem g25 {v : AV} : d8n true v = .dead := (rfl)
@[go_sem] theorem g1f {v : AV} : d8n false v = v := (rfl)
@[go_sem] theorem e3l {t o e : Nat} : a0z (a5u T) (.ref t [] o e) = .ref t [] o e := by simp [a0z, a5u]
@[go_sem] theorem e1v {t i o e : Nat} {q : List Nat} : a0z (a5u T) (.ref t (i :: q) o e) = d8n (c8q (T.lookup t)) (.ref t (i :: q) o e) := by simp only [a0z, c1c, d8n]
@[go_sem] theorem e2h {t lo n e : Nat} : a0z (a5u T) (.bor t [] lo n e) = .bor t [] lo n e := by simp [a0z, a5u]
@[go_sem] theorem e25 {t i lo n e : Nat} {q : List Nat} : a0z (a5u T) (.bor t (i :: q) lo n e) = d8n (c8q (T.lookup t)) (.bor t (i :: q) lo n e) := by simp only [a0z, c1c, d8n]
def d1m (b : Bool) (o : Option (List AV × List (Nat × Nat))) : Option (List AV × List (Nat × Nat)) := if b then o else none
@[congr] theorem e23 {b b' : Bool} {o : Option (List AV × List (Nat × Nat))} (h : b = b') : d1m b o = d1m b' o := by rw [h]
@[go_sem] theorem g06 {o : Option (List AV × List (Nat × Nat))} : d1m true o = o := (rfl)
section
variable {st1 : St} {acc : List AV} {L : List (Nat × Nat)} {es : List (Option Nat × AV)}
def pxV (N : Nat) (st1 st : St) (acc : List AV) (L : List (Nat × Nat)) (t : Nat) (v v1 : AV) (es : List (Option Nat × AV)) : Option (List AV × List (Nat × Nat)) := match v, v1 with
  | .var (k :: ks), .var (_ :: _) => pX N st1 st (acc ++ [.var (k :: ks)]) (L ++ [(t, acc.length)]) es
  | _, _ => none
def pxR (N : Nat) (st1 st : St) (acc : List AV) (L : List (Nat × Nat)) (t e : Nat) (o : Option Nat) (es : List (Option Nat × AV)) : Option (List AV × List (Nat × Nat)) := match o with
  | some j => d1m (decide (e = st.ep t)) (pX N st1 st (acc ++ [.ref j [] 0 0]) L es)
  | none => d1m (decide (e = st.ep t) && decide (t < N)) (pxV N st1 st acc L t (st.s t) (st1.s t) es)
def pxT (N : Nat) (st1 st : St) (acc : List AV) (L : List (Nat × Nat)) (o : Option AV) (es : List (Option Nat × AV)) : Option (List AV × List (Nat × Nat)) := match o with
  | some p => pX N st1 st (acc ++ [p]) L es
  | none => none
@[congr] theorem e7a {t : Nat} {v v' v1 v1' : AV} (h : v = v') (h1 : v1 = v1') : pxV N st1 st acc L t v v1 es = pxV N st1 st acc L t v' v1' es := by rw [h, h1]
@[congr] theorem e5g {t e : Nat} {o o' : Option Nat} (h : o = o') : pxR N st1 st acc L t e o es = pxR N st1 st acc L t e o' es := by rw [h]
@[congr] theorem e52 {o o' : Option AV} (h : o = o') : pxT N st1 st acc L o es = pxT N st1 st acc L o' es := by rw [h]
@[congr] theorem f3q {acc' : List AV} {L' : List (Nat × Nat)} {es' : List (Option Nat × AV)} (h1 : acc = acc') (h2 : L = L') (h3 : es = es') : pX N st1 st acc L es = pX N st1 st acc' L' es' := by rw [h1, h2, h3]
@[go_sem] theorem f5g {t : Nat} {k k1 : AV} {ks ks1 : List AV} : pxV N st1 st acc L t (.var (k :: ks)) (.var (k1 :: ks1)) es = pX N st1 st (acc ++ [.var (k :: ks)]) (L ++ [(t, acc.length)]) es := (rfl)
@[go_sem] theorem g4y {t e j : Nat} : pxR N st1 st acc L t e (some j) es = d1m (decide (e = st.ep t)) (pX N st1 st (acc ++ [.ref j [] 0 0]) L es) := (rfl)
@[go_sem] theorem g5b {t e : Nat} : pxR N st1 st acc L t e none es = d1m (decide (e = st.ep t) && decide (t < N)) (pxV N st1 st acc L t (st.s t) (st1.s t) es) := (rfl)
@[go_sem] theorem g49 {p : AV} : pxT N st1 st acc L (some p) es = pX N st1 st (acc ++ [p]) L es := (rfl)
@[go_sem] theorem g3v : pX N st1 st acc L [] = some (acc, L) := (rfl)
@[go_sem] theorem g5i {k : Nat} {av : AV} : pX N st1 st acc L ((some k, av) :: es) = d1m (a0l av) (pX N st1 st (acc ++ [av]) L es) := by
  simp only [pX, d1m]
@[go_sem] theorem g2a {t e : Nat} : pX N st1 st acc L ((none, .ref t [] 0 e) :: es) = pxR N st1 st acc L t e (L.lookup t) es := by
  simp only [pX, pxR, d1m, pxV, decide_eq_true_eq, Bool.and_eq_true]
  cases L.lookup t <;> rfl
@[go_sem] theorem g2o {v : Value} : pX N st1 st acc L ((none, .lit v) :: es) = pX N st1 st (acc ++ [.lit v]) L es := (rfl)
@[go_sem] theorem g4t {n : Nat} {ks : List AV} : pX N st1 st acc L ((none, .sl n ks) :: es) = pX N st1 st (acc ++ [.sl n ks]) L es := (rfl)
@[go_sem] theorem g4g {n : Nat} {ks : List AV} : pX N st1 st acc L ((none, .ip ks n) :: es) = pX N st1 st (acc ++ [.ip ks n]) L es := (rfl)
@[go_sem] theorem g2c {ks : List AV} : pX N st1 st acc L ((none, .agg ks) :: es) = d1m (a0i ks) (pX N st1 st (acc ++ [.agg ks]) L es) := by
  simp only [pX, trA, a0j, d1m]
  by_cases h : a0i ks = true <;> simp [h]
@[go_sem] theorem g3m {t : TypeId} {k : AV} : pX N st1 st acc L ((none, .ifc t k) :: es) = d1m (a0j k) (pX N st1 st (acc ++ [.ifc t k]) L es) := by
  simp only [pX, trA, a0j, d1m]
  by_cases h : a0j k = true <;> simp [h]
@[go_sem] theorem g41 {f : FuncId} {fs cs : List AV} : pX N st1 st acc L ((none, .fn f fs cs) :: es) = pxT N st1 st acc L (trA st L (.fn f fs cs)) es := (rfl)
def fn2 (f : FuncId) (a b : Option (List AV)) : Option AV := match a, b with
  | some a, some b => some (.fn f a b)
  | _, _ => none
@[go_sem] theorem g4l {f : FuncId} {a b : List AV} : fn2 f (some a) (some b) = some (.fn f a b) := (rfl)
@[go_sem] theorem g3w {f : FuncId} {fs cs : List AV} : trA st L (.fn f fs cs) = fn2 f (trL st L fs) (trL st L cs) := by
  simp only [trA, fn2]
  cases trL st L fs <;> cases trL st L cs <;> rfl
@[go_sem] theorem f8g : trL st L [] = some [] := by simp only [trL]
@[go_sem] theorem f27 {k : AV} {ks : List AV} : trL st L (k :: ks) = avs (trA st L k) (trL st L ks) := by
  simp only [trL, avs]
  cases trA st L k <;> cases trL st L ks <;> rfl
@[go_sem] theorem f8w {v : Value} : trA st L (.lit v) = some (.lit v) := by simp only [trA, a0j, if_true]
@[go_sem] theorem g12 {n : Nat} {ks : List AV} : trA st L (.sl n ks) = some (.sl n ks) := by simp only [trA, a0j, if_true]
@[go_sem] theorem g00 {n : Nat} {ks : List AV} : trA st L (.ip ks n) = some (.ip ks n) := by simp only [trA, a0j, if_true]
def f0n (b : Bool) (l : Option Nat) (o : Nat) : Option AV := if b then l.map fun i => .ref i [] o 0 else none
@[congr] theorem e4b {b b' : Bool} {l l' : Option Nat} {o : Nat} (h : b = b') (h2 : l = l') : f0n b l o = f0n b' l' o := by rw [h, h2]
@[go_sem] theorem g3q {i o : Nat} : f0n true (some i) o = some (.ref i [] o 0) := (rfl)
@[go_sem] theorem g0m {t o e : Nat} : trA st L (.ref t [] o e) = f0n (decide (e = st.ep t)) (L.lookup t) o := by simp [trA, f0n]
@[go_sem] theorem g5l {t : Nat} : xv st (.t t) = st.s t := (rfl)
@[go_sem] theorem g5m {v : Value} : xv st (.c v) = .lit v := (rfl)
@[go_sem] theorem g5h {n : Nat} : xv st (.f n) = .fn n [] [] := (rfl)
@[go_sem] theorem g5k {n : Nat} : xv st (.g n) = .lit (.pointer (some ⟨n, 0, none⟩)) := (rfl)
@[go_sem] theorem f51 {fs cs : List AV} {lay : List CS} : c09 N st fs lay cs = fs.map (fun a => (none, a)) ++ (lay.map (d3h N st) ++ cs.map (fun a => (none, a))) := (rfl)
@[go_sem] theorem g0z {k : Nat} : d3h N st (.p k) = (some k, st.s (N + 2 + k)) := (rfl)
@[go_sem] theorem g1j {y : X} : d3h N st (.x y) = (none, xv st y) := (rfl)
end
def d2l (st : St) (N : Nat) (T : List (Nat × AV)) (d : Option Nat) (res : AV) : St := match d with
  | some d => (st.lentS N T).thru N d res
  | none => st.lentS N T
@[go_sem] theorem e9y {d : Nat} {res : AV} : d2l st N T (some d) res = (st.lentS N T).thru N d res := (rfl)
@[go_sem] theorem e5d {res : AV} : d2l st N T none res = st.lentS N T := (rfl)
def d2d : AV → Bool
  | .var _ => true
  | _ => false
def clx (P : Program) (G : Nat → Option Value) (N : Nat) (d : Option Nat) (f : FuncId) (pre : List AV) (L : List (Nat × Nat)) (st1 st2 : St) (K : St → Prop) : Prop :=
  ∃ res posts, ACallsX P G f pre res posts ∧ a0l res = true ∧ posts.map (·.1) = L.map (·.2) ∧ (posts.all fun p => d2d p.2) = true ∧ K (d2l (if a0r res && posts.all fun p => a0r p.2 then st1 else st2) N ((L.map (·.1)).zip (posts.map (·.2))) d res)
def e3n (P : Program) (G : Nat → Option Value) (N : Nat) (d : Option Nat) (f : FuncId) (st1 st2 : St) (o : Option (List AV × List (Nat × Nat))) (K : St → Prop) : Prop := match o with
  | some x => clx P G N d f x.1 x.2 st1 st2 K
  | none => False
def e0v (P : Program) (G : Nat → Option Value) (N : Nat) (d : Option Nat) (v : AV) (lay : List CS) (st1 st2 : St) (K : St → Prop) : Prop := match v with
  | .fn f fs cs => fnB P f = true ∧ e3n P G N d f st1 st2 (pX N st1 st2 [] [] (c09 N st2 fs lay cs)) K
  | _ => False
def d64 (P : Program) (G : Nat → Option Value) (N : Nat) (d : Option Nat) (cv : X) (lay : List CS) (o1 o2 : Option St) (K : St → Prop) : Prop := match o1, o2 with
  | some st1, some st2 => e0v P G N d (xv st2 cv) lay st1 st2 K
  | _, _ => False
def e0d (P : Program) (G : Nat → Option Value) (N : Nat) (d : Option Nat) (cv : X) (args : List (Bool × X)) (lay : List CS) (o1 : Option St) (K : St → Prop) : Prop := d64 P G N d cv lay o1 (pss N (N + 2) args o1) K
section
variable {d : Option Nat} {cv : X} {args : List (Bool × X)} {lay : List CS} {st1 st2 : St} {f : FuncId}
@[congr] theorem e18 {o o' : Option St} (h : o = o') : e0d P G N d cv args lay o K = e0d P G N d cv args lay o' K := by rw [h]
@[congr] theorem e3s {o1 o o' : Option St} (h : o = o') : d64 P G N d cv lay o1 o K = d64 P G N d cv lay o1 o' K := by rw [h]
@[congr] theorem e32 {v v' : AV} (h : v = v') : e0v P G N d v lay st1 st2 K = e0v P G N d v' lay st1 st2 K := by rw [h]
@[congr] theorem e21 {o o' : Option (List AV × List (Nat × Nat))} (h : o = o') : e3n P G N d f st1 st2 o K = e3n P G N d f st1 st2 o' K := by rw [h]
@[congr] theorem e41 {pre pre' : List AV} {L L' : List (Nat × Nat)} (h : pre = pre') (h2 : L = L') : clx P G N d f pre L st1 st2 K = clx P G N d f pre' L' st1 st2 K := by rw [h, h2]
@[go_sem] theorem e8o : e0d P G N d cv args lay (some st) K = d64 P G N d cv lay (some st) (pss N (N + 2) args (some st)) K := (rfl)
@[go_sem] theorem e85 : d64 P G N d cv lay (some st1) (some st2) K = e0v P G N d (xv st2 cv) lay st1 st2 K := (rfl)
@[go_sem] theorem f5k {fs cs : List AV} : e0v P G N d (.fn f fs cs) lay st1 st2 K = (fnB P f = true ∧ e3n P G N d f st1 st2 (pX N st1 st2 [] [] (c09 N st2 fs lay cs)) K) := (rfl)
@[go_sem] theorem e78 {pre : List AV} {L : List (Nat × Nat)} : e3n P G N d f st1 st2 (some (pre, L)) K = clx P G N d f pre L st1 st2 K := (rfl)
@[go_sem] theorem e4j {tys : List TypeId} {rest : List AO} : b3q P G N (⟨d, .callx cv args lay tys, none⟩ :: rest) K st = e0d P G N d cv args lay (gvs N (N + 2) args (some st)) (b3q P G N rest K) := by
  simp only [b3q, b3k, c0x, d1x]
  rw [← a69]
  have hvar : ∀ {posts : List (Nat × AV)}, (∀ i av, (i, av) ∈ posts → ∃ ks, av = .var ks) ↔ (posts.all fun p => d2d p.2) = true := by
    intro posts
    simp only [List.all_eq_true]
    constructor
    · rintro h ⟨i, av⟩ hm
      obtain ⟨ks, rfl⟩ := h i av hm
      rfl
    · intro h i av hm
      have := h _ hm
      cases av <;> simp [d2d] at this
      exact ⟨_, rfl⟩
  apply propext
  constructor
  · rintro ⟨f, fs, cs, st1, st2, L, pre, res, posts, st3, h1, h2, h3, h4, h5, h6, h7, h8, h9, h10, h11⟩
    have e2 := a3f (N := N) args (N + 2) st1
    rw [h2] at e2
    simp only [h1, Option.map, e0d, d64, ← e2, h3, e0v, h5, e3n]
    refine ⟨h4, res, posts, h6, h7, h8, hvar.1 h9, ?_⟩
    have : d2l (if a0r res && posts.all fun p => a0r p.2 then st1 else st2) N ((L.map (·.1)).zip (posts.map (·.2))) d res = st3 := by
      cases d with
      | none =>
        simp only [c81, Ev.run_pure, Option.some.injEq, Prod.mk.injEq, true_and] at h10
        exact h10
      | some d =>
        simp only [c81, a7g, Option.some.injEq, Prod.mk.injEq, true_and] at h10
        exact h10
    rw [this]; exact h11
  · cases h1 : (a4z N (N + 2) args).run st with
    | none => intro h; simp only [Option.map, e0d, d64] at h
    | some r =>
      obtain ⟨_, st1⟩ := r
      simp only [Option.map, e0d]
      rw [← a3f]
      cases h2 : (a25 N (N + 2) args).run st1 with
      | none => intro h; simp only [Option.map, d64] at h
      | some r2 =>
        obtain ⟨_, st2⟩ := r2
        simp only [Option.map, d64]
        cases h3 : xv st2 cv <;> simp only [e0v] <;> try exact False.elim
        rename_i f fs cs
        rintro ⟨h4, h⟩
        cases h5 : pX N st1 st2 [] [] (c09 N st2 fs lay cs) with
        | none => rw [h5] at h; exact h.elim
        | some x =>
          obtain ⟨pre, L⟩ := x
          rw [h5] at h
          obtain ⟨res, posts, h6, h7, h8, h9, h10⟩ := h
          refine ⟨f, fs, cs, st1, st2, L, pre, res, posts, _, rfl, h2, h3, h4, h5, h6, h7, h8, hvar.2 h9, ?_, h10⟩
          cases d <;> rfl
theorem a0s {pre : List AV} {L : List (Nat × Nat)} {res : AV} {posts : List (Nat × AV)} (hA : ACallsX P G f pre res posts) (hn : a0l res = true) (hp : posts.map (·.1) = L.map (·.2)) (hv : (posts.all fun p => d2d p.2) = true) (hi : (a0r res && posts.all fun p => a0r p.2) = true)
    (h : K (d2l st1 N ((L.map (·.1)).zip (posts.map (·.2))) d res)) : clx P G N d f pre L st1 st2 K := ⟨res, posts, hA, hn, hp, hv, by rw [hi]; exact h⟩
theorem d9t {pre : List AV} {L : List (Nat × Nat)} {res : AV} {posts : List (Nat × AV)} (hA : ACallsX P G f pre res posts) (hn : a0l res = true) (hp : posts.map (·.1) = L.map (·.2)) (hv : (posts.all fun p => d2d p.2) = true)
    (h : K (d2l st1 N ((L.map (·.1)).zip (posts.map (·.2))) d res)) (h2 : K (d2l st2 N ((L.map (·.1)).zip (posts.map (·.2))) d res)) : clx P G N d f pre L st1 st2 K := ⟨res, posts, hA, hn, hp, hv, by split; exact h; exact h2⟩
end
section
variable {d : Option Nat} {cv : X} {args : List (Bool × X)} {lay : List CS} {f : FuncId} {aft : DA} {rest : List AO} {fps : List (List Nat × List Nat)} {K : St → Prop} {ex : List Nat}
def e0f : AV → Bool
  | .var ks => a0i ks
  | _ => false
@[go_sem] theorem f0g {ks : List AV} : e0f (.var ks) = a0i ks := (rfl)
@[go_sem] theorem f2j {v : Value} : d7y (.lit v) = true := (rfl)
@[go_sem] theorem f0p {rd : List Nat} {n : Nat} : a30 rd (.t n) = rd.contains n := (rfl)
@[go_sem] theorem e90 {rd : List Nat} {v : Value} : a30 rd (.c v) = true := (rfl)
@[go_sem] theorem e9t {rd : List Nat} {n : Nat} : a30 rd (.f n) = true := (rfl)
@[go_sem] theorem f0l {rd : List Nat} {n : Nat} : a30 rd (.g n) = true := (rfl)
@[go_sem] theorem e3j {rd : List Nat} {t : Nat} {q : List Nat} {o e : Nat} : a2q rd (.ref t q o e) = rd.contains t := by simp only [a2q]
@[go_sem] theorem e3v {rd : List Nat} {t : Nat} {q : List Nat} {lo n e : Nat} : a2q rd (.bor t q lo n e) = rd.contains t := by simp only [a2q]
@[go_sem] theorem e70 {rd : List Nat} {f : FuncId} {a c : List AV} : a2q rd (.fn f a c) = (a10 rd a && a10 rd c) := by simp only [a2q]
@[go_sem] theorem e2n {rd : List Nat} {v : Value} : a2q rd (.lit v) = true := by simp only [a2q]
@[go_sem] theorem e97 {rd : List Nat} {n : Nat} {ks : List AV} : a2q rd (.sl n ks) = true := by simp only [a2q]
@[go_sem] theorem d90 {rd : List Nat} : a10 rd [] = true := by simp only [a10]
@[go_sem] theorem d8h {rd : List Nat} {k : AV} {ks : List AV} : a10 rd (k :: ks) = (a2q rd k && a10 rd ks) := by simp only [a10]
@[go_sem] theorem e3h {rd : List Nat} : c38 st rd args = args.all fun p => !p.1 && (d7y (rdv st p.2) && a30 rd p.2) := (rfl)
@[go_sem] theorem e1b {j : Nat} : a05 st j [] = st := (rfl)
@[go_sem] theorem d8u {j : Nat} {p : Bool × X} : a05 st j (p :: args) = a05 (st.put j (rdv st p.2)) (j + 1) args := (rfl)
@[go_sem] theorem e9p {rd : List Nat} {n : Nat} : c66 st rd n [] = true := (rfl)
@[go_sem] theorem f6p {rd : List Nat} {n k : Nat} : c66 st rd n (.p k :: lay) = (decide (k < n) && c66 st rd n lay) := (rfl)
@[go_sem] theorem f59 {rd : List Nat} {n : Nat} {y : X} : c66 st rd n (.x y :: lay) = ((a30 rd y && a2q rd (xv st y)) && c66 st rd n lay) := (rfl)
def dCx (P : Program) (G : Nat → Option Value) (N : Nat) (aft : DA) (ex : List Nat) (d : Option Nat) (cv : X) (args : List (Bool × X)) (lay : List CS) (rest : List AO) (fps : List (List Nat × List Nat)) (K : St → Prop) (st : St) : Prop :=
  d65 P G N aft ex d (.callx cv args lay []) fps (fun fps st => b0t aft.2 st ∧ b3p P G N aft rest fps K st) st
@[congr] theorem e4m {st' : St} (h : st = st') : dCx P G N aft ex d cv args lay rest fps K st = dCx P G N aft ex d cv args lay rest fps K st' := by rw [h]
@[go_sem] theorem e2a {tys : List TypeId} : b3p P G N aft (⟨d, .callx cv args lay tys, none⟩ :: rest) fps K st = dCx P G N aft [] d cv args lay rest fps K st := (rfl)
theorem d2c (rd : List Nat) {fs cs pre : List AV} {L : List (Nat × Nat)} {res : AV} {posts : List (Nat × AV)} (hA : ACallsX P G f pre res posts) (hpo : posts.map (·.1) = L.map (·.2))
    (hs : c38 st rd args = true ∧ a30 rd cv = true ∧ xv st cv = .fn f fs cs ∧ fnB P f = true ∧ (a10 rd fs && a10 rd cs) = true ∧ c66 st rd args.length lay = true ∧
      pX N st (a05 st (N + 2) args) [] [] (c09 N (a05 st (N + 2) args) fs lay cs) = some (pre, L) ∧ a0l res = true ∧ (posts.all fun p => e0f p.2) = true ∧
      (∀ t ∈ ex ++ rd, t < N) ∧ (∀ t ∈ d.toList, t < N) ∧ ∀ t ∈ L.map (·.1), t < N ∧ t ∈ rd)
    (h : b0t aft.2 (d2l st N ((L.map (·.1)).zip (posts.map (·.2))) d res) ∧ b3p P G N aft rest (fps ++ [(ex ++ (d.toList ++ rd), d.toList ++ L.map (·.1))]) K (d2l st N ((L.map (·.1)).zip (posts.map (·.2))) d res)) : dCx P G N aft ex d cv args lay rest fps K st := by
  obtain ⟨h1, h2, h3, h4, h5, h6, h7, h8, h9, h10, h11, h12⟩ := hs
  refine ⟨f, fs, cs, pre, L, res, posts, rd, h1, h2, h3, h4, h5, h6, h7, hA, h8, hpo, fun i av hm => ?_, h10, h11, h12, ?_⟩
  · have := List.all_eq_true.1 h9 _ hm
    cases av <;> simp only [e0f, Bool.false_eq_true] at this
    exact ⟨_, rfl, this⟩
  · cases d <;> exact h
end
def c96 (rs : List RV) (res : AV) (posts : List (Nat × AV)) : Exit → St → Prop
  | .normal, st | .ret, st => e1q rs st = some res ∧ ∀ p ∈ posts, st.s p.1 = p.2
  | _, _ => False
section
variable {rs : List RV} {res : AV} {posts : List (Nat × AV)}
@[congr] theorem e00 {e : Exit} {st' : St} (h2 : st = st') : c96 rs res posts e st = c96 rs res posts e st' := by rw [h2]
def poK : List (Nat × AV) → St → Prop
  | [], _ => True
  | p :: ps, st => st.s p.1 = p.2 ∧ poK ps st
@[congr] theorem f0i {ps : List (Nat × AV)} {st' : St} (h : st = st') : poK ps st = poK ps st' := by rw [h]
@[go_sem] theorem g0e : poK [] st = True := (rfl)
@[go_sem] theorem f1c {t : Nat} {v : AV} {ps : List (Nat × AV)} : poK ((t, v) :: ps) st = (st.s t = v ∧ poK ps st) := (rfl)
theorem d0s : ∀ {ps : List (Nat × AV)}, (∀ p ∈ ps, st.s p.1 = p.2) = poK ps st
  | [] => by simp [poK]
  | p :: ps => by simp only [List.mem_cons, forall_eq_or_imp, poK, d0s (ps := ps)]
@[go_sem] theorem g0v : c96 rs res posts .normal st = (e03 (rvL rs st) = some res ∧ poK posts st) := by rw [← d0s]; rfl
@[go_sem] theorem f77 : c96 rs res posts .ret st = (e03 (rvL rs st) = some res ∧ poK posts st) := by rw [← d0s]; rfl
theorem d0w {vs : List ResultVar} (h : c8e P N rs vs = true) : ∀ e st, c96 rs res posts e st → g3e P N vs res posts e st := by
  intro e st hq
  have key : e1q rs st = some res → b7j P N st vs = some res := by
    intro hk
    unfold e1q at hk
    cases hl : rvL rs st with
    | none => rw [hl] at hk; cases hk
    | some ks =>
      rw [hl] at hk
      simp only [b7j, b7k h hl]
      exact hk
  cases e <;> first | exact ⟨key hq.1, hq.2⟩ | exact hq
end
theorem ACallsX.of_walk {P : Program} {G : Nat → Option Value} {f : FuncId} {fn : Func} {c : Code} {N : Nat} {vs : List ResultVar} {rs : List RV} {ic : IC} (hord : P.follows .mixedOrders = true) (hf : P.funcs[f]? = some fn) (hb : fn.body = some c) (hN : fn.ntmps = N) (hrs : fn.results.toList = vs) (hnd : (vs.map rvT).Nodup)
    (he : b1i c = ic.ec) (hok : ic.ok P N = true) (hr : c8e P N rs vs = true) {pins : List Nat} (hpin : ic.pin pins = true) {pre : List AV} {res : AV} {posts : List (Nat × AV)} (hsz : pre.length ≤ N) (hpo : posts.map (·.1) = pins) (hpr : pins.all (fun t => !(vs.map rvT).contains t && decide (t < pre.length)) = true) (hnr : (posts.all fun p => a0l p.2) = true)
    (h : AW P G N ic (c96 rs res posts) (St.init pre)) : ACallsX P G f pre res posts :=
  a9d hf hb hN hrs hnd hsz (fun p hp => by
    have := List.all_eq_true.1 hpr p.1 (by rw [← hpo]; exact List.mem_map.2 ⟨p, hp, rfl⟩)
    simp only [Bool.and_eq_true, Bool.not_eq_true', decide_eq_true_eq] at this
    exact ⟨fun hm => by simp [hm] at this, this.2, List.all_eq_true.1 hnr p hp⟩) (by rw [hpo]; exact (d11 hord ic c _ _ he hok hpin h).mono (d0w hr))
end
end Go.Ideal
end
section
set_option linter.unusedVariables false
set_option linter.unusedSimpArgs false
namespace Go.Ideal
abbrev oo (d : Nat) (i : IOp) : AO := ⟨some d, .op i, none⟩
abbrev om (d t : Nat) : AO := ⟨some d, .op (.mv (.t t)), none⟩
abbrev ov (i : IOp) : AO := ⟨none, .op i, none⟩
abbrev og (d : Nat) (i : IOp) (j t : Nat) (b : Bool) : AO := ⟨some d, .op i, some (j, t, b)⟩
abbrev oc (d : Nat) (f : FuncId) (args : List (Bool × X)) (tys : List TypeId) : AO := ⟨some d, .call f args tys, none⟩
abbrev X.n (k : Int) : X := .c (.int .i64 k)
abbrev fnK : Type := Bool × Option Func × Option EC × Nat × List ResultVar × Bool × Bool × Bool
def fnL (P : Program) (f : FuncId) (fn : Func) (N : Nat) (rs : List RV) (vs : List ResultVar) (ic : IC) : fnK :=
  (P.follows .mixedOrders, P.funcs[f]?, fn.body.map b1i, fn.ntmps, fn.results.toList, decide ((vs.map rvT).Nodup), ic.ok P N, c8e P N rs vs)
def fnR (fn : Func) (N : Nat) (vs : List ResultVar) (ic : IC) : fnK := (true, some fn, some ic.ec, N, vs, true, true, true)
abbrev fnC (P : Program) (f : FuncId) (N : Nat) (rs : List RV) (ic : IC) : Prop :=
  ∀ {G : Nat → Option Value} {pre : List AV} {res : AV} (hsz : decide (pre.length ≤ N) = true) (hw : AW P G N ic (d82 rs res) (St.init pre)), ACalls P G f pre res
abbrev fnX (P : Program) (f : FuncId) (N : Nat) (rs : List RV) (vs : List ResultVar) (ic : IC) : Prop :=
  ∀ {G : Nat → Option Value} {pre : List AV} {res : AV} {posts : List (Nat × AV)} {pins : List Nat} (hpin : ic.pin pins = true) (hpo : posts.map (·.1) = pins)
    (hpr : pins.all (fun t => !(vs.map rvT).contains t && decide (t < pre.length)) = true) (hnr : (posts.all fun p => a0l p.2) = true) (hsz : decide (pre.length ≤ N) = true) (hw : AW P G N ic (c96 rs res posts) (St.init pre)), ACallsX P G f pre res posts
section
variable {P : Program} {f : FuncId} {N : Nat} {rs : List RV} {ic : IC}
theorem a1k (fn : Func) (vs : List ResultVar) (h : fnL P f fn N rs vs ic = fnR fn N vs ic) : fnC P f N rs ic := by
  intro G pre res hsz hw
  simp only [fnL, fnR, Prod.mk.injEq, Option.map_eq_some_iff, decide_eq_true_eq] at h
  obtain ⟨h1, h2, ⟨c, hc, he⟩, h4, h5, h6, h7, h8⟩ := h
  exact ACalls.of_walk h1 h2 hc h4 h5 h6 he h7 h8 (of_decide_eq_true hsz) hw
theorem a23 (fn : Func) {vs : List ResultVar} (h : fnL P f fn N rs vs ic = fnR fn N vs ic) : fnX P f N rs vs ic := by
  intro G pre res posts pins hpin hpo hpr hnr hsz hw
  simp only [fnL, fnR, Prod.mk.injEq, Option.map_eq_some_iff, decide_eq_true_eq] at h
  obtain ⟨h1, h2, ⟨c, hc, he⟩, h4, h5, h6, h7, h8⟩ := h
  exact ACallsX.of_walk h1 h2 hc h4 h5 h6 he h7 h8 hpin (of_decide_eq_true hsz) hpo hpr hnr hw
end
end Go.Ideal
end
