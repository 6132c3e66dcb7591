/- Part Qag of the proof: a machine with trees for values, its soundness, and walks on it. -/
import Derived.Test.YtfncabcldhemkaaGreatDoorQaf
import Derived.Test.YtfncabcldhemkaaGreatDoorProg
import Derived.Carry
import Derived.ChangeSame
import Derived.ChangeVars
import Derived.JoinedOf
import Derived.RowKit
import Derived.RowKitTokens
import Derived.LaidLaws
import Derived.LaidHandle
import Derived.Stop.Joined
import Derived.Handed
import Derived.SevenTiedAt
import Derived.Test.YtfncabcldhemkaaGreatDoorRows
import Derived.MakeChecks
set_option linter.unusedVariables false
set_option linter.unusedSimpArgs false
set_option maxRecDepth 10000
section
namespace Go.Ideal
section
variable {P : Program} {G : GG} {N : Nat} {st : St} {K : St -> Prop} {T : List (Nat × AV)} {u : Nat}
def cvK (N d : Nat) (o : Option (St × Nat × Nat × List AV)) : Option St := match o with
 | some r => gO (r.2.1 = 1 /\ 0 < r.2.2.1) (some ((r.1.put N (.own r.2.1 r.2.2.1 r.2.2.2)).thru N d (.own r.2.1 r.2.2.1 r.2.2.2)))
 | none => none
@[congr] theorem e46 {d : Nat} {o o' : Option (St × Nat × Nat × List AV)} (h : o = o') : cvK N d o = cvK N d o' := by rw [h]
@[go_sem] theorem f1x {d sz n : Nat} {ks : List AV} : cvK N d (some (st, sz, n, ks)) = gO (sz = 1 /\ 0 < n) (some ((st.put N (.own sz n ks)).thru N d (.own sz n ks))) := (rfl)
@[go_sem] theorem e5t {d : Nat} {s t : TypeId} {x : X} : evS G N (some d) (.conv s t .keep x) st = cvK N d (tkS st N x (rdv st x)) := by
 simp only [evS, a10, Ev.run_bind, c4d, Option.bind]
 cases tkS st N x (rdv st x) with
 | none => rfl
 | some r =>
  simp only [Option.map, a2m, St.put_s, if_true, a0l, Ev.run_bind, Option.bind, cvK, gO]
  by_cases h1 : r.2.1 = 1
  ·by_cases h2 : 0 < r.2.2.1
   ·simp only [h1, h2, beq_self_eq_true, decide_true, Bool.and_self, if_true, and_self, a9o]
   ·simp only [h1, h2, beq_self_eq_true, decide_false, Bool.and_false, Bool.false_eq_true, if_false, and_false]
  ·have : (r.2.1 == 1) = false := by simpa using h1
   simp only [this, Bool.false_and, Bool.false_eq_true, if_false, h1, false_and]
def lkB {α : Type} (b : Bool) (v : α) (o : Option α) : Option α := if b then some v else o
@[congr] theorem e7h {α : Type} {b b' : Bool} {v : α} {o : Option α} (h : b = b') : lkB b v o = lkB b' v o := by rw [h]
@[go_sem] theorem g6w {α : Type} {v : α} {o : Option α} : lkB true v o = some v := (rfl)
@[go_sem] theorem g6v {α : Type} {v : α} {o : Option α} : lkB false v o = o := (rfl)
@[go_sem] theorem f3t {α : Type} {a b : Nat} {v : α} {T : List (Nat × α)} : List.lookup a ((b, v) :: T) = lkB (a == b) v (List.lookup a T) := by
 simp only [List.lookup_cons, lkB]
 cases a == b <;> rfl
def d8q (b : Bool) (o : Option AV) (T : List (Nat × AV)) (v : AV) : AV := if b then (match o with
 | some av => av
 | none => a1p (b2l T) v) else .dead
@[congr] theorem e2a {b b' : Bool} {o o' : Option AV} {v : AV} (h : b = b') (h2 : o = o') : d8q b o T v = d8q b' o' T v := by rw [h, h2]
@[go_sem] theorem g4w {o : Option AV} {v : AV} : d8q false o T v = .dead := (rfl)
@[go_sem] theorem g4y {av v : AV} : d8q true (some av) T v = av := (rfl)
@[go_sem] theorem g4x {v : AV} : d8q true none T v = a1p (b2l T) v := (rfl)
@[go_sem] theorem f9h : (st.lentS N T).s u = d8q (decide (u < N)) (T.lookup u) T (st.s u) := by
 simp only [St.lentS, d8q, decide_eq_true_eq]
 cases T.lookup u <;> rfl
@[go_sem] theorem f3m : (st.lentS N T).ep u = st.ep u := (rfl)
def c3o (o : Option AV) : Bool := match o with
 | some (.var ks) => !a0z ks
 | _ => false
@[congr] theorem d8r {o o' : Option AV} (h : o = o') : c3o o = c3o o' := by rw [h]
@[go_sem] theorem f9f : c3o none = false := (rfl)
@[go_sem] theorem f9g {ks : List AV} : c3o (some (.var ks)) = !a0z ks := (rfl)
theorem b99 {t i : Nat} {q : List Nat} : b2l T t (i :: q) = c3o (T.lookup t) := by
 simp only [b2l, c3o]
 cases T.lookup t with
 | none => rfl
 | some av => cases av <;> rfl
def d6w (b : Bool) (v : AV) : AV := if b then .dead else v
@[congr] theorem e10 {b b' : Bool} {v : AV} (h : b = b') : d6w b v = d6w b' v := by rw [h]
@[go_sem] theorem g4r {v : AV} : d6w true v = .dead := (rfl)
@[go_sem] theorem g4q {v : AV} : d6w false v = v := (rfl)
@[go_sem] theorem e15 {t o e : Nat} : a1p (b2l T) (.ref t [] o e) = .ref t [] o e := by simp [a1p, b2l]
@[go_sem] theorem e16 {t i o e : Nat} {q : List Nat} : a1p (b2l T) (.ref t (i :: q) o e) = d6w (c3o (T.lookup t)) (.ref t (i :: q) o e) := by simp only [a1p, b99, d6w]
@[go_sem] theorem e11 {t lo n e : Nat} : a1p (b2l T) (.bor t [] lo n e) = .bor t [] lo n e := by simp [a1p, b2l]
@[go_sem] theorem e12 {t i lo n e : Nat} {q : List Nat} : a1p (b2l T) (.bor t (i :: q) lo n e) = d6w (c3o (T.lookup t)) (.bor t (i :: q) lo n e) := by simp only [a1p, b99, d6w]
def c7z (b : Bool) (o : Option (List AV × List (Nat × Nat))) : Option (List AV × List (Nat × Nat)) := if b then o else none
@[congr] theorem e2p {b b' : Bool} {o : Option (List AV × List (Nat × Nat))} (h : b = b') : c7z b o = c7z b' o := by rw [h]
@[go_sem] theorem g5g {o : Option (List AV × List (Nat × Nat))} : c7z true o = o := (rfl)
section
variable {st1 : St} {acc : List AV} {L : List (Nat × Nat)} {es : List (Option Nat × AV)}
def pxV (N : Nat) (st1 st : St) (acc : List AV) (L : List (Nat × Nat)) (t : Nat) (v v1 : AV) (es : List (Option Nat × AV)) : Option (List AV × List (Nat × Nat)) := match v, v1 with
 | .var (k :: ks), .var (_ :: _) => pX N st1 st (acc ++ [.var (k :: ks)]) (L ++ [(t, acc.length)]) es
 | _, _ => none
def pxR (N : Nat) (st1 st : St) (acc : List AV) (L : List (Nat × Nat)) (t e : Nat) (o : Option Nat) (es : List (Option Nat × AV)) : Option (List AV × List (Nat × Nat)) := match o with
 | some j => c7z (decide (e = st.ep t)) (pX N st1 st (acc ++ [.ref j [] 0 0]) L es)
 | none => c7z (decide (e = st.ep t) && decide (t < N)) (pxV N st1 st acc L t (st.s t) (st1.s t) es)
def pxT (N : Nat) (st1 st : St) (acc : List AV) (L : List (Nat × Nat)) (o : Option AV) (es : List (Option Nat × AV)) : Option (List AV × List (Nat × Nat)) := match o with
 | some p => pX N st1 st (acc ++ [p]) L es
 | none => none
@[congr] theorem e9d {t : Nat} {v v' v1 v1' : AV} (h : v = v') (h1 : v1 = v1') : pxV N st1 st acc L t v v1 es = pxV N st1 st acc L t v' v1' es := by rw [h, h1]
@[congr] theorem e9b {t e : Nat} {o o' : Option Nat} (h : o = o') : pxR N st1 st acc L t e o es = pxR N st1 st acc L t e o' es := by rw [h]
@[congr] theorem e9c {o o' : Option AV} (h : o = o') : pxT N st1 st acc L o es = pxT N st1 st acc L o' es := by rw [h]
@[congr] theorem f4n {acc' : List AV} {L' : List (Nat × Nat)} {es' : List (Option Nat × AV)} (h1 : acc = acc') (h2 : L = L') (h3 : es = es') : pX N st1 st acc L es = pX N st1 st acc' L' es' := by rw [h1, h2, h3]
@[go_sem] theorem g05 {t : Nat} {k k1 : AV} {ks ks1 : List AV} : pxV N st1 st acc L t (.var (k :: ks)) (.var (k1 :: ks1)) es = pX N st1 st (acc ++ [.var (k :: ks)]) (L ++ [(t, acc.length)]) es := (rfl)
@[go_sem] theorem g65 {t e j : Nat} : pxR N st1 st acc L t e (some j) es = c7z (decide (e = st.ep t)) (pX N st1 st (acc ++ [.ref j [] 0 0]) L es) := (rfl)
@[go_sem] theorem g64 {t e : Nat} : pxR N st1 st acc L t e none es = c7z (decide (e = st.ep t) && decide (t < N)) (pxV N st1 st acc L t (st.s t) (st1.s t) es) := (rfl)
@[go_sem] theorem g66 {p : AV} : pxT N st1 st acc L (some p) es = pX N st1 st (acc ++ [p]) L es := (rfl)
@[go_sem] theorem g5k : pX N st1 st acc L [] = some (acc, L) := (rfl)
@[go_sem] theorem g70 {k : Nat} {av : AV} : pX N st1 st acc L ((some k, av) :: es) = c7z (a0k av) (pX N st1 st (acc ++ [av]) L es) := by
 simp only [pX, c7z]
@[go_sem] theorem g5l {t e : Nat} : pX N st1 st acc L ((none, .ref t [] 0 e) :: es) = pxR N st1 st acc L t e (L.lookup t) es := by
 simp only [pX, pxR, c7z, pxV, decide_eq_true_eq, Bool.and_eq_true]
 cases L.lookup t <;> rfl
@[go_sem] theorem g5j {v : Value} : pX N st1 st acc L ((none, .lit v) :: es) = pX N st1 st (acc ++ [.lit v]) L es := (rfl)
@[go_sem] theorem g61 {n : Nat} {ks : List AV} : pX N st1 st acc L ((none, .sl n ks) :: es) = pX N st1 st (acc ++ [.sl n ks]) L es := (rfl)
@[go_sem] theorem g60 {n : Nat} {ks : List AV} : pX N st1 st acc L ((none, .ip ks n) :: es) = pX N st1 st (acc ++ [.ip ks n]) L es := (rfl)
@[go_sem] theorem g5h {ks : List AV} : pX N st1 st acc L ((none, .agg ks) :: es) = c7z (a0z ks) (pX N st1 st (acc ++ [.agg ks]) L es) := by
 simp only [pX, trA, a0v, c7z]
 by_cases h : a0z ks = true <;> simp [h]
@[go_sem] theorem g5i {t : TypeId} {k : AV} : pX N st1 st acc L ((none, .ifc t k) :: es) = c7z (a0v k) (pX N st1 st (acc ++ [.ifc t k]) L es) := by
 simp only [pX, trA, a0v, c7z]
 by_cases h : a0v k = true <;> simp [h]
@[go_sem] theorem g6z {f : FuncId} {fs cs : List AV} : pX N st1 st acc L ((none, .fn f fs cs) :: es) = pxT N st1 st acc L (trA st L (.fn f fs cs)) es := (rfl)
def fn2 (f : FuncId) (a b : Option (List AV)) : Option AV := match a, b with
 | some a, some b => some (.fn f a b)
 | _, _ => none
@[go_sem] theorem g6o {f : FuncId} {a b : List AV} : fn2 f (some a) (some b) = some (.fn f a b) := (rfl)
@[go_sem] theorem g51 {f : FuncId} {fs cs : List AV} : trA st L (.fn f fs cs) = fn2 f (trL st L fs) (trL st L cs) := by
 simp only [trA, fn2]
 cases trL st L fs <;> cases trL st L cs <;> rfl
@[go_sem] theorem g2c : trL st L [] = some [] := by simp only [trL]
@[go_sem] theorem f6d {k : AV} {ks : List AV} : trL st L (k :: ks) = avs (trA st L k) (trL st L ks) := by
 simp only [trL, avs]
 cases trA st L k <;> cases trL st L ks <;> rfl
@[go_sem] theorem g2a {v : Value} : trA st L (.lit v) = some (.lit v) := by simp only [trA, a0v, if_true]
@[go_sem] theorem g53 {n : Nat} {ks : List AV} : trA st L (.sl n ks) = some (.sl n ks) := by simp only [trA, a0v, if_true]
@[go_sem] theorem g52 {n : Nat} {ks : List AV} : trA st L (.ip ks n) = some (.ip ks n) := by simp only [trA, a0v, if_true]
def f0w (b : Bool) (l : Option Nat) (o : Nat) : Option AV := if b then l.map fun i => .ref i [] o 0 else none
@[congr] theorem e3q {b b' : Bool} {l l' : Option Nat} {o : Nat} (h : b = b') (h2 : l = l') : f0w b l o = f0w b' l' o := by rw [h, h2]
@[go_sem] theorem g54 {i o : Nat} : f0w true (some i) o = some (.ref i [] o 0) := (rfl)
@[go_sem] theorem g2b {t o e : Nat} : trA st L (.ref t [] o e) = f0w (decide (e = st.ep t)) (L.lookup t) o := by simp [trA, f0w]
@[go_sem] theorem g74 {t : Nat} : xv st (.t t) = st.s t := (rfl)
@[go_sem] theorem g71 {v : Value} : xv st (.c v) = .lit v := (rfl)
@[go_sem] theorem g72 {n : Nat} : xv st (.f n) = .fn n [] [] := (rfl)
@[go_sem] theorem g73 {n : Nat} : xv st (.g n) = .lit (.pointer (some ⟨n, 0, none⟩)) := (rfl)
@[go_sem] theorem f7g {fs cs : List AV} {lay : List CS} : c1i N st fs lay cs = fs.map (fun a => (none, a)) ++ (lay.map (c9t N st) ++ cs.map (fun a => (none, a))) := (rfl)
@[go_sem] theorem g24 {k : Nat} : c9t N st (.p k) = (some k, st.s (N + 2 + k)) := (rfl)
@[go_sem] theorem g25 {y : X} : c9t N st (.x y) = (none, xv st y) := (rfl)
end
def f2w (st : St) (N : Nat) (T : List (Nat × AV)) (d : Option Nat) (res : AV) : St := match d with
 | some d => (st.lentS N T).thru N d res
 | none => st.lentS N T
@[go_sem] theorem e57 {d : Nat} {res : AV} : f2w st N T (some d) res = (st.lentS N T).thru N d res := (rfl)
@[go_sem] theorem e56 {res : AV} : f2w st N T none res = st.lentS N T := (rfl)
def d8o : AV -> Bool
 | .var _ => true
 | _ => false
def clx (P : Program) (G : GG) (N : Nat) (d : Option Nat) (f : FuncId) (pre : List AV) (L : List (Nat × Nat)) (st1 st2 : St) (K : St -> Prop) : Prop :=
 ∃ res posts, ACallsX P G f pre res posts /\ a0k res = true /\ posts.map (·.1) = L.map (·.2) /\ (posts.all fun p => d8o p.2) = true /\ K (f2w (if a09 res && posts.all fun p => a09 p.2 then st1 else st2) N ((L.map (·.1)).zip (posts.map (·.2))) d res)
def e05 (P : Program) (G : GG) (N : Nat) (d : Option Nat) (f : FuncId) (st1 st2 : St) (o : Option (List AV × List (Nat × Nat))) (K : St -> Prop) : Prop := match o with
 | some x => clx P G N d f x.1 x.2 st1 st2 K
 | none => False
def d7v (P : Program) (G : GG) (N : Nat) (d : Option Nat) (v : AV) (lay : List CS) (st1 st2 : St) (K : St -> Prop) : Prop := match v with
 | .fn f fs cs => fnB P f = true /\ e05 P G N d f st1 st2 (pX N st1 st2 [] [] (c1i N st2 fs lay cs)) K
 | _ => False
def d37 (P : Program) (G : GG) (N : Nat) (d : Option Nat) (cv : X) (lay : List CS) (o1 o2 : Option St) (K : St -> Prop) : Prop := match o1, o2 with
 | some st1, some st2 => d7v P G N d (xv st2 cv) lay st1 st2 K
 | _, _ => False
def d7w (P : Program) (G : GG) (N : Nat) (d : Option Nat) (cv : X) (args : List (Bool × X)) (lay : List CS) (o1 : Option St) (K : St -> Prop) : Prop := d37 P G N d cv lay o1 (pss N (N + 2) args o1) K
section
variable {d : Option Nat} {cv : X} {args : List (Bool × X)} {lay : List CS} {st1 st2 : St} {f : FuncId}
@[congr] theorem e03 {o o' : Option St} (h : o = o') : d7w P G N d cv args lay o K = d7w P G N d cv args lay o' K := by rw [h]
@[congr] theorem e04 {o1 o o' : Option St} (h : o = o') : d37 P G N d cv lay o1 o K = d37 P G N d cv lay o1 o' K := by rw [h]
@[congr] theorem e02 {v v' : AV} (h : v = v') : d7v P G N d v lay st1 st2 K = d7v P G N d v' lay st1 st2 K := by rw [h]
@[congr] theorem e06 {o o' : Option (List AV × List (Nat × Nat))} (h : o = o') : e05 P G N d f st1 st2 o K = e05 P G N d f st1 st2 o' K := by rw [h]
@[congr] theorem e42 {pre pre' : List AV} {L L' : List (Nat × Nat)} (h : pre = pre') (h2 : L = L') : clx P G N d f pre L st1 st2 K = clx P G N d f pre' L' st1 st2 K := by rw [h, h2]
@[go_sem] theorem e4z : d7w P G N d cv args lay (some st) K = d37 P G N d cv lay (some st) (pss N (N + 2) args (some st)) K := (rfl)
@[go_sem] theorem e40 : d37 P G N d cv lay (some st1) (some st2) K = d7v P G N d (xv st2 cv) lay st1 st2 K := (rfl)
@[go_sem] theorem f6x {fs cs : List AV} : d7v P G N d (.fn f fs cs) lay st1 st2 K = (fnB P f = true /\ e05 P G N d f st1 st2 (pX N st1 st2 [] [] (c1i N st2 fs lay cs)) K) := (rfl)
@[go_sem] theorem e41 {pre : List AV} {L : List (Nat × Nat)} : e05 P G N d f st1 st2 (some (pre, L)) K = clx P G N d f pre L st1 st2 K := (rfl)
@[go_sem] theorem e0h {tys : List TypeId} {rest : List AO} : b22 P G N (⟨d, .callx cv args lay tys, none⟩ :: rest) K st = d7w P G N d cv args lay (gvs N (N + 2) args (some st)) (b22 P G N rest K) := by
 simp only [b22, b3d, b9k, c7b]
 rw [<- a9n]
 have hvar : ∀ {posts : List (Nat × AV)}, (∀ i av, (i, av) ∈ posts -> ∃ ks, av = .var ks) ↔ (posts.all fun p => d8o p.2) = true := by
  intro posts
  simp only [List.all_eq_true]
  constructor
  ·rintro h ⟨i, av⟩ hm
   obtain ⟨ks, rfl⟩ := h i av hm
   rfl
  ·intro h i av hm
   have := h _ hm
   cases av <;> simp [d8o] at this
   exact ⟨_, rfl⟩
 apply propext
 constructor
 ·rintro ⟨f, fs, cs, st1, st2, L, pre, res, posts, st3, h1, h2, h3, h4, h5, h6, h7, h8, h9, h10, h11⟩
  have e2 := a40 (N := N) args (N + 2) st1
  rw [h2] at e2
  simp only [h1, Option.map, d7w, d37, <- e2, h3, d7v, h5, e05]
  refine ⟨h4, res, posts, h6, h7, h8, hvar.1 h9, ?_⟩
  have : f2w (if a09 res && posts.all fun p => a09 p.2 then st1 else st2) N ((L.map (·.1)).zip (posts.map (·.2))) d res = st3 := by
   cases d with
   | none =>
    simp only [c4p, Ev.run_pure, Option.some.injEq, Prod.mk.injEq, true_and] at h10
    exact h10
   | some d =>
    simp only [c4p, a9o, Option.some.injEq, Prod.mk.injEq, true_and] at h10
    exact h10
  rw [this]; exact h11
 ·cases h1 : (a60 N (N + 2) args).run st with
  | none => intro h; simp only [Option.map, d7w, d37] at h
  | some r =>
   obtain ⟨_, st1⟩ := r
   simp only [Option.map, d7w]
   rw [<- a40]
   cases h2 : (a4j N (N + 2) args).run st1 with
   | none => intro h; simp only [Option.map, d37] at h
   | some r2 =>
    obtain ⟨_, st2⟩ := r2
    simp only [Option.map, d37]
    cases h3 : xv st2 cv <;> simp only [d7v] <;> try exact False.elim
    rename_i f fs cs
    rintro ⟨h4, h⟩
    cases h5 : pX N st1 st2 [] [] (c1i N st2 fs lay cs) with
    | none => rw [h5] at h; exact h.elim
    | some x =>
     obtain ⟨pre, L⟩ := x
     rw [h5] at h
     obtain ⟨res, posts, h6, h7, h8, h9, h10⟩ := h
     refine ⟨f, fs, cs, st1, st2, L, pre, res, posts, _, rfl, h2, h3, h4, h5, h6, h7, h8, hvar.2 h9, ?_, h10⟩
     cases d <;> rfl
end
section
variable {d : Option Nat} {cv : X} {args : List (Bool × X)} {lay : List CS} {f : FuncId} {aft : DA} {rest : List AO} {fps : List (List Nat × List Nat)} {K : St -> Prop} {ex : List Nat}
def g2k : AV -> Bool
 | .var ks => a0z ks
 | _ => false
@[go_sem] theorem f0z {ks : List AV} : g2k (.var ks) = a0z ks := (rfl)
@[go_sem] theorem f3n {v : Value} : d48 (.lit v) = true := (rfl)
@[go_sem] theorem f0j {rd : List Nat} {n : Nat} : a6y rd (.t n) = rd.contains n := (rfl)
@[go_sem] theorem f0g {rd : List Nat} {v : Value} : a6y rd (.c v) = true := (rfl)
@[go_sem] theorem f0h {rd : List Nat} {n : Nat} : a6y rd (.f n) = true := (rfl)
@[go_sem] theorem f0i {rd : List Nat} {n : Nat} : a6y rd (.g n) = true := (rfl)
@[go_sem] theorem e26 {rd : List Nat} {t : Nat} {q : List Nat} {o e : Nat} : a39 rd (.ref t q o e) = rd.contains t := by simp only [a39]
@[go_sem] theorem e24 {rd : List Nat} {t : Nat} {q : List Nat} {lo n e : Nat} : a39 rd (.bor t q lo n e) = rd.contains t := by simp only [a39]
@[go_sem] theorem e9i {rd : List Nat} {f : FuncId} {a c : List AV} : a39 rd (.fn f a c) = (a3w rd a && a3w rd c) := by simp only [a39]
@[go_sem] theorem e25 {rd : List Nat} {v : Value} : a39 rd (.lit v) = true := by simp only [a39]
@[go_sem] theorem e9j {rd : List Nat} {n : Nat} {ks : List AV} : a39 rd (.sl n ks) = true := by simp only [a39]
@[go_sem] theorem d9j {rd : List Nat} : a3w rd [] = true := by simp only [a3w]
@[go_sem] theorem d63 {rd : List Nat} {k : AV} {ks : List AV} : a3w rd (k :: ks) = (a39 rd k && a3w rd ks) := by simp only [a3w]
@[go_sem] theorem e2b {rd : List Nat} : c54 st rd args = args.all fun p => !p.1 && (d48 (rdv st p.2) && a6y rd p.2) := (rfl)
@[go_sem] theorem d9c {j : Nat} : a2a st j [] = st := (rfl)
@[go_sem] theorem d60 {j : Nat} {p : Bool × X} : a2a st j (p :: args) = a2a (st.put j (rdv st p.2)) (j + 1) args := (rfl)
@[go_sem] theorem e7a {rd : List Nat} {n : Nat} : c52 st rd n [] = true := (rfl)
@[go_sem] theorem f9a {rd : List Nat} {n k : Nat} : c52 st rd n (.p k :: lay) = (decide (k < n) && c52 st rd n lay) := (rfl)
@[go_sem] theorem f9b {rd : List Nat} {n : Nat} {y : X} : c52 st rd n (.x y :: lay) = ((a6y rd y && a39 rd (xv st y)) && c52 st rd n lay) := (rfl)
def dCx (P : Program) (G : GG) (N : Nat) (aft : DA) (ex : List Nat) (d : Option Nat) (cv : X) (args : List (Bool × X)) (lay : List CS) (rest : List AO) (fps : List (List Nat × List Nat)) (K : St -> Prop) (st : St) : Prop :=
 d3m P G N aft ex d (.callx cv args lay []) fps (fun fps st => b0r aft.2 st /\ b1b P G N aft rest fps K st) st
@[congr] theorem e5a {st' : St} (h : st = st') : dCx P G N aft ex d cv args lay rest fps K st = dCx P G N aft ex d cv args lay rest fps K st' := by rw [h]
@[go_sem] theorem e1e {tys : List TypeId} : b1b P G N aft (⟨d, .callx cv args lay tys, none⟩ :: rest) fps K st = dCx P G N aft [] d cv args lay rest fps K st := (rfl)
end
def c8m (rs : List RV) (res : AV) (posts : List (Nat × AV)) : Exit -> St -> Prop
 | .normal, st | .ret, st => e3b rs st = some res /\ ∀ p ∈ posts, st.s p.1 = p.2
 | _, _ => False
section
variable {rs : List RV} {res : AV} {posts : List (Nat × AV)}
@[congr] theorem d77 {e : Exit} {st' : St} (h2 : st = st') : c8m rs res posts e st = c8m rs res posts e st' := by rw [h2]
def poK : List (Nat × AV) -> St -> Prop
 | [], _ => True
 | p :: ps, st => st.s p.1 = p.2 /\ poK ps st
@[congr] theorem e83 {ps : List (Nat × AV)} {st' : St} (h : st = st') : poK ps st = poK ps st' := by rw [h]
@[go_sem] theorem g0o : poK [] st = True := (rfl)
@[go_sem] theorem f4p {t : Nat} {v : AV} {ps : List (Nat × AV)} : poK ((t, v) :: ps) st = (st.s t = v /\ poK ps st) := (rfl)
theorem c6t : ∀ {ps : List (Nat × AV)}, (∀ p ∈ ps, st.s p.1 = p.2) = poK ps st
 | [] => by simp [poK]
 | p :: ps => by simp only [List.mem_cons, forall_eq_or_imp, poK, c6t (ps := ps)]
@[go_sem] theorem f7h : c8m rs res posts .normal st = (e0b (rvL rs st) = some res /\ poK posts st) := by rw [<- c6t]; rfl
@[go_sem] theorem f7i : c8m rs res posts .ret st = (e0b (rvL rs st) = some res /\ poK posts st) := by rw [<- c6t]; rfl
theorem c5o {vs : List ResultVar} (h : c4f P N rs vs = true) : ∀ e st, c8m rs res posts e st -> g30 P N vs res posts e st := by
 intro e st hq
 have key : e3b rs st = some res -> b8x P N st vs = some res := by
  intro hk
  unfold e3b at hk
  cases hl : rvL rs st with
  | none => rw [hl] at hk; cases hk
  | some ks =>
   rw [hl] at hk
   simp only [b8x, b82 h hl]
   exact hk
 cases e <;> first | exact ⟨key hq.1, hq.2⟩ | exact hq
end
theorem ACallsX.of_walk {P : Program} {G : GG} {f : FuncId} {fn : Func} {c : Code} {N : Nat} {vs : List ResultVar} {rs : List RV} {ic : IC} (hord : P.follows .mixedOrders = true) (hf : P.funcs[f]? = some fn) (hb : fn.body = some c) (hN : fn.ntmps = N) (hrs : fn.results.toList = vs) (hnd : (vs.map rvT).Nodup)
  (he : b2k c = ic.ec) (hok : ic.ok P N = true) (hr : c4f P N rs vs = true) {pins : List Nat} (hpin : ic.pin pins = true) {pre : List AV} {res : AV} {posts : List (Nat × AV)} (hsz : pre.length <= N) (hpo : posts.map (·.1) = pins) (hpr : pins.all (fun t => !(vs.map rvT).contains t && decide (t < pre.length)) = true) (hnr : (posts.all fun p => a0k p.2) = true)
  (h : AW P G N ic (c8m rs res posts) (St.init pre)) : ACallsX P G f pre res posts :=
 b04 hf hb hN hrs hnd hsz (fun p hp => by
  have := List.all_eq_true.1 hpr p.1 (by rw [<- hpo]; exact List.mem_map.2 ⟨p, hp, rfl⟩)
  simp only [Bool.and_eq_true, Bool.not_eq_true', decide_eq_true_eq] at this
  exact ⟨fun hm => by simp [hm] at this, this.2, List.all_eq_true.1 hnr p hp⟩) (by rw [hpo]; exact (c67 hord ic c _ _ he hok hpin h).mono (c5o hr))
end
end Go.Ideal
end
section
namespace Go.Ideal
abbrev oo (d : Nat) (i : IOp) : AO := ⟨some d, .op i, none⟩
abbrev om (d t : Nat) : AO := ⟨some d, .op (.mv (.t t)), none⟩
abbrev ov (i : IOp) : AO := ⟨none, .op i, none⟩
abbrev og (d : Nat) (i : IOp) (j t : Nat) (b : Bool) : AO := ⟨some d, .op i, some (j, t, b)⟩
abbrev oc (d : Nat) (f : FuncId) (args : List (Bool × X)) (tys : List TypeId) : AO := ⟨some d, .call f args tys, none⟩
abbrev X.n (k : Int) : X := .c (.int .i64 k)
abbrev fnK : Type := Bool × Option Func × Option EC × Nat × List ResultVar × Bool × Bool × Bool
def fnL (P : Program) (f : FuncId) (fn : Func) (N : Nat) (rs : List RV) (vs : List ResultVar) (ic : IC) : fnK :=
 (P.follows .mixedOrders, P.funcs[f]?, fn.body.map b2k, fn.ntmps, fn.results.toList, decide ((vs.map rvT).Nodup), ic.ok P N, c4f P N rs vs)
def fnR (fn : Func) (N : Nat) (vs : List ResultVar) (ic : IC) : fnK := (true, some fn, some ic.ec, N, vs, true, true, true)
abbrev fnC (P : Program) (f : FuncId) (N : Nat) (rs : List RV) (ic : IC) : Prop :=
 ∀ {G : GG} {pre : List AV} {res : AV} (hsz : decide (pre.length <= N) = true) (hw : AW P G N ic (d76 rs res) (St.init pre)), ACalls P G f pre res
section
variable {P : Program} {f : FuncId} {N : Nat} {rs : List RV} {ic : IC}
theorem a0p (fn : Func) (vs : List ResultVar) (h : fnL P f fn N rs vs ic = fnR fn N vs ic) : fnC P f N rs ic := by
 intro G pre res hsz hw
 simp only [fnL, fnR, Prod.mk.injEq, Option.map_eq_some_iff, decide_eq_true_eq] at h
 obtain ⟨h1, h2, ⟨c, hc, he⟩, h4, h5, h6, h7, h8⟩ := h
 exact ACalls.of_walk h1 h2 hc h4 h5 h6 he h7 h8 (of_decide_eq_true hsz) hw
end
end Go.Ideal
end
section
namespace Go.Ideal.Tryz
noncomputable abbrev pg : Program := Go.Proofs.Tryz.prog
def a4f : IC := (.seq (.seq (.reg [om 12 5,
 om 13 0,
 oo 14 (.len 74 false (.t 13)),
 oo 15 (.bin .lss 3 0 (.t 12) (.t 14) 3)]) (.cond (.t 15) .skip (.exit 0))) (.seq (.block 1 (.seq (.draw [om 18 0,
 om 19 5,
 oo 20 (.iaddr 74 1 (.t 18) (.t 19)),
 oo 21 (.load 3 none (.t 20)),
 om 22 1,
 om 23 5,
 oo 24 (.iaddr 74 1 (.t 22) (.t 23)),
 oo 25 (.load 3 none (.t 24)),
 oo 26 (.bin .eql 3 0 (.t 21) (.t 25) 3),
 oo 6 (.asg (.t 26))] [[], [], [0, 1], [2], [], [], [4, 5], [6], [3, 7], [8, 0, 1, 2, 3, 4, 5, 6, 7, 8]]) (.seq (.reg [om 27 6,
 oo 28 (.un .not 4 (.t 27))]) (.cond (.t 28) (.seq (.reg [oo 4 (.asg (.c (.bool false)))]) .ret) .skip)))) (.reg [om 16 5,
 oo 17 (.bin .add 3 0 (.t 16) (.n 1) 3),
 oo 5 (.asg (.t 17))])))
def a4x : IC := (.seq (.reg [oo 4 (.asg (.c (.bool false)))]) (.seq (.seq (.reg [om 7 0,
 oo 8 (.len 74 false (.t 7)),
 om 9 1,
 oo 10 (.len 74 false (.t 9)),
 oo 11 (.bin .neq 3 0 (.t 8) (.t 10) 3)]) (.cond (.t 11) (.seq (.reg [oo 4 (.asg (.c (.bool false)))]) .ret) .skip)) (.seq (.seq (.reg [oo 5 (.asg (.n 0))]) (.block 0 (.loop a4f))) (.seq (.reg [oo 4 (.asg (.c (.bool true)))]) .ret))))
abbrev b28 : Nat := 78
theorem b0s : fnC pg 78 29 [(.tmp 4)] a4x := a0p Go.Proofs.Tryz.f78 [(.tmp 4)] (by kernel_rfl)
@[go_sem] theorem c3r : fnB pg 78 = true := by kernel_rfl
def b1v : IC := (.seq (.reg [oo 3 (.box 31 3 (.t 1)),
 oo 4 (.asg (.c (.bool false)))]) (.seq (.draw [om 5 0,
 oc 6 57 [(false, (.t 5))] [35],
 oo 7 (.load 31 (some 3) (.t 3)),
 oc 8 56 [(false, (.t 6)), (false, (.t 7))] [31, 31],
 oo 4 (.asg (.t 8))] [[], [0], [], [1, 2, 1], [3, 3, 0, 1, 2, 3]]) .ret))
abbrev b03 : Nat := 18
theorem b43 : fnC pg 18 9 [(.tmp 4)] b1v := a0p Go.Proofs.Tryz.f18 [(.tmp 4)] (by kernel_rfl)
@[go_sem] theorem c89 : fnB pg 18 = true := by kernel_rfl
def a9g : IC := (.seq (.reg [oo 4 (.alloc 31 [.lit (.int .i64 0), .lit (.bool false), .lit (.int .i64 0)])]) (.seq (.seq (.reg [om 5 0,
 oo 6 (.bin .eql 3 0 (.t 5) (.n 0) 3)]) (.cond (.t 6) (.seq (.reg [oc 7 43 [] [],
 ov (.store 31 3 (.t 4) (.t 7))]) .ret) .skip)) (.seq (.reg [om 8 0,
 om 9 1,
 oo 10 (.build 31 [.lit (.int .i64 0), .lit (.bool false), .lit (.int .i64 0)] [(0, 0, 1, (.t 8)), (1, 1, 1, (.c (.bool true))), (2, 2, 1, (.t 9))]),
 ov (.store 31 3 (.t 4) (.t 10))]) .ret)))
abbrev a8w : Nat := 35
theorem b2v : fnC pg 35 11 [(.cells 4 3)] a9g := a0p Go.Proofs.Tryz.f35 [(.cell 4 31)] (by kernel_rfl)
@[go_sem] theorem c6f : fnB pg 35 = true := by kernel_rfl
def b1r : IC := (.seq (.reg [oo 0 (.alloc 31 [.lit (.int .i64 0), .lit (.bool false), .lit (.int .i64 0)])]) (.seq (.reg [oo 1 (.build 31 [.lit (.int .i64 0), .lit (.bool false), .lit (.int .i64 0)] []),
 ov (.store 31 3 (.t 0) (.t 1))]) .ret))
abbrev b72 : Nat := 43
theorem b4z : fnC pg 43 2 [(.cells 0 3)] b1r := a0p Go.Proofs.Tryz.f43 [(.cell 0 31)] (by kernel_rfl)
@[go_sem] theorem c86 : fnB pg 43 = true := by kernel_rfl
def a62 : IC := (.seq (.reg [oo 2 (.box 31 3 (.t 0)),
 oo 3 (.box 31 3 (.t 1)),
 oo 4 (.asg (.c (.bool false)))]) (.seq (.reg [oo 5 (.faddr 31 0 (.t 2) 0),
 oo 6 (.load 3 none (.t 5)),
 oo 7 (.faddr 31 0 (.t 3) 0),
 oo 8 (.load 3 none (.t 7)),
 oo 9 (.bin .eql 3 0 (.t 6) (.t 8) 3),
 om 10 9,
 og 11 (.faddr 31 1 (.t 2) 1) 5 10 true,
 og 12 (.load 4 none (.t 11)) 5 10 true,
 og 13 (.faddr 31 1 (.t 3) 1) 5 10 true,
 og 14 (.load 4 none (.t 13)) 5 10 true,
 og 15 (.bin .eql 4 1 (.t 12) (.t 14) 4) 5 10 true,
 oo 16 (.pick (.t 10) (.t 15) (.c (.bool false))),
 om 17 16,
 og 18 (.faddr 31 2 (.t 2) 2) 12 17 true,
 og 19 (.load 3 none (.t 18)) 12 17 true,
 og 20 (.faddr 31 2 (.t 3) 2) 12 17 true,
 og 21 (.load 3 none (.t 20)) 12 17 true,
 og 22 (.bin .eql 3 0 (.t 19) (.t 21) 3) 12 17 true,
 oo 23 (.pick (.t 17) (.t 22) (.c (.bool false))),
 oo 4 (.asg (.t 23))]) .ret))
abbrev b2g : Nat := 56
theorem a9x : fnC pg 56 24 [(.tmp 4)] a62 := a0p Go.Proofs.Tryz.f56 [(.tmp 4)] (by kernel_rfl)
@[go_sem] theorem c2f : fnB pg 56 = true := by kernel_rfl
def a4r : IC := (.seq (.reg [oo 2 (.alloc 31 [.lit (.int .i64 0), .lit (.bool false), .lit (.int .i64 0)])]) (.seq (.seq (.reg [om 5 0,
 oo 6 (.bin .eql 35 2 (.t 5) (.c .nilIface) 35)]) (.cond (.t 6) (.seq (.reg [oc 7 43 [] [],
 ov (.store 31 3 (.t 2) (.t 7))]) .ret) .skip)) (.seq (.reg [om 9 0,
 oo 10 (.tas (.t 9) 35 153 [.lit (.pointer none)]),
 om 8 10,
 oo 11 (.ext (.t 8) 0),
 oo 12 (.ext (.t 8) 1),
 oo 3 (.asg (.t 11)),
 oo 4 (.asg (.t 12))]) (.seq (.seq (.reg [om 13 4,
 oo 14 (.un .not 4 (.t 13))]) (.cond (.t 14) (.seq (.reg [om 15 0,
 oc 16 104 [(false, (.t 15))] [35],
 oc 17 38 [(false, (.t 16))] [3],
 ov (.store 31 3 (.t 2) (.t 17))]) .ret) .skip)) (.seq (.seq (.reg [om 18 3,
 oo 19 (.bin .eql 153 3 (.t 18) (.c (.pointer none)) 153),
 om 20 19,
 og 21 (.mv (.t 3)) 2 20 false,
 og 22 (.nilck (.t 21)) 2 20 false,
 og 23 (.faddr 157 1 (.t 22) 1) 2 20 false,
 og 24 (.load 35 none (.t 23)) 2 20 false,
 og 25 (.bin .eql 35 2 (.t 24) (.c .nilIface) 35) 2 20 false,
 oo 26 (.pick (.t 20) (.c (.bool true)) (.t 25))]) (.cond (.t 26) (.seq (.reg [oc 27 38 [(false, (.n (-1)))] [3],
 ov (.store 31 3 (.t 2) (.t 27))]) .ret) .skip)) (.seq (.draw [om 28 3,
 oo 29 (.nilck (.t 28)),
 oo 30 (.faddr 157 1 (.t 29) 1),
 oo 31 (.load 35 none (.t 30)),
 oc 32 104 [(false, (.t 31))] [35],
 om 33 3,
 oo 34 (.nilck (.t 33)),
 oo 35 (.faddr 157 0 (.t 34) 0),
 oo 36 (.load 3 none (.t 35)),
 oc 37 35 [(false, (.t 32)), (false, (.t 36))] [3, 3],
 ov (.store 31 3 (.t 2) (.t 37))] [[], [0], [1], [2], [3], [], [5], [6], [7], [4, 8, 4], [9, 9, 0, 1, 2, 3, 4, 5, 6, 7, 8, 9]]) .ret))))))
abbrev b7a : Nat := 57
theorem b3q : fnC pg 57 38 [(.cells 2 3)] a4r := a0p Go.Proofs.Tryz.f57 [(.cell 2 31)] (by kernel_rfl)
@[go_sem] theorem c7w : fnB pg 57 = true := by kernel_rfl
def b1o : IC := (.seq (.reg [oo 2 (.alloc 31 [.lit (.int .i64 0), .lit (.bool false), .lit (.int .i64 0)])]) (.seq (.reg [om 3 0,
 oo 4 (.build 31 [.lit (.int .i64 0), .lit (.bool false), .lit (.int .i64 0)] [(0, 0, 1, (.t 3))]),
 ov (.store 31 3 (.t 2) (.t 4))]) .ret))
abbrev a7g : Nat := 38
theorem b4w : fnC pg 38 5 [(.cells 2 3)] b1o := a0p Go.Proofs.Tryz.f38 [(.cell 2 31)] (by kernel_rfl)
@[go_sem] theorem c83 : fnB pg 38 = true := by kernel_rfl
def a4g : IC := (.seq (.seq (.reg [om 6 4,
 om 7 3,
 oo 8 (.len 190 false (.t 7)),
 oo 9 (.bin .lss 3 0 (.t 6) (.t 8) 3)]) (.cond (.t 9) .skip (.exit 0))) (.seq (.block 1 (.seq (.reg [om 12 0,
 om 13 3,
 om 14 4,
 oo 15 (.iaddr 190 1 (.t 13) (.t 14)),
 oo 16 (.load 35 none (.t 15)),
 oc 17 145 [(false, (.t 12)), (false, (.t 16))] [35, 35]]) (.cond (.t 17) (.seq (.reg [om 18 4,
 oo 19 (.bin .add 3 0 (.n 101) (.t 18) 3),
 oo 2 (.asg (.t 19))]) .ret) .skip))) (.reg [om 10 4,
 oo 11 (.bin .add 3 0 (.t 10) (.n 1) 3),
 oo 4 (.asg (.t 11))])))
def a7s : IC := (.seq (.reg [oo 2 (.asg (.n 0))]) (.seq (.reg [oc 5 144 [] [],
 oo 3 (.asg (.t 5))]) (.seq (.seq (.reg [oo 4 (.asg (.n 0))]) (.block 0 (.loop a4g))) (.seq (.reg [oo 2 (.asg (.n (-1)))]) .ret))))
abbrev b3b : Nat := 104
theorem b0v : fnC pg 104 20 [(.tmp 2)] a7s := a0p Go.Proofs.Tryz.f104 [(.tmp 2)] (by kernel_rfl)
@[go_sem] theorem c3u : fnB pg 104 = true := by kernel_rfl
def a65 : IC := (.seq (.reg [oo 0 (.asg (.nl 1))]) (.seq (.reg [oo 1 (.load 35 none (.g 6)),
 oo 2 (.load 35 none (.g 3)),
 oo 3 (.load 35 none (.g 2)),
 oo 4 (.load 35 none (.g 5)),
 oo 5 (.load 35 none (.g 11)),
 oo 6 (.load 35 none (.g 1)),
 oo 7 (.load 35 none (.g 0)),
 oo 8 (.load 35 none (.g 8)),
 oo 9 (.load 35 none (.g 4)),
 oo 10 (.load 35 none (.g 7)),
 oo 11 (.load 35 none (.g 10)),
 oo 12 (.load 35 none (.g 12)),
 oo 13 (.load 35 none (.g 13)),
 oo 14 (.load 35 none (.g 14)),
 oo 15 (.load 35 none (.g 15)),
 oo 16 (.load 35 none (.g 16)),
 oo 17 (.load 35 none (.g 17)),
 oo 18 (.load 35 none (.g 18)),
 oo 19 (.load 35 none (.g 19)),
 oo 20 (.load 35 none (.g 20)),
 oo 21 (.load 35 none (.g 21)),
 oo 22 (.bslice 190 35 1 21 [.lit .nilIface] [(0, (.t 1)), (1, (.t 2)), (2, (.t 3)), (3, (.t 4)), (4, (.t 5)), (5, (.t 6)), (6, (.t 7)), (7, (.t 8)), (8, (.t 9)), (9, (.t 10)), (10, (.t 11)), (11, (.t 12)), (12, (.t 13)), (13, (.t 14)), (14, (.t 15)), (15, (.t 16)), (16, (.t 17)), (17, (.t 18)), (18, (.t 19)), (19, (.t 20)), (20, (.t 21))]),
 oo 0 (.asg (.t 22))]) .ret))
abbrev b2i : Nat := 144
theorem a90 : fnC pg 144 23 [(.tmp 0)] a65 := a0p Go.Proofs.Tryz.f144 [(.tmp 0)] (by kernel_rfl)
@[go_sem] theorem c2i : fnB pg 144 = true := by kernel_rfl
def b0j : IC := (.seq (.reg [oo 4 (.asg (.c (.bool false)))]) (.seq (.seq (.reg [om 5 0,
 oo 6 (.bin .eql 35 2 (.t 5) (.c .nilIface) 35),
 om 7 6,
 og 8 (.mv (.t 1)) 2 7 false,
 og 9 (.bin .eql 35 2 (.t 8) (.c .nilIface) 35) 2 7 false,
 oo 10 (.pick (.t 7) (.c (.bool true)) (.t 9))]) (.cond (.t 10) (.seq (.reg [om 11 0,
 oo 12 (.bin .eql 35 2 (.t 11) (.c .nilIface) 35),
 om 13 12,
 og 14 (.mv (.t 1)) 2 13 true,
 og 15 (.bin .eql 35 2 (.t 14) (.c .nilIface) 35) 2 13 true,
 oo 16 (.pick (.t 13) (.t 15) (.c (.bool false))),
 oo 4 (.asg (.t 16))]) .ret) .skip)) (.seq (.reg [om 17 0,
 om 18 1,
 oo 19 (.eqs .eql 35 230 252 (.t 17) (.t 18) 35),
 oo 4 (.asg (.t 19))]) .ret)))
abbrev b69 : Nat := 145
theorem b3p : fnC pg 145 20 [(.tmp 4)] b0j := a0p Go.Proofs.Tryz.f145 [(.tmp 4)] (by kernel_rfl)
@[go_sem] theorem c7v : fnB pg 145 = true := by kernel_rfl
end Go.Ideal.Tryz
end
section
namespace Go.Ideal.Tryz
abbrev li (n : Int) : AV := .lit (.int .i64 n)
abbrev lb (b : Bool) : AV := .lit (.bool b)
abbrev c3f (k : Int) (p : Bool) (n : Int) : AV := .agg [li k, lb p, li n]
theorem c31 (G : GG) : ACalls pg G b72 [] (c3f 0 false 0) := by
 refine b4z rfl ?_
 simp (disch := omega) [go_sem, b1r]
theorem e92 (G : GG) (a b c d : Int) (e f : Bool) : ACalls pg G b2g [c3f a e b, c3f c f d] (lb (decide (a = c /\ e = f /\ b = d))) := by
 refine a9x rfl ?_
 simp (disch := omega) [go_sem, a62]
 refine c3l ?_ ?_ <;> intro h <;> simp at h <;> simp (disch := omega) [go_sem, h]
 refine c3l ?_ ?_ <;> intro h2 <;> simp at h2 <;> simp (disch := omega) [go_sem, h, h2]
theorem b7x (G : GG) (k n : Int) : ACalls pg G a8w [li k, li n] (if k = 0 then c3f 0 false 0 else c3f k true n) := by
 refine b2v rfl ?_
 by_cases h : k = 0 <;> simp (disch := omega) [go_sem, a9g, h]
 refine a0b (c31 G) rfl rfl ?_
 simp (disch := omega) [go_sem]
end Go.Ideal.Tryz
end
section
namespace Go.Ideal.Tryz
@[go_sem] abbrev c97 : Nat := 230
@[go_sem] abbrev g2p : Nat := 153
def cn (g : Nat) : Nat := [0, 7, 5, 3, 9, 2, 6, 10, 8, 99, 1, 4, 11, 12, 13, 14, 15, 16, 17, 18, 19, 20].getD g g
def gn (g : Nat) : Nat := [0, 10, 5, 3, 11, 2, 6, 1, 8, 4, 7, 12, 13, 14, 15, 16, 17, 18, 19, 20, 21].getD g g
@[go_sem] theorem g7h : cn 0 = 0 := (rfl)
@[go_sem] theorem g7i : cn 1 = 7 := (rfl)
@[go_sem] theorem g7j : cn 2 = 5 := (rfl)
@[go_sem] theorem g7k : cn 3 = 3 := (rfl)
@[go_sem] theorem g7l : cn 4 = 9 := (rfl)
@[go_sem] theorem g7m : cn 5 = 2 := (rfl)
@[go_sem] theorem g7n : cn 6 = 6 := (rfl)
@[go_sem] theorem g7o : cn 7 = 10 := (rfl)
@[go_sem] theorem g7p : cn 8 = 8 := (rfl)
@[go_sem] theorem g6a : cn 10 = 1 := (rfl)
@[go_sem] theorem g6b : cn 11 = 4 := (rfl)
@[go_sem] theorem g6c : cn 12 = 11 := (rfl)
@[go_sem] theorem g6d : cn 13 = 12 := (rfl)
@[go_sem] theorem g6e : cn 14 = 13 := (rfl)
@[go_sem] theorem g6f : cn 15 = 14 := (rfl)
@[go_sem] theorem g6g : cn 16 = 15 := (rfl)
@[go_sem] theorem g6h : cn 17 = 16 := (rfl)
@[go_sem] theorem g6i : cn 18 = 17 := (rfl)
@[go_sem] theorem g6j : cn 19 = 18 := (rfl)
@[go_sem] theorem g6k : cn 20 = 19 := (rfl)
@[go_sem] theorem g6l : cn 21 = 20 := (rfl)
structure Sent (G : GG) (bk : Nat -> Nat × Nat) : Prop where
 val : ∀ g, g < 22 /\ g ≠ 9 -> G g = some (.iface c97 (.pointer (some ⟨(bk (cn g)).1, (bk (cn g)).2, none⟩)))
 blk : ∀ g, g < 21 -> (G (bk g).1).isSome = true
 inj : ∀ g h, g < 21 -> h < 21 -> bk g = bk h -> g = h
structure Sent5 (G : GG) (bk : Nat -> Nat × Nat) : Prop where
 val : ∀ g, g = 2 \/ g = 3 \/ g = 5 \/ g = 6 \/ g = 11 -> G g = some (.iface c97 (.pointer (some ⟨(bk (cn g)).1, (bk (cn g)).2, none⟩)))
 blk : ∀ g, 2 <= g /\ g <= 6 -> (G (bk g).1).isSome = true
 inj : ∀ g h, 2 <= g /\ g <= 6 -> 2 <= h /\ h <= 6 -> bk g = bk h -> g = h
theorem Sent.five {G : GG} {bk : Nat -> Nat × Nat} (h : Sent G bk) : Sent5 G bk :=
 ⟨fun g hg => h.val g (by omega), fun g hg => h.blk g (by omega), fun g k hg hk => h.inj g k (by omega) (by omega)⟩
structure Sent3 (G : GG) (bk : Nat -> Nat × Nat) : Prop where
 val : ∀ g, g = 3 \/ g = 5 \/ g = 6 -> G g = some (.iface c97 (.pointer (some ⟨(bk (cn g)).1, (bk (cn g)).2, none⟩)))
theorem Sent5.three {G : GG} {bk : Nat -> Nat × Nat} (h : Sent5 G bk) : Sent3 G bk := ⟨fun g hg => h.val g (by omega)⟩
@[go_sem] abbrev sv (bk : Nat -> Nat × Nat) (g : Nat) : AV := .lit (.iface c97 (.pointer (some ⟨(bk g).1, (bk g).2, none⟩)))
def a3h : List Nat := [6, 3, 5, 2, 4, 7, 0, 8, 9, 10, 1, 11, 12, 13, 14, 15, 16, 17, 18, 19, 20]
theorem c4h (G : GG) (bk : Nat -> Nat × Nat) (hS : Sent G bk) : ACalls pg G b2i [] (.own 1 21 (a3h.map (sv bk))) := by
 refine a90 rfl ?_
 simp (disch := omega) [go_sem, a65, hS.val]
 rfl
end Go.Ideal.Tryz
end
section
namespace Go.Ideal.Tryz
abbrev slB (xs : List Bool) : AV := .sl xs.length (xs.map lb)
abbrev slI (xs : List Int) : AV := .sl xs.length (xs.map li)
abbrev owI (xs : List Int) : AV := .own 1 xs.length (xs.map li)
abbrev owB (xs : List Bool) : AV := .own 1 xs.length (xs.map lb)
abbrev g7e (xs : List (List Int)) : AV := .sl xs.length (xs.map slI)
abbrev g6y (xs : List (List Int)) : AV := .own 1 xs.length (xs.map owI)
attribute [go_sem] slB slI owI owB g7e g6y
@[go_sem] theorem a3g (xs : List Int) : a1f (xs.map li) = true := b57 fun x => by simp only [a09]
@[go_sem] theorem e77 (xs : List Bool) : a1f (xs.map lb) = true := b57 fun x => by simp only [a09]
@[go_sem] theorem e8g (xs : List Int) : a0z (xs.map li) = true := b59 fun x => by simp only [a0v]
@[go_sem] theorem e8f (xs : List Bool) : a0z (xs.map lb) = true := b59 fun x => by simp only [a0v]
end Go.Ideal.Tryz
end
section
namespace Go.Ideal.Tryz
inductive Er where
 | nil
 | s (g : Nat)
 | at (p : Int) (e : Er)
def a0s (bk : Nat -> Nat × Nat) : Er -> AV
 | .nil => .lit .nilIface
 | .s g => sv bk g
 | .at p e => .ifc g2p (.ip [li p, a0s bk e] 0)
abbrev wr (n : Int) : Int := IntKind.i64.wrap n
def inB (n : Nat) (u : List (List Int)) : Prop := ∀ r ∈ u, ∀ k ∈ r, 0 <= k /\ k < (n : Int)
section
variable {G : GG} {bk : Nat -> Nat × Nat} {Q : Exit -> St -> Prop} {st : St}
end
def d82 : List Int -> List Int -> List Int
 | [], l => l
 | k :: ks, l => d82 ks (l.set k.toNat (wr (l[k.toNat]! - 1)))
theorem c7y : ∀ (ks l : List Int), (d82 ks l).length = l.length
 | [], l => rfl
 | k :: ks, l => by rw [d82, c7y]; simp
section
variable {G : GG} {Q : Exit -> St -> Prop} {st : St}
end
end Go.Ideal.Tryz
end
section
namespace Go.Ideal.Tryz
section
variable {G : GG} {bk : Nat -> Nat × Nat}
theorem b91 (n : Int) : ACalls pg G a7g [li n] (c3f n false 0) := by
 refine b4w rfl ?_
 simp (disch := omega) [go_sem, b1o]
theorem d31 (hS : Sent G bk) {g h : Nat} (hg : g < 21) (hh : h < 21) : ACalls pg G b69 [sv bk g, sv bk h] (lb (decide (g = h))) := by
 refine b3p rfl ?_
 simp (disch := omega) [go_sem, b0j, hS.blk]
 by_cases h2 : g = h
 ·simp [h2]
 ·simp [h2]; intro h3 h4; exact h2 (hS.inj _ _ hg hh (Prod.ext h3 h4))
theorem c12 : a3h.length = 21 := rfl
theorem c4g : ∀ g ∈ a3h, g < 21 := by decide
def b4k (g : Nat) : List Nat -> Nat -> Int
 | [], _ => -1
 | h :: hs, i => if g = h then 101 + i else b4k g hs (i + 1)
def b92 (g : Nat) : Int := b4k g a3h 0
theorem c1d {g i k : Nat} (h : i < a3h.length) : b4k g (a3h.drop i) k = if g = a3h[i] then 101 + (k : Int) else b4k g (a3h.drop (i + 1)) (k + 1) := by
 rw [List.drop_eq_getElem_cons h]; rfl
theorem c0r (hS : Sent G bk) {g : Nat} (hg : g < 21) : ACalls pg G b3b [sv bk g] (li (b92 g)) := by
 refine b0v rfl ?_
 simp (disch := omega) [go_sem, a7s]
 refine a0b (c4h G bk hS) rfl rfl ?_
 simp (disch := omega) [go_sem]
 refine a08 Nat (fun i st => st.s 0 = sv bk g /\ st.s 3 = .own 1 21 (a3h.map (sv bk)) /\ st.s 4 = li i /\ i <= 21 /\ b4k g (a3h.drop i) i = b92 g) (fun i => 21 - i) 0 ?_ ?_
 ·exact ⟨by simp (disch := omega) [go_sem], by simp (disch := omega) [go_sem], by simp (disch := omega) [go_sem], by simp, rfl⟩
 ·rintro i st K ⟨h0, h3, h4, hi, hc⟩ hK
  by_cases hlt : i < 21
  ·have hlt' : i < a3h.length := hlt
   rw [c1d hlt'] at hc
   have hlt2 : a3h[i] < 21 := c4g _ (List.getElem_mem hlt')
   simp (disch := omega) [go_sem, a4g, h0, h3, h4, c12, hlt]
   refine a0b (d31 hS hg hlt2) rfl rfl ?_
   by_cases hgi : g = a3h[i]
   ·rw [if_pos hgi] at hc
    simp (disch := omega) [go_sem, h4, <- hgi, <- hc]
   ·rw [if_neg hgi] at hc
    simp (disch := omega) [go_sem, h0, h3, h4, hgi]
    exact hK (i + 1) _ ⟨by simp (disch := omega) [go_sem, h0], by simp (disch := omega) [go_sem, h3], by simp (disch := omega) [go_sem, h4], by omega, hc⟩ (by omega)
  ·obtain rfl : i = 21 := by omega
   have : b92 g = -1 := by rw [<- hc]; rfl
   simp (disch := omega) [go_sem, a4g, h3, h4, this]
abbrev fl (x : Int × Bool × Int) : AV := c3f x.1 x.2.1 x.2.2
def Er.flt : Er -> Int × Bool × Int
 | .nil => (0, false, 0)
 | .s g => (b92 g, false, 0)
 | .at p (.s g) => (b92 g, true, p)
 | _ => (-1, false, 0)
inductive Er.ok : Er -> Prop
 | nil : Er.ok .nil
 | s {g : Nat} (h : g < 21) : Er.ok (.s g)
 | at {p : Int} {g : Nat} (h : g < 21) : Er.ok (.at p (.s g))
theorem a6k : ∀ g, g < 21 -> b92 g ≠ 0 := by decide
theorem d8d (hS : Sent G bk) {e : Er} (he : e.ok) : ACalls pg G b7a [a0s bk e] (fl e.flt) := by
 refine b3q rfl ?_
 cases he with
 | nil =>
  simp (disch := omega) [go_sem, a4r, a0s]
  refine a0b (c31 G) rfl rfl ?_
  simp (disch := omega) [go_sem, Er.flt]
 | s h =>
  simp (disch := omega) [go_sem, a4r, a0s]
  refine a0b (c0r hS h) rfl rfl ?_
  simp (disch := omega) [go_sem]
  refine a0b (b91 _) rfl rfl ?_
  simp (disch := omega) [go_sem, Er.flt]
 | @«at» p g h =>
  simp (disch := omega) [go_sem, a4r, a0s]
  refine a0c ?_
  simp (disch := omega) [go_sem]
  refine a0i (c0r hS h) rfl rfl (by simp) [32] (by simp) (by simp (disch := omega) [go_sem]) ?_
  simp (disch := omega) [go_sem]
  refine a0i (b7x G _ _) (by split <;> rfl) (by split <;> rfl) (by simp) [37] (by simp) (by simp (disch := omega) [go_sem]) ?_
  rw [if_neg (a6k g h)]
  simp (disch := omega) [go_sem]
  refine a0d (by decide) fun s2 hs he => ?_
  simp (disch := omega) [go_sem, hs, Er.flt]
theorem d04 (e : Er) : a0k (a0s bk e) = true /\ a0v (a0s bk e) = true := by
 cases e <;> simp [a0s, a0k, a0v]
theorem d2s (hS : Sent G bk) {e : Er} (he : e.ok) (f : Int × Bool × Int) : ACalls pg G b03 [a0s bk e, fl f] (lb (decide (e.flt = f))) := by
 refine b43 rfl ?_
 have hf := d8d (G := G) (bk := bk) hS he
 have goal : ∀ x : Int × Bool × Int, (decide (x.1 = f.1) && (decide (x.2.1 = f.2.1) && decide (x.2.2 = f.2.2))) = decide (x = f) := by
  rintro ⟨a, b, c⟩; obtain ⟨d, e, f⟩ := f; simp
 cases he with
 | _ =>
  simp (disch := omega) [go_sem, b1v, a0s] at hf ⊢
  refine a0c ?_
  simp (disch := omega) [go_sem]
  refine a0i hf rfl rfl (by simp) [6] (by simp) (by simp (disch := omega) [go_sem]) ?_
  simp (disch := omega) [go_sem]
  refine a0i (e92 G _ _ _ _ _ _) rfl rfl (by simp) [8] (by simp) (by simp (disch := omega) [go_sem]) ?_
  simp (disch := omega) [go_sem]
  refine a0d (by decide) fun s2 hs he => ?_
  simp (disch := omega) [go_sem, hs]
  exact goal _
end
end Go.Ideal.Tryz
end
section
namespace Go.Ideal.Tryz
section
variable {G : GG} {bk : Nat -> Nat}
theorem c53 {α : Type} [Inhabited α] {xs ys : List α} (hl : xs.length = ys.length) (h : ∀ i, i < xs.length -> xs[i]! = ys[i]!) : xs = ys := by
 apply List.ext_getElem hl
 intro i h1 h2
 have := h i h1
 simpa [h1, h2] using this
theorem a9p {a b : List Int} (ha : a.length < 2 ^ 62) : ACalls pg G b28 [slI a, slI b] (lb (decide (a = b))) := by
 refine b0s rfl ?_
 by_cases hl : a.length = b.length
 ·have hl' : (a.length : Int) = b.length := by omega
  simp (disch := omega) [go_sem, a4x, hl']
  refine a08 Nat (fun i st => st.s 0 = slI a /\ st.s 1 = slI b /\ st.s 5 = li i /\ i <= a.length /\ ∀ j, j < i -> a[j]! = b[j]!) (fun i => a.length - i) 0 ?_ ?_
  ·exact ⟨by simp (disch := omega) [go_sem, hl], by simp (disch := omega) [go_sem], by simp (disch := omega) [go_sem], by simp, fun j hj => by omega⟩
  ·rintro i st K ⟨h0, h1, h5, hi, hc⟩ hK
   by_cases hlt : i < a.length
   ·have hlt2 : i < b.length := by omega
    simp (disch := omega) [go_sem, a4f, h0, h1, h5, hlt]
    refine a0c ?_
    simp (disch := omega) [go_sem, h0, h1, h5]
    refine a0d (by decide) fun s2 hs he => ?_
    by_cases he2 : a[i] = b[i]
    ·simp (disch := omega) [go_sem, hs, he2, h5]
     exact hK (i + 1) _ ⟨by simp (disch := omega) [go_sem, hs, h0], by simp (disch := omega) [go_sem, hs, h1], by simp (disch := omega) [go_sem], by omega, fun j hj => by
      by_cases hji : j = i
      ·subst hji; simpa [hlt, hlt2] using he2
      ·exact hc j (by omega)⟩ (by omega)
    ·have : a ≠ b := by rintro rfl; exact he2 rfl
     simp (disch := omega) [go_sem, hs, he2, h5, this]
   ·have : a = b := c53 hl fun j hj => hc j (by omega)
    simp (disch := omega) [go_sem, a4f, h0, h5, hlt, this]
 ·have hl' : ¬ (a.length : Int) = b.length := by omega
  have : a ≠ b := by rintro rfl; exact hl rfl
  simp (disch := omega) [go_sem, a4x, hl', this]
end
end Go.Ideal.Tryz
end
section
namespace Go.Ideal.Tryz
section
variable {G : GG} {bk : Nat -> Nat × Nat} {Q : Exit -> St -> Prop} {st : St}
end
end Go.Ideal.Tryz
end
section
namespace Go.Ideal.Tryz
theorem get!_set {α : Type} [Inhabited α] {l : List α} {i k : Nat} {v : α} (hi : i < l.length) : (l.set i v)[k]! = if k = i then v else l[k]! := by
 by_cases h : k = i
 ·subst h; simp [hi]
 ·simp only [h, if_false]
  by_cases hk : k < l.length
  ·simp [hk, Ne.symm h, List.getElem_set]
  ·simp [hk]
theorem d0x {n : Nat} : ∀ {ks l : List Int}, l.length = n -> (∀ k ∈ ks, 0 <= k /\ k < (n : Int)) -> (∀ k, k < n -> (ks.count (k : Int) : Int) <= l[k]! /\ l[k]! < 2 ^ 62) -> ∀ k, k < n -> (d82 ks l)[k]! = l[k]! - ks.count (k : Int)
 | [], l, hl, hk, hb, k, hkn => by simp [d82]
 | x :: xs, l, hl, hk, hb, k, hkn => by
  obtain ⟨h1, h2⟩ := hk x (by simp)
  have hx : x.toNat < l.length := by omega
  have e : (x.toNat : Int) = x := by omega
  have hbx := hb x.toNat (by omega)
  rw [e] at hbx
  simp only [List.count_cons_self] at hbx
  have hw : wr (l[x.toNat]! - 1) = l[x.toNat]! - 1 := b5n (by omega)
  rw [d82, hw, d0x (n := n) (by simpa using hl) (fun k hk' => hk k (by simp [hk'])) (fun k hkn => ?_) k hkn, get!_set hx]
  ·by_cases hkx : k = x.toNat
   ·subst hkx; rw [if_pos rfl, e, List.count_cons_self]; omega
   ·have : ¬ (x = (k : Int)) := by omega
    simp only [hkx, if_false, List.count_cons, beq_iff_eq, this, Nat.add_zero]
  ·rw [get!_set hx]
   have := hb k hkn
   by_cases hkx : k = x.toNat
   ·subst hkx; rw [e] at this ⊢; rw [if_pos rfl]; simp only [List.count_cons_self] at this; omega
   ·have hne : ¬ (x = (k : Int)) := by omega
    simp only [hkx, if_false]
    simp only [List.count_cons, beq_iff_eq, hne, if_false, Nat.add_zero] at this
    exact this
def cnt (done : List Bool) (row : List Int) : Nat := row.countP fun x => !done[x.toNat]!
theorem d0q {done : List Bool} {i : Nat} (hi : i < done.length) (hd : done[i]! = false) : ∀ {row : List Int}, (∀ x ∈ row, 0 <= x /\ x < (done.length : Int)) -> cnt (done.set i true) row + row.count (i : Int) = cnt done row
 | [], _ => by simp [cnt]
 | x :: xs, h => by
  have ih := d0q hi hd (row := xs) (fun y hy => h y (by simp [hy]))
  simp only [cnt] at ih ⊢
  rw [List.countP_cons, List.countP_cons, List.count_cons, get!_set hi]
  have := (h x (by simp)).1
  by_cases hx : x.toNat = i
  ·have : x = (i : Int) := by omega
   subst this
   simp [hd] at ih ⊢
   omega
  ·have : ¬ (x = (i : Int)) := by omega
   simp only [hx, if_false, beq_iff_eq, this, Nat.add_zero]
   omega
structure J (ins u : List (List Int)) (done : List Bool) (left : List Int) : Prop where
 hd : done.length = ins.length
 hl : left.length = ins.length
 left : ∀ k, k < ins.length -> left[k]! = cnt done ins[k]!
structure U (ins u : List (List Int)) : Prop where
 inb : inB ins.length ins
 len : ∀ r ∈ ins, r.length < 2 ^ 61
 cnt : ∀ k, k < ins.length -> ∀ j, j < ins.length -> (u[k]!).count (j : Int) = (ins[j]!).count (k : Int)
 ub : ∀ k, k < ins.length -> ∀ x ∈ u[k]!, 0 <= x /\ x < (ins.length : Int)
theorem e43 {done : List Bool} {row : List Int} : cnt done row <= row.length := List.countP_le_length
theorem J.step {ins u : List (List Int)} {done : List Bool} {left : List Int} (hU : U ins u) (h : J ins u done left) {i : Nat} (hi : i < ins.length) (hdi : done[i]! = false) : J ins u (done.set i true) (d82 u[i]! left) where
 hd := by simpa using h.hd
 hl := by rw [c7y]; exact h.hl
 left k hk := by
  have hrow : ∀ k, k < ins.length -> ins[k]! ∈ ins := fun k hk => by simp [hk]
  have hset : ∀ k, k < ins.length -> cnt (done.set i true) ins[k]! + (ins[k]!).count (i : Int) = cnt done ins[k]! := fun k hk => d0q (by rw [h.hd]; exact hi) hdi (fun x hx => by rw [h.hd]; exact hU.inb _ (hrow k hk) x hx)
  rw [d0x h.hl (hU.ub i hi) (fun k hk => ?_) k hk, h.left k hk, hU.cnt i hi k hk]
  ·have := hset k hk
   omega
  ·rw [h.left k hk, hU.cnt i hi k hk]
   have := hset k hk
   have h2 := e43 (done := done) (row := ins[k]!)
   have h3 := hU.len _ (hrow k hk)
   omega
end Go.Ideal.Tryz
end
section
namespace Go.Ideal.Tryz
structure Ordered (ins : List (List Int)) (done : List Bool) (out : List Int) : Prop where
 hd : done.length = ins.length
 nd : out.Nodup
 mem : ∀ x, x < ins.length -> (done[x]! = true ↔ (x : Int) ∈ out)
 rng : ∀ x ∈ out, 0 <= x /\ x < (ins.length : Int)
 beh : ∀ p, p < out.length -> ∀ y ∈ ins[(out[p]!).toNat]!, y ∈ out.take p
end Go.Ideal.Tryz
end
section
namespace Go.Ideal.Tryz
section
variable {G : GG} {bk : Nat -> Nat × Nat} {Q : Exit -> St -> Prop} {st : St}
end
end Go.Ideal.Tryz
end
section
namespace Go.Ideal
open Go.ChangeShapes Go.RowKit Classical
section
variable {H : Type} {e : TypeId × Value -> H} {P : Program} {w : World}
def Rd (e : TypeId × Value -> H) (P : Program) (w : World) (T : Type) (t : TypeId) (enc : T -> List AV) (ok : T -> Prop) : Prop :=
 ∀ (fuel : Nat) (cs : List Value) (d : DataW H) (ps : List MemPlace), DataW.trod e P w 0 (fun _ => true) true fuel t cs = some (d, ps) -> (d.weights P t).all (· <= reachBytes) = true -> ∃ x, ok x /\ RL w (fun b => b < w.heap.size) (enc x) noQ noB cs /\ C1 cs
theorem b39 {M : BS} {k : AV} {v : Value} (h : R w M k noQ noB v) : RL w M [k] noQ noB [v] := by
 simp only [RL]
 exact ⟨v, [], rfl, noB, noB, fun _ h => h, fun _ h => h, fun _ h => h.elim, h, rfl⟩
theorem Rd.int {t : TypeId} (ht : P.underlying t = some (.int .i64)) : Rd e P w Int t (fun n => [.lit (.int .i64 n)]) (fun n => -9223372036854775808 <= n /\ n <= 9223372036854775807) := by
 intro fuel cs d ps h hw
 obtain ⟨n, rfl, h1, h2⟩ := DataW.trod_int ht h
 refine ⟨n, ?_, b39 (by simp only [R]), fun u hu => by simp at hu; subst hu; rfl⟩
 simp only [Lit.wf, decide_eq_true_eq, Bool.and_eq_true] at h2
 first | exact h2 | (obtain ⟨a, b⟩ := h2; simp [IntKind.wrap_i64] at *; omega)
theorem Rd.bool {t : TypeId} (ht : P.underlying t = some .bool) : Rd e P w Bool t (fun n => [.lit (.bool n)]) (fun _ => True) := by
 intro fuel cs d ps h hw
 obtain ⟨n, rfl, h1⟩ := DataW.trod_bool ht h
 exact ⟨n, trivial, b39 (by simp only [R]), fun u hu => by simp at hu; subst hu; rfl⟩
theorem b27 {u : TypeId} {p : Nat -> Bool} : ∀ {ds : List (DataW H)}, (DataW.weightsAll P u ds).all p = true -> ∀ d ∈ ds, (d.weights P u).all p = true
 | [], _, d, hd => by simp at hd
 | x :: xs, h, d, hd => by
  simp only [DataW.weightsAll, List.all_append, Bool.and_eq_true] at h
  rcases List.mem_cons.1 hd with rfl | hd
  ·exact h.1
  ·exact b27 h.2 d hd
theorem cells?_cell {a : Addr} {n : Nat} {cs : List Value} (h : w.cells? 0 a n = some cs) : cs.length = n /\ ∀ i u, cs[i]? = some u -> w.cell? (a.add i) = some u := by
 unfold World.cells? at h
 rw [if_pos (Nat.zero_le _)] at h
 have key : ∀ (l : List Nat) (r : List Value), l.mapM (fun i => w.cell? (a.add i)) = some r -> r.length = l.length /\ ∀ (i j : Nat) (u : Value), l[i]? = some j -> r[i]? = some u -> w.cell? (a.add j) = some u := by
  intro l
  induction l with
  | nil => intro r h; simp at h; subst h; exact ⟨rfl, fun i j u hi => by simp at hi⟩
  | cons x l ih =>
   intro r h
   simp only [List.mapM_cons, Option.bind_eq_bind, Option.pure_def, Option.bind_eq_some_iff, Option.some.injEq] at h
   obtain ⟨y, hy, ys, hys, rfl⟩ := h
   obtain ⟨h1, h2⟩ := ih ys hys
   refine ⟨by simp [h1], fun i j u hi hu => ?_⟩
   cases i with
   | zero => simp at hi hu; subst hi; subst hu; exact hy
   | succ i => exact h2 i j u (by simpa using hi) (by simpa using hu)
 obtain ⟨h1, h2⟩ := key _ _ h
 refine ⟨by simpa using h1, fun i u hu => h2 i i u ?_ hu⟩
 have : i < cs.length := (List.getElem?_eq_some_iff.1 hu).1
 rw [h1] at this
 simp at this
 simp [this]
theorem c2w (a : Addr) : a.add 0 = a := by simp [Addr.add]
theorem d30 (b o i : Nat) : (⟨b, o, none⟩ : Addr).add i = ⟨b, o + i, none⟩ := by
 simp only [Addr.add]; split
 ·subst_vars; rfl
 ·rfl
theorem d67 (a : Addr) (m i : Nat) : (a.add m).add i = a.add (m + i) := by
 obtain ⟨b, o, s⟩ := a
 simp only [Addr.add]
 by_cases h1 : m = 0
 ·subst h1; simp
 ·by_cases h2 : i = 0
  ·subst h2; simp [h1]
  ·simp [h1, h2, Nat.add_assoc]
theorem Rd.slice {t u : TypeId} {T : Type} {enc : T -> List AV} {ok : T -> Prop} (ht : P.underlying t = some (.slice u)) (hb : 0 < P.bytesOf u) (h : Rd e P w T u enc ok) (hlen : ∀ x, (enc x).length = P.cellsOf u) :
  Rd e P w (List T) t (fun xs => [.sl xs.length (xs.flatMap enc)]) (fun xs => xs.length <= reachBytes /\ ∀ x ∈ xs, ok x) := by
 intro fuel cs d ps hd hw
 rcases DataW.trod_slice ht hd with ⟨rfl, _⟩ | ⟨a, len, cap, elems, rest, n, _, rfl, hx, _, hlc, _, hel, hi, _⟩
 ·refine ⟨[], ⟨by simp [reachBytes], fun x hx => by simp at hx⟩, b39 ?_, fun u hu => by simp at hu; subst hu; rfl⟩
  simp only [R, RL, List.flatMap_nil, List.length_nil]
  exact ⟨none, 0, rfl, Nat.le_refl _, [], fun _ h => by simp at h, rfl, .inl rfl⟩
 ·simp only [Prod.mk.injEq] at hx
  obtain ⟨rfl, _⟩ := hx
  simp only [DataW.weights, ht, List.all_cons, List.all_append, Bool.and_eq_true, decide_eq_true_eq, List.length_map] at hw
  obtain ⟨w1, w2, _⟩ := hw
  have hm : ∀ m, m <= len -> ∃ xs : List T, xs.length = m /\ (∀ x ∈ xs, ok x) /\ ∃ vs, vs.length = m * P.cellsOf u /\ RL w (fun b => b < w.heap.size) (xs.flatMap enc) noQ noB vs /\ C1 vs /\ ∀ i v, vs[i]? = some v -> w.cell? (a.add i) = some v := by
   intro m
   induction m with
   | zero => intro _; exact ⟨[], rfl, fun x hx => by simp at hx, [], by simp, by simp [RL], fun _ h => by simp at h, fun i v hv => by simp at hv⟩
   | succ m ih =>
    intro hml
    obtain ⟨xs, l1, ok1, vs, l2, r1, c1, cell1⟩ := ih (by omega)
    have hmi := hi m (by omega)
    have hme : elems[m]? = some elems[m] := by simp [show m < elems.length by omega]
    rw [hme] at hmi
    cases hc : w.cells? 0 (a.add (m * P.cellsOf u)) (P.cellsOf u) with
    | none => rw [hc] at hmi; cases hmi
    | some cs =>
     rw [hc] at hmi
     simp only [Option.bind_some] at hmi
     obtain ⟨x, okx, rx, cx⟩ := h n cs elems[m].1 elems[m].2 hmi (b27 w2 _ (List.mem_map.2 ⟨_, List.getElem_mem _, rfl⟩))
     obtain ⟨g1, g2⟩ := cells?_cell hc
     refine ⟨xs ++ [x], by simp [l1], fun y hy => ?_, vs ++ cs, by rw [List.length_append, l2, g1, Nat.add_mul, Nat.one_mul], ?_, fun y hy => ?_, fun i v hv => ?_⟩
     ·rcases List.mem_append.1 hy with hy | hy
      ·exact ok1 y hy
      ·simp at hy; subst hy; exact okx
     ·rw [List.flatMap_append]
      simp only [List.flatMap_cons, List.flatMap_nil, List.append_nil]
      exact a3d (fun b hb => hb.elim (fun h => h) fun h => h) (a2u r1 rx fun b hb => hb.elim)
     ·rcases List.mem_append.1 hy with hy | hy
      ·exact c1 y hy
      ·exact cx y hy
     ·by_cases hiv : i < vs.length
      ·rw [List.getElem?_append_left hiv] at hv
       exact cell1 i v hv
      ·rw [List.getElem?_append_right (by omega)] at hv
       have := g2 _ v hv
       have e : (a.add (m * P.cellsOf u)).add (i - vs.length) = a.add i := by
        rw [d67]
        congr 1
        rw [l2] at hiv ⊢
        omega
       rw [e] at this
       exact this
  obtain ⟨xs, l1, ok1, vs, l2, r1, c1, cell1⟩ := hm len (Nat.le_refl _)
  refine ⟨xs, ⟨?_, ok1⟩, b39 ?_, fun y hy => by simp at hy; subst hy; rfl⟩
  ·rw [l1, <- hel]
   have : elems.length <= (elems.length + rest.length) * P.bytesOf u := by
    calc elems.length <= elems.length + rest.length := Nat.le_add_right _ _
     _ = (elems.length + rest.length) * 1 := (Nat.mul_one _).symm
     _ <= _ := Nat.mul_le_mul_left _ hb
   omega
  ·simp only [R]
   refine ⟨some a, cap, by rw [l1], by omega, vs, c1, r1, ?_⟩
   cases vs with
   | nil => exact .inl rfl
   | cons v0 vs' =>
    have h0 := cell1 0 v0 rfl
    obtain ⟨b, o, sp⟩ := a
    have hsp : sp = none := by
     cases sp with
     | none => rfl
     | some s => rw [c2w] at h0; simp [World.cell?] at h0; split at h0 <;> cases h0
    subst hsp
    refine .inr ⟨b, o, rfl, ?_, fun i u hu => ?_⟩
    ·by_cases hbs : b < w.heap.size
     ·exact hbs
     ·rw [c2w] at h0
      simp only [World.cell?] at h0
      rw [show w.heap[b]? = none by simp; omega] at h0
      cases h0
    ·have := cell1 i u hu
     rw [d30] at this
     exact this
theorem Rd.slice1 {t u : TypeId} {T : Type} {enc : T -> AV} {ok : T -> Prop} (ht : P.underlying t = some (.slice u)) (hb : 0 < P.bytesOf u) (hc : P.cellsOf u = 1) (h : Rd e P w T u (fun x => [enc x]) ok) :
  Rd e P w (List T) t (fun xs => [.sl xs.length (xs.map enc)]) (fun xs => xs.length <= reachBytes /\ ∀ x ∈ xs, ok x) := by
 have := Rd.slice ht hb h (fun x => by simp [hc])
 intro fuel cs d ps h1 h2
 obtain ⟨x, a, b, c⟩ := this fuel cs d ps h1 h2
 refine ⟨x, a, ?_, c⟩
 have e1 : ∀ l : List T, l.flatMap (fun x => [enc x]) = l.map enc := fun l => by induction l <;> simp_all
 simp only [e1] at b
 exact b
end
theorem c3n {P : Program} {G : GG} {f : FuncId} {W : World} {args : Array Value} {pre : List AV} (hA : ACalls P G f pre (.lit (.bool true))) (hsz : args.size = pre.length) (hG : ∀ g v, G.at g v -> GC G W g v /\ g < W.heap.size)
  (hpre : ∀ i av, pre[i]? = some av -> R W (fun b => b < W.heap.size) av noQ noB (args.getD i undef)) : Calls P f args W (fun e W' => e = .returned (.bool true) /\ Below W.heap.size W W') := by
 refine (hA W args (fun b => b < W.heap.size) (fun _ => none) hsz (fun b hb => ⟨hb, rfl⟩) (fun b i hb => by cases hb) (fun g v hg => ⟨(hG g v hg).1, (hG g v hg).2, rfl⟩) (fun i av hi => ?_)).mono ?_
 ·exact a20 (fun b hb => hb.elim) (hpre i av hi)
 ·rintro ex W' ⟨v, rfl, hr⟩
  obtain ⟨F, _, hv⟩ := hr.own
  simp only [R] at hv
  subst hv
  exact ⟨rfl, hr.os, hr.tape, hr.output, hr.le, fun k hk => hr.frame k hk (by simp)⟩
section
variable {H : Type} {enc : TypeId × Value -> H} {P : Program}
theorem b5k (hl : laidOutB P = true) {W W' : World} (hb : Below W.heap.size W W') {sp : Nat -> Bool} : ∀ {ts : List TypeId} {vs : List Value} {ds : List (DataW H)} {ps : List MemPlace}, (∀ t ∈ ts, P.readableRec t = true /\ t < P.types.size) -> DataW.TrodAll enc P W 0 (fun _ => true) true ts vs ds ps ->
  (∀ x ∈ ps, x.block < W.heap.size) -> (∀ x ∈ ps, sp x.block = true) -> DataW.TrodAll enc P W' 0 sp true ts vs ds ps
 | [], _, _, _, _, h, _, _ => by
  obtain ⟨rfl, rfl, rfl⟩ := trodAll_nil h
  exact trodAll_mk0
 | t :: ts, _, _, _, ht, h, hlt, hsp => by
  obtain ⟨v, vs, d, ds, p, q, rfl, rfl, rfl, h1, h2⟩ := trodAll_cons h
  exact ⟨p, q, WideElems.Trod_stays hl (ht t (by simp)).1 (ht t (by simp)).2 h1 (fun x hx => hb.same (hlt x (by simp [hx]))) (fun x hx => hsp x (by simp [hx])),
   b5k hl hb (fun u hu => ht u (by simp [hu])) h2 (fun x hx => hlt x (by simp [hx])) (fun x hx => hsp x (by simp [hx])), rfl⟩
theorem c7n {f : Func} {s : ChangeSpec} {apart fresh handsOn again : Bool} {W W' : World} {args : Array Value} {ds gs : List (DataW H)} {before : List MemPlace} {tb : TypeId}
  (hl : laidOutB P = true) (ht : ∀ t ∈ f.params.toList, P.readableRec t = true /\ t < P.types.size) (hr : f.resultTypes = #[tb]) (htb : P.underlying tb = some .bool) (hvars : s.vars = []) (hfn : s.fn H (ds ++ []) = { results := [.lit (.bool true)], args := ds })
  (hW : DataW.Whole enc P f.params.toList s.vars apart W args.toList ds gs before) (hb : Below W.heap.size W W') : s.post enc P f apart fresh handsOn again W args (.bool true) W' := by
 have hW0 := hW
 obtain ⟨p, q, hA, hV, hpq, hz, hn⟩ := hW
 rw [hvars] at hV
 obtain ⟨rfl, rfl⟩ := trodVars_none hV
 have hp : before = p := by simpa using hpq
 subst hp
 have hlt : ∀ x ∈ before, x.block < W.heap.size := fun x hx => hW0.lt x hx
 have hargs : ∀ sp : Nat -> Bool, (∀ p ∈ before, sp p.block = true) -> DataW.TrodAll enc P W' 0 sp true f.params.toList args.toList ds before := fun sp hsp => b5k hl hb ht hA hlt hsp
 have hres : ∀ (b : Nat) (sp : Nat -> Bool) (hd : Bool), DataW.TrodAll enc P W' b sp hd f.resultTypes.toList ((Value.bool true).resultList f.resultTypes.size) [.lit (.bool true)] [] := fun b sp hd => by
  rw [hr]; exact trodAll_mk1 (shut_bool htb true)
 have hv0 : ∀ sp : Nat -> Bool, DataW.TrodVars enc P W' sp s.vars [] [] := fun sp => by rw [hvars]; rfl
 refine ⟨ds, [], before, [], before, [], hW0, ?_, ?_, ?_, World.keptBut_mono (fun p hp => ⟨hp, Or.inr (Or.inl hp)⟩) (hb.frame _), fun _ => ?_⟩
 ·rw [hfn]; exact hres _ _ _
 ·rw [hfn]; exact hargs _ fun x hx => by simpa using hlt x hx
 ·rw [hfn]; exact hv0 _
 ·refine ⟨ok_one hr rfl (by unfold Value.okWide; rw [htb]; simp [Cell.okWide, Cell.ok, htb]), [.lit (.bool true)] ++ ds, [], ([] ++ before) ++ [], ⟨[] ++ before, [], trodAll_append (hargs _ fun _ _ => rfl) (hres _ _ _), hv0 _, rfl, ?_, ?_⟩, ?_⟩
  ·intro b off hp
   have hp' : MemPlace.cell b off ∈ before := by simpa using hp
   rw [hb.frozen (p := ⟨b, off, none⟩) (hlt _ hp')]
   exact hz b off hp'
  ·intro ha
   simpa using hn ha
  ·intro p hp _
   simpa using hp
end
end Go.Ideal
end
section
namespace Go.Ideal.Tryz
open Go.ChangeShapes Go.RowKit Classical
def d28 : DataW Unit -> Option (List UInt8)
 | .iface n (.ptr (.agg [.lit (.string s)])) => if n == "*errors.errorString" then some s else none
 | _ => none
theorem c64 {d : DataW Unit} {s : List UInt8} (h : d28 d = some s) : d = .iface "*errors.errorString" (.ptr (.agg [.lit (.string s)])) := by
 unfold d28 at h
 split at h
 ·split at h
  ·rename_i hn
   simp only [beq_iff_eq] at hn
   injection h with h
   rw [hn, h]
  ·cases h
 ·cases h
noncomputable def c0q (laid : List (String × DataW Unit)) (g : Nat) : Option (List UInt8) := laid.findSome? fun x => if pg.globalNamed x.1 == some g then d28 x.2 else none
noncomputable def d2t (L : List Nat) (laid : List (String × DataW Unit)) : Bool := L.all fun g => (c0q laid g).isSome && L.all fun h => g == h || !(c0q laid g == c0q laid h)
abbrev c60 : List Nat := [0, 1, 2, 3, 4, 5, 6, 7, 8, 10, 11, 12, 13, 14, 15, 16, 17, 18, 19, 20, 21]
noncomputable def d90 (laid : List (String × DataW Unit)) : Bool := d2t c60 laid
theorem b6m {W : World} : ∀ {laid : List (String × DataW Unit)} {ps : List MemPlace}, DataW.LaidVars pg W laid ps -> ∀ x ∈ laid, ∃ g t cs fuel p, pg.globalNamed x.1 = some g /\ (pg.globals[g]?).map (·.type) = some t /\ W.var? pg x.1 = some cs /\
  DataW.trod (fun _ => ()) pg W 0 (fun _ => true) false fuel t cs.toList = some (x.2, p) /\ (∀ y ∈ MemPlace.row ⟨g, 0, none⟩ cs.size ++ p, y ∈ ps)
 | [], _, _, x, hx => by simp at hx
 | (n, d) :: r, ps, h, x, hx => by
  obtain ⟨g, t, cs, fuel, p, q, h1, h2, h3, h4, h5, rfl⟩ := h
  rcases List.mem_cons.1 hx with rfl | hx
  ·exact ⟨g, t, cs, fuel, p, h1, h2, h3, h4, fun y hy => List.mem_append_left _ hy⟩
  ·obtain ⟨g', t', cs', f', p', k1, k2, k3, k4, k5⟩ := b6m h5 x hx
   exact ⟨g', t', cs', f', p', k1, k2, k3, k4, fun y hy => List.mem_append_right _ (k5 y hy)⟩
theorem f8k : (c60.all fun g => (pg.globals[g]?).map (·.type) == some 35) = true := by kernel_rfl
theorem g7g : ∃ ms, pg.underlying 35 = some (.interface ms) := by
 have h : (match pg.underlying 35 with | some (.interface _) => true | _ => false) = true := by kernel_rfl
 split at h
 ·rename_i ms hm; exact ⟨ms, hm⟩
 ·cases h
theorem g1g (u : TypeId) (hu : pg.typeName? 3 u = some "*errors.errorString") : u = 230 :=
 typeName_ptr_named (nm := "errors.errorString") (by kernel_rfl) (by kernel_rfl) (by decide) u hu
theorem g2d : pg.underlying 230 = some (.pointer 252) := by kernel_rfl
theorem g2e : ∃ f : Field, pg.underlying 252 = some (.struct #[f]) /\ f.offset = 0 /\ pg.underlying f.type = some .string /\ pg.cellsOf f.type = 1 := by
 have h : (match pg.underlying 252 with | some (.struct fs) => fs.size == 1 && fs.all (fun f => f.offset == 0 && (match pg.underlying f.type with | some .string => true | _ => false) && pg.cellsOf f.type == 1) | _ => false) = true := by kernel_rfl
 split at h
 ·rename_i fs hm
  simp only [Bool.and_eq_true, beq_iff_eq] at h
  obtain ⟨h1, h2⟩ := h
  obtain ⟨f, hf⟩ : ∃ f, fs = #[f] := by
   obtain ⟨l⟩ := fs
   match l, h1 with
   | [f], _ => exact ⟨f, rfl⟩
  subst hf
  simp at h2
  refine ⟨f, hm, h2.1.1, ?_, h2.2⟩
  have := h2.1.2
  split at this
  ·assumption
  ·cases this
 ·cases h
theorem d36 : pg.cellsOf 252 = 1 := by kernel_rfl
theorem c13 {L : List Nat} (hL : ∀ g ∈ L, g ∈ c60) {hs : List (Nat × Value)} {laid : List (String × DataW Unit)} {W : World} (h : laidMet pg laid W) (hc : d2t L laid = true) (hhs : ∀ p ∈ hs, p.1 < W.heap.size /\ ∃ cur T fz, W.heap[p.1]? = some (.cells cur T fz) /\ cur[0]? = some p.2) : ∃ (G : GG) (bk : Nat -> Nat × Nat), G.hs = hs /\ ((∀ g, g ∈ L -> G g = some (.iface c97 (.pointer (some ⟨(bk g).1, (bk g).2, none⟩)))) /\ (∀ g, g ∈ L -> (G (bk g).1).isSome = true) /\ (∀ g h, g ∈ L -> h ∈ L -> bk g = bk h -> g = h)) /\ ∀ g v, G.at g v -> GC G W g v /\ g < W.heap.size := by
 obtain ⟨ps, hl, _, hp⟩ := h
 simp only [d2t, List.all_eq_true, Bool.and_eq_true, Bool.or_eq_true, beq_iff_eq, Bool.not_eq_true', beq_eq_false_iff_ne, ne_eq] at hc
 have key : ∀ g, ∃ y : Addr × ByteArray, g ∈ L -> (∃ c t, W.heap[g]? = some (.cells c t (0, 0)) /\ c[0]? = some (.iface 230 (.pointer (some y.1)))) /\ W.cell? y.1 = some (.string y.2) /\ c0q laid g = some y.2.data.toList /\ (∃ c t, W.heap[y.1.block]? = some (.cells c t (0, 0))) := by
  intro g
  by_cases hg : g ∈ L
  ·obtain ⟨text, ht⟩ := Option.isSome_iff_exists.1 (hc g hg).1
   have ht0 := ht
   unfold c0q at ht
   rw [List.findSome?_eq_some_iff] at ht
   obtain ⟨l1, x, l2, hx, hxs, _⟩ := ht
   split at hxs
   ·rename_i hgn
    simp only [beq_iff_eq] at hgn
    obtain ⟨g', t, cs, fuel, p, h1, h2, h3, h4, h5⟩ := b6m hl x (by rw [hx]; simp)
    obtain rfl : g' = g := by rw [hgn] at h1; injection h1 with h1; exact h1.symm
    have ht26 : t = 35 := by
     have := List.all_eq_true.1 f8k g' (hL _ hg)
     simp only [beq_iff_eq] at this
     rw [this] at h2
     injection h2 with h2
     exact h2.symm
    subst ht26
    rw [c64 hxs] at h4
    obtain ⟨ms, hms⟩ := g7g
    obtain ⟨f, hf1, hf2, hf3, hf4⟩ := g2e
    have hvar : ∃ t0 fz, W.heap[g']? = some (.cells cs t0 fz) := by
     unfold World.var? at h3
     rw [h1] at h3
     simp only [Option.bind_some] at h3
     split at h3
     ·rename_i c t0 fz hh
      injection h3 with h3
      subst h3
      exact ⟨_, _, hh⟩
     ·cases h3
    obtain ⟨t0, fz, hh⟩ := hvar
    have hg0 : ∀ u v, cs.toList = [.iface u v] -> MemPlace.cell g' 0 ∈ ps /\ W.cell? ⟨g', 0, none⟩ = some (.iface u v) := by
     intro u v hcs
     have hsz : cs.size = 1 := by have := congrArg List.length hcs; simpa using this
     refine ⟨h5 _ (List.mem_append_left _ (by rw [hsz]; simp [MemPlace.row])), ?_⟩
     simp only [World.cell?, hh]
     have : cs[0]? = some (.iface u v) := by
      have := congrArg (·[0]?) hcs
      simpa using this
     simpa using this
    obtain ⟨a, s, e1, e2, e3, _, e5⟩ := errorString_of_trod hms g1g g2d hf1 rfl hf2 hf3 d36 hf4 h4 (fun u v hcs => by
     obtain ⟨m1, m2⟩ := hg0 u v hcs
     exact (hp _ _ m1).2 u v m2)
    refine ⟨(a, s), fun _ => ⟨?_, e2, ?_, ?_⟩⟩
    ·obtain ⟨m1, m2⟩ := hg0 _ _ e1
     obtain ⟨⟨c, t1, hc1⟩, _⟩ := hp _ _ m1
     refine ⟨c, t1, hc1, ?_⟩
     rw [hc1] at hh
     simp only [Option.some.injEq, Obj.cells.injEq] at hh
     obtain ⟨rfl, _, _⟩ := hh
     have := congrArg (·[0]?) e1
     simpa using this
    ·rw [ht0, e3]
    ·have := h5 _ (List.mem_append_right _ (show MemPlace.cell a.block (a.off + 0) ∈ p by rw [e5]; simp [MemPlace.row]))
     exact (hp _ _ this).1
   ·cases hxs
  ·exact ⟨default, fun h => absurd h hg⟩
 obtain ⟨y, hy⟩ := Classical.axiomOfChoice key
 let bk : Nat -> Nat × Nat := fun g => ((y g).1.block, (y g).1.off)
 let Gf : Nat -> Option Value := fun b => if b ∈ L \/ ∃ g, g ∈ L /\ (bk g).1 = b then (match W.heap[b]? with | some (.cells c _ _) => c[0]? | _ => none) else none
 have hspot : ∀ g, g ∈ L -> (y g).1 = ⟨(bk g).1, (bk g).2, none⟩ /\ ∃ c t v, W.heap[(bk g).1]? = some (.cells c t (0, 0)) /\ c[0]? = some v := by
  intro g hg
  obtain ⟨_, h2, _, c, t, h4⟩ := hy g hg
  simp only [World.cell?, h4] at h2
  split at h2
  ·cases h2
  ·rename_i hs
   refine ⟨?_, c, t, ?_⟩
   ·have : (y g).1.spot = none := by simpa using hs
    simp only [bk]
    cases hyg : (y g).1
    rw [hyg] at this
    simp only at this
    rw [this]
   ·have hlt : (y g).1.off < c.size := (Array.getElem?_eq_some_iff.1 h2).1
    exact ⟨c[0]'(by omega), h4, by simp⟩
 have strict : ∀ b v, Gf b = some v -> ∃ c t, W.heap[b]? = some (.cells c t (0, 0)) /\ c[0]? = some v := fun b v hb => by
  simp only [Gf] at hb
  split at hb
  ·rename_i hor
   have : ∃ c t, W.heap[b]? = some (.cells c t (0, 0)) := by
    rcases hor with h1 | ⟨g, hg, rfl⟩
    ·obtain ⟨⟨c, t, h1, _⟩, _⟩ := hy b h1
     exact ⟨c, t, h1⟩
    ·obtain ⟨_, c, t, v, h1, _⟩ := hspot g hg
     exact ⟨c, t, h1⟩
   obtain ⟨c, t, h1⟩ := this
   rw [h1] at hb
   simp only at hb
   exact ⟨c, t, h1, hb⟩
  ·cases hb
 refine ⟨⟨Gf, hs⟩, bk, rfl, ⟨fun g hg => ?_, fun g hg => ?_, fun g h hg hh he => ?_⟩, fun b v hb => ?_⟩
 ·obtain ⟨⟨c, t, h1, h2⟩, _⟩ := hy g hg
  simp only [Gf]
  rw [if_pos (.inl hg), h1]
  simp only
  rw [h2, (hspot g hg).1]
 ·obtain ⟨_, c, t, v, h1, h2⟩ := hspot g hg
  simp only [Gf]
  rw [if_pos (.inr ⟨g, hg, rfl⟩), h1]
  simp only
  rw [h2]; rfl
 ·have e1 : (y g).1 = (y h).1 := by
   rw [(hspot g hg).1, (hspot h hh).1, he]
  obtain ⟨_, k1, k2, _⟩ := hy g hg
  obtain ⟨_, k3, k4, _⟩ := hy h hh
  rw [e1, k3] at k1
  simp only [Option.some.injEq, Value.string.injEq] at k1
  rcases (hc g hg).2 h hh with h5 | h5
  ·exact h5
  ·exact absurd (by rw [k2, k4, k1]) h5
 ·rcases hb with hb | hb
  ·obtain ⟨c, t, h1, h2⟩ := strict b v hb
   exact ⟨⟨c, t, (0, 0), h1, h2, fun _ => rfl⟩, (Array.getElem?_eq_some_iff.1 h1).1⟩
  ·obtain ⟨h1, c, t, fz, h2, h3⟩ := hhs _ hb
   refine ⟨⟨c, t, fz, h2, h3, fun hg => ?_⟩, h1⟩
   obtain ⟨c', t', h4, _⟩ := strict b v hg
   rw [h4] at h2
   simp only [Option.some.injEq, Obj.cells.injEq] at h2
   exact h2.2.2.symm
theorem f8l : ∀ g, g ∈ c60 -> gn (cn g) = g := by decide
theorem d1h : ∀ g, g < 21 -> gn g ∈ c60 := by decide
theorem e6s : ∀ g, g < 21 -> ∀ h, h < 21 -> gn g = gn h -> g = h := by decide
theorem b6x {laid : List (String × DataW Unit)} {hs : List (Nat × Value)} {W : World} (h : laidMet pg laid W) (hc : d90 laid = true) (hhs : ∀ p ∈ hs, p.1 < W.heap.size /\ ∃ cur T fz, W.heap[p.1]? = some (.cells cur T fz) /\ cur[0]? = some p.2) : ∃ (G : GG) (bk : Nat -> Nat × Nat), G.hs = hs /\ Sent G bk /\ ∀ g v, G.at g v -> GC G W g v /\ g < W.heap.size := by
 have key : ∀ g, g < 22 /\ g ≠ 9 -> g ∈ c60 := fun g hg => by simp; omega
 obtain ⟨G, bk, h0, ⟨h1, h2, h3⟩, h4⟩ := c13 (L := c60) (hs := hs) (fun g hg => hg) h hc hhs
 refine ⟨G, fun c => bk (gn c), h0, ⟨fun g hg => ?_, fun g hg => h2 _ (d1h g hg), fun g k hg hk he => e6s g hg k hk (h3 _ _ (d1h g hg) (d1h k hk) he)⟩, h4⟩
 simp only [f8l g (key g hg)]
 exact h1 g (key g hg)
end Go.Ideal.Tryz
end
section
namespace Go.Proofs.YtfncabcldhemkaaGreatDoor
open Go Go.ChangeShapes Go.WideShapes Go.RowKit Go.Ideal Go.Ideal.Tryz
theorem own : ownKnob Tryz.prog.godebug = none := by kernel_rfl
theorem d1m : laidOutB Tryz.prog = true := by kernel_rfl
noncomputable def low : Nat := (World.holding Tryz.prog default ⟨#[], #[], []⟩).heap.size
noncomputable def d47 : List Obj := (List.range 22).map fun g => .cells #[.string ⟨((c0q Rows.checkInstrsRow.laid g).getD []).toArray⟩] 252 (0, 0)
noncomputable def b1g (os : Os) : World :=
 let w0 := World.holding Tryz.prog os ⟨d47.toArray, #[], []⟩
 { w0 with heap := ((w0.heap.toList.zipIdx).map fun
   | (.cells c t fz, 9) => .cells #[.iface 212 (.agg #[.pointer (some ⟨22, 35, none⟩)])] t fz
   | (.cells c t fz, i) => if i ∈ ([0, 1, 2, 3, 4, 5, 6, 7, 8, 10, 11, 12, 13, 14, 15, 16, 17, 18, 19, 20, 21] : List Nat) then .cells #[.iface 230 (.pointer (some ⟨low + i, 0, none⟩))] t fz else .cells c t fz
   | (o, _) => o).toArray }
theorem b8i (os : Os) (args : Array Value) : ((b1g os).forCall (fun _ _ => 0) ⟨#[], args, []⟩).Shaped Tryz.prog :=
 World.shaped_of_RefB (by kernel_rfl) (by kernel_rfl)
theorem hEt : Tryz.prog.globalNamed "errors.errorType" = some 9 := by kernel_rfl
theorem hRt : (Tryz.prog.cutTypes.find? (·.1 == "internal/reflectlite.rtype")).map (·.2) = some 212 := by kernel_rfl
theorem d8l : ((List.range 264).filter fun t => Tryz.prog.rowNamed t [101, 114, 114, 111, 114]) = [35] := by kernel_rfl
theorem f8v : Tryz.prog.types.size = 264 := by kernel_rfl
abbrev hX : String × DataW Unit := ("errors.errorType", .iface "internal/reflectlite.rtype" (.agg [.ptr (.lit (.string [101, 114, 114, 111, 114]))]))
abbrev hV : Value := .iface 212 (.agg #[.pointer (some ⟨22, 35, none⟩)])
theorem b24 {W : World} (h' : handlesMet Tryz.prog [hX] W) : 9 < W.heap.size /\ ∃ cur T fz, W.heap[9]? = some (.cells cur T fz) /\ cur[0]? = some hV := by
 obtain ⟨name, u, ty, e1, e2, e3, e4, e5⟩ := h' _ (List.mem_singleton.2 rfl)
 have en : name = [101, 114, 114, 111, 114] := (Option.some.inj e1).symm
 subst en
 obtain rfl := Option.some.inj (hRt.symm.trans e2)
 have hm : ty ∈ (List.range 264).filter fun t => Tryz.prog.rowNamed t [101, 114, 114, 111, 114] := List.mem_filter.2 ⟨List.mem_range.2 (by rw [<- f8v]; exact e3), e4⟩
 rw [d8l] at hm
 obtain rfl := List.mem_singleton.1 hm
 have hh : typeHandle Tryz.prog 35 = .pointer (some ⟨22, 35, none⟩) := by kernel_rfl
 rw [hh] at e5
 unfold World.var? at e5
 rw [hEt] at e5
 simp only [Option.bind_some] at e5
 split at e5
 ·rename_i c t0 fz hc
  injection e5 with e5
  subst e5
  exact ⟨(Array.getElem?_eq_some_iff.1 hc).1, _, _, _, hc, rfl⟩
 ·cases e5
end Go.Proofs.YtfncabcldhemkaaGreatDoor
end
section
namespace Go.Ideal
open Go.ChangeShapes Go.RowKit Classical
section
variable {H : Type} {e : TypeId × Value -> H} {P : Program} {w : World}
def RdF (e : TypeId × Value -> H) (P : Program) (w : World) (T : Type) (ts : List (TypeId × Nat)) (o total : Nat) (enc : T -> List AV) (ok : T -> Prop) : Prop :=
 ∀ (n : Nat) (cs : List Value) (xs : List (DataW H × List MemPlace)), cs.length = total -> xs.length = ts.length ->
  (∀ (i : Nat) (p : TypeId × Nat), ts[i]? = some p -> DataW.trod e P w 0 (fun _ => true) true n p.1 ((cs.drop p.2).take (P.cellsOf p.1)) = xs[i]?) ->
  (DataW.weightsEach P (ts.map (·.1)) (xs.map (·.1))).all (· <= reachBytes) = true -> ∃ x, ok x /\ RL w (fun b => b < w.heap.size) (enc x) noQ noB (cs.drop o) /\ C1 (cs.drop o)
theorem RdF.nil {o : Nat} : RdF e P w Unit [] o o (fun _ => []) (fun _ => True) := by
 intro n cs xs hl _ _ _
 refine ⟨(), trivial, ?_, fun u hu => ?_⟩
 ·rw [List.drop_of_length_le (by omega)]; simp [RL]
 ·rw [List.drop_of_length_le (by omega)] at hu; simp at hu
theorem RdF.cons {T U : Type} {t : TypeId} {k : Nat} {ts : List (TypeId × Nat)} {o total : Nat} {enc : T -> List AV} {ok : T -> Prop} {enc' : U -> List AV} {ok' : U -> Prop} (hk : P.cellsOf t = k) (h : Rd e P w T t enc ok) (hr : RdF e P w U ts (o + k) total enc' ok') :
  RdF e P w (T × U) ((t, o) :: ts) o total (fun p => enc p.1 ++ enc' p.2) (fun p => ok p.1 /\ ok' p.2) := by
 intro n cs xs hl hx ht hw
 cases xs with
 | nil => simp at hx
 | cons y ys =>
  simp only [List.map_cons, DataW.weightsEach, List.all_append, Bool.and_eq_true] at hw
  have h0 := ht 0 (t, o) rfl
  simp only [List.getElem?_cons_zero, hk] at h0
  obtain ⟨x, ox, rx, cx⟩ := h n _ y.1 y.2 h0 hw.1
  obtain ⟨z, oz, rz, cz⟩ := hr n cs ys hl (by simpa using hx) (fun i p hp => by simpa using ht (i + 1) p (by simpa using hp)) hw.2
  have e1 : cs.drop o = (cs.drop o).take k ++ cs.drop (o + k) := by rw [<- List.drop_drop]; exact (List.take_append_drop _ _).symm
  refine ⟨(x, z), ⟨ox, oz⟩, ?_, fun u hu => ?_⟩
  ·rw [e1]
   exact a3d (fun b hb => hb.elim (fun h => h) fun h => h) (a2u rx rz fun b hb => hb.elim)
  ·rw [e1] at hu
   rcases List.mem_append.1 hu with hu | hu
   ·exact cx u hu
   ·exact cz u hu
def b87 (P : Program) (t : TypeId) (l : List (TypeId × Nat)) : Bool := match P.underlying t with
 | some (.struct fs) => fs.toList.map (fun f => (f.type, f.offset)) == l
 | _ => false
theorem Rd.struct {T : Type} {t : TypeId} {l : List (TypeId × Nat)} {total : Nat} {enc : T -> List AV} {ok : T -> Prop} (hs : b87 P t l = true) (hc : P.cellsOf t = total) (hF : RdF e P w T l 0 total enc ok) : Rd e P w T t enc ok := by
 intro fuel cs d ps h hw
 unfold b87 at hs
 split at hs
 ·rename_i fs ht
  simp only [beq_iff_eq] at hs
  obtain ⟨xs, n, _, hx, hl, hxl, hf⟩ := DataW.trod_struct ht h
  simp only [Prod.mk.injEq] at hx
  obtain ⟨rfl, _⟩ := hx
  simp only [DataW.weights, ht] at hw
  have := hF n cs xs (by rw [hl, hc]) (by rw [hxl, <- hs]; simp) (fun i p hp => by
   rw [<- hs] at hp
   simp only [List.getElem?_map, Option.map_eq_some_iff] at hp
   obtain ⟨f, hfi, rfl⟩ := hp
   exact hf i f (by simpa using hfi)) (by
   rw [<- hs, List.map_map]
   exact hw)
  simpa using this
 ·cases hs
theorem Rd.map {T U : Type} {t : TypeId} {enc : T -> List AV} {ok : T -> Prop} {enc' : U -> List AV} {ok' : U -> Prop} (h : Rd e P w T t enc ok) (f : T -> U) (henc : ∀ x, enc' (f x) = enc x) (hok : ∀ x, ok x -> ok' (f x)) : Rd e P w U t enc' ok' := by
 intro fuel cs d ps h1 h2
 obtain ⟨x, a, b, c⟩ := h fuel cs d ps h1 h2
 exact ⟨f x, hok x a, by rw [henc]; exact b, c⟩
theorem c69 {t : TypeId} {v : Value} {l : List (TypeId × Nat)} {r : Reach} {base : Nat} {ks : List AV} (hs : b87 P t l = true) (hv : Value.okWide P w r base t v) (hr : RL w (fun b => b < w.heap.size) ks noQ noB v.cells.toList) (hc : C1 v.cells.toList) : R w (fun b => b < w.heap.size) (.agg ks) noQ noB v := by
 unfold b87 at hs
 split at hs
 ·rename_i fs ht
  unfold Value.okWide at hv
  rw [ht] at hv
  obtain ⟨cs, rfl, _⟩ := hv
  simp only [R]
  exact ⟨cs, rfl, hc, hr⟩
 ·cases hs
end
end Go.Ideal
end
section
namespace Go.Ideal.Tryz
def a6x : IC := (.seq (.seq (.reg [om 8 4,
 om 9 0,
 oo 10 (.len 74 false (.t 9)),
 oo 11 (.bin .lss 3 0 (.t 8) (.t 10) 3)]) (.cond (.t 11) .skip (.exit 0))) (.seq (.block 1 (.reg [om 14 3,
 om 15 0,
 om 16 4,
 oo 17 (.iaddr 74 1 (.t 15) (.t 16)),
 oo 18 (.load 3 none (.t 17)),
 oo 19 (.bslice 74 3 1 1 [.lit (.int .i64 0)] [(0, (.t 18))]),
 oo 20 (.app 74 3 1 8 (.t 14) (.t 19)),
 oo 3 (.asg (.t 20))])) (.reg [om 12 4,
 oo 13 (.bin .add 3 0 (.t 12) (.n 1) 3),
 oo 4 (.asg (.t 13))])))
def b1q : IC := (.seq (.reg [oo 2 (.asg (.nl 1))]) (.seq (.reg [om 5 0,
 oo 6 (.len 74 false (.t 5)),
 oo 7 (.mks 74 3 1 8 [.lit (.int .i64 0)] (.n 0) (.t 6)),
 oo 3 (.asg (.t 7))]) (.seq (.seq (.reg [oo 4 (.asg (.n 0))]) (.block 0 (.loop a6x))) (.seq (.reg [om 21 3,
 oo 2 (.asg (.t 21))]) .ret))))
abbrev b01 : Nat := 93
theorem b4y : fnC pg 93 22 [(.tmp 2)] b1q := a0p Go.Proofs.Tryz.f93 [(.tmp 2)] (by kernel_rfl)
@[go_sem] theorem c85 : fnB pg 93 = true := by kernel_rfl
def a7b : IC := (.seq (.reg [oo 25 (.bin .lss 3 0 (.t 24) (.t 23) 3)]) (.seq (.cond (.t 25) .skip (.exit 0)) (.seq (.block 1 (.seq (.reg [om 26 24,
 oo 27 (.iaddr 74 1 (.t 22) (.t 24)),
 oo 28 (.load 3 none (.t 27)),
 oo 4 (.asg (.t 26)),
 oo 5 (.asg (.t 28))]) (.seq (.reg [om 29 5,
 oo 30 (.faddr 85 0 (.t 1) 0),
 oo 31 (.faddr 76 1 (.t 30) 1),
 oo 32 (.load 4 none (.t 31)),
 oc 33 146 [(false, (.t 29)), (false, (.t 32))] [3, 4],
 oo 34 (.un .not 4 (.t 33))]) (.cond (.t 34) (.seq (.reg [om 35 4,
 oo 36 (.load 35 none (.g 3)),
 oo 37 (.build 157 [.lit (.int .i64 0), .lit .nilIface] [(0, 0, 1, (.t 35)), (1, 1, 1, (.t 36))]),
 oo 38 (.box 157 2 (.t 37)),
 oo 39 (.mki 153 (.t 38)),
 oo 2 (.asg (.t 39))]) .ret) .skip)))) (.reg [oo 40 (.bin .add 3 0 (.t 24) (.n 1) 3),
 om 24 40]))))
def b60 : IC := (.seq (.reg [oo 1 (.box 85 3 (.t 0)),
 oo 2 (.asg (.c .nilIface))]) (.seq (.seq (.reg [oo 6 (.faddr 85 0 (.t 1) 0),
 oo 7 (.load 76 (some 2) (.t 6)),
 oc 8 105 [(false, (.t 7))] [76],
 oo 3 (.asg (.t 8))]) (.seq (.reg [om 9 3,
 oo 10 (.bin .neq 35 2 (.t 9) (.c .nilIface) 35)]) (.cond (.t 10) (.seq (.reg [om 11 3,
 oo 2 (.asg (.t 11))]) .ret) .skip))) (.seq (.seq (.draw [oo 12 (.faddr 85 2 (.t 1) 1),
 oo 13 (.load 74 none (.t 12)),
 oo 14 (.len 74 false (.t 13)),
 oo 15 (.faddr 85 0 (.t 1) 0),
 oo 16 (.faddr 76 0 (.t 15) 0),
 oo 17 (.load 74 none (.t 16)),
 oc 18 99 [(false, (.t 17))] [74],
 oo 19 (.bin .neq 3 0 (.t 14) (.t 18) 3)] [[], [0], [1], [], [3], [4], [5], [2, 6]]) (.cond (.t 19) (.seq (.reg [oo 20 (.load 35 none (.g 6)),
 oo 2 (.asg (.t 20))]) .ret) .skip)) (.seq (.seq (.reg [oo 21 (.faddr 85 2 (.t 1) 1),
 oo 22 (.load 74 none (.t 21)),
 oo 23 (.len 74 false (.t 22)),
 oo 24 (.mv (.n 0))]) (.block 0 (.loop a7b))) (.seq (.reg [oo 2 (.asg (.c .nilIface))]) .ret)))))
abbrev c2t : Nat := 107
theorem b89 : fnC pg 107 41 [(.tmp 2)] b60 := a0p Go.Proofs.Tryz.f107 [(.tmp 2)] (by kernel_rfl)
@[go_sem] theorem d3y : fnB pg 107 = true := by kernel_rfl
def a3u : IC := (.seq (.reg [oo 17 (.bin .lss 3 0 (.t 16) (.t 15) 3)]) (.seq (.cond (.t 17) .skip (.exit 0)) (.seq (.block 1 (.seq (.reg [oo 18 (.iaddr 74 1 (.t 14) (.t 16)),
 oo 19 (.load 3 none (.t 18)),
 oo 5 (.asg (.t 19))]) (.seq (.reg [om 20 5,
 oo 21 (.bin .lss 3 0 (.t 20) (.n 1) 3),
 om 22 21,
 og 23 (.mv (.t 5)) 2 22 false,
 og 24 (.bin .gtr 3 0 (.t 23) (.n 256) 3) 2 22 false,
 oo 25 (.pick (.t 22) (.c (.bool true)) (.t 24))]) (.cond (.t 25) (.seq (.reg [oo 26 (.load 35 none (.g 3)),
 oo 2 (.asg (.t 26))]) .ret) .skip)))) (.reg [oo 27 (.bin .add 3 0 (.t 16) (.n 1) 3),
 om 16 27]))))
def a4n : IC := (.seq (.reg [oo 32 (.bin .lss 3 0 (.t 31) (.t 30) 3)]) (.seq (.cond (.t 32) .skip (.exit 2)) (.seq (.block 3 (.seq (.reg [oo 33 (.iaddr 74 1 (.t 29) (.t 31)),
 oo 34 (.load 3 none (.t 33)),
 oo 7 (.asg (.t 34))]) (.seq (.reg [om 35 3,
 om 36 7,
 oo 37 (.bin .mul 3 0 (.t 35) (.t 36) 3),
 oo 3 (.asg (.t 37))]) (.seq (.reg [om 38 3,
 oo 39 (.bin .gtr 3 0 (.t 38) (.n 16384) 3)]) (.cond (.t 39) (.seq (.reg [oo 40 (.load 35 none (.g 5)),
 oo 2 (.asg (.t 40))]) .ret) .skip))))) (.reg [oo 41 (.bin .add 3 0 (.t 31) (.n 1) 3),
 om 31 41]))))
def a93 : IC := (.seq (.reg [oo 1 (.box 76 2 (.t 0)),
 oo 2 (.asg (.c .nilIface))]) (.seq (.seq (.reg [oo 8 (.faddr 76 0 (.t 1) 0),
 oo 9 (.load 74 none (.t 8)),
 oo 10 (.len 74 false (.t 9)),
 oo 11 (.bin .gtr 3 0 (.t 10) (.n 4) 3)]) (.cond (.t 11) (.seq (.reg [oo 12 (.load 35 none (.g 5)),
 oo 2 (.asg (.t 12))]) .ret) .skip)) (.seq (.reg [oo 3 (.asg (.n 1))]) (.seq (.seq (.reg [oo 13 (.faddr 76 0 (.t 1) 0),
 oo 14 (.load 74 none (.t 13)),
 oo 15 (.len 74 false (.t 14)),
 oo 16 (.mv (.n 0))]) (.block 0 (.loop a3u))) (.seq (.seq (.reg [oo 28 (.faddr 76 0 (.t 1) 0),
 oo 29 (.load 74 none (.t 28)),
 oo 30 (.len 74 false (.t 29)),
 oo 31 (.mv (.n 0))]) (.block 2 (.loop a4n))) (.seq (.reg [oo 2 (.asg (.c .nilIface))]) .ret))))))
abbrev c04 : Nat := 105
theorem b7q : fnC pg 105 42 [(.tmp 2)] a93 := a0p Go.Proofs.Tryz.f105 [(.tmp 2)] (by kernel_rfl)
@[go_sem] theorem d2y : fnB pg 105 = true := by kernel_rfl
def a8u : IC := (.seq (.reg [oo 12 (.bin .lss 3 0 (.t 11) (.t 10) 3)]) (.seq (.cond (.t 12) .skip (.exit 0)) (.seq (.block 1 (.seq (.reg [oo 13 (.iaddr 74 1 (.t 9) (.t 11)),
 oo 14 (.load 3 none (.t 13)),
 oo 5 (.asg (.t 14))]) (.reg [om 15 3,
 om 16 5,
 oo 17 (.bin .mul 3 0 (.t 15) (.t 16) 3),
 oo 3 (.asg (.t 17))]))) (.reg [oo 18 (.bin .add 3 0 (.t 11) (.n 1) 3),
 om 11 18]))))
def b5h : IC := (.seq (.reg [oo 2 (.asg (.n 0))]) (.seq (.seq (.reg [om 6 0,
 oc 7 143 [(false, (.t 6))] [74],
 oo 8 (.un .not 4 (.t 7))]) (.cond (.t 8) (.seq (.reg [oo 2 (.asg (.n 0))]) .ret) .skip)) (.seq (.reg [oo 3 (.asg (.n 1))]) (.seq (.seq (.reg [om 9 0,
 oo 10 (.len 74 false (.t 9)),
 oo 11 (.mv (.n 0))]) (.block 0 (.loop a8u))) (.seq (.reg [om 19 3,
 oo 2 (.asg (.t 19))]) .ret)))))
abbrev c03 : Nat := 99
theorem b7p : fnC pg 99 20 [(.tmp 2)] b5h := a0p Go.Proofs.Tryz.f99 [(.tmp 2)] (by kernel_rfl)
@[go_sem] theorem d2x : fnB pg 99 = true := by kernel_rfl
def b3t : IC := (.seq (.reg [oo 4 (.asg (.c (.bool false)))]) (.seq (.seq (.reg [om 5 1]) (.cond (.t 5) (.seq (.reg [om 6 0,
 oo 7 (.bin .geq 3 0 (.t 6) (.n (-2147483648)) 3),
 om 8 7,
 og 9 (.mv (.t 0)) 2 8 true,
 og 10 (.bin .leq 3 0 (.t 9) (.n 2147483647) 3) 2 8 true,
 oo 11 (.pick (.t 8) (.t 10) (.c (.bool false))),
 oo 4 (.asg (.t 11))]) .ret) .skip)) (.seq (.reg [om 12 0,
 oo 13 (.bin .geq 3 0 (.t 12) (.n (-128)) 3),
 om 14 13,
 og 15 (.mv (.t 0)) 2 14 true,
 og 16 (.bin .leq 3 0 (.t 15) (.n 127) 3) 2 14 true,
 oo 17 (.pick (.t 14) (.t 16) (.c (.bool false))),
 oo 4 (.asg (.t 17))]) .ret)))
abbrev c42 : Nat := 146
theorem b9t : fnC pg 146 18 [(.tmp 4)] b3t := a0p Go.Proofs.Tryz.f146 [(.tmp 4)] (by kernel_rfl)
@[go_sem] theorem d54 : fnB pg 146 = true := by kernel_rfl
def b5f : IC := (.seq (.reg [oo 1 (.box 76 2 (.t 0)),
 oo 2 (.asg (.n 0))]) (.seq (.seq (.reg [oo 3 (.faddr 76 1 (.t 1) 1),
 oo 4 (.load 4 none (.t 3))]) (.cond (.t 4) (.seq (.reg [oo 5 (.faddr 76 0 (.t 1) 0),
 oo 6 (.load 74 none (.t 5)),
 oc 7 99 [(false, (.t 6))] [74],
 oo 8 (.bin .mul 3 0 (.n 4) (.t 7) 3),
 oo 2 (.asg (.t 8))]) .ret) .skip)) (.seq (.reg [oo 9 (.faddr 76 0 (.t 1) 0),
 oo 10 (.load 74 none (.t 9)),
 oc 11 99 [(false, (.t 10))] [74],
 oo 2 (.asg (.t 11))]) .ret)))
abbrev c01 : Nat := 106
theorem b7n : fnC pg 106 12 [(.tmp 2)] b5f := a0p Go.Proofs.Tryz.f106 [(.tmp 2)] (by kernel_rfl)
@[go_sem] theorem d2v : fnB pg 106 = true := by kernel_rfl
def b6y : IC := (.seq (.reg [oo 2 (.asg (.c (.bool false)))]) (.seq (.reg [om 3 0,
 oo 4 (.build 76 [.own 1 0 [], .lit (.bool false)] [(0, 0, 1, (.t 3))]),
 oc 5 105 [(false, (.t 4))] [76],
 oo 6 (.bin .eql 35 2 (.t 5) (.c .nilIface) 35),
 oo 2 (.asg (.t 6))]) .ret))
abbrev c2s : Nat := 143
theorem b84 : fnC pg 143 7 [(.tmp 2)] b6y := a0p Go.Proofs.Tryz.f143 [(.tmp 2)] (by kernel_rfl)
@[go_sem] theorem d3w : fnB pg 143 = true := by kernel_rfl
end Go.Ideal.Tryz
end
section
namespace Go.Ideal.Tryz
section
variable {G : GG} {Q : Exit -> St -> Prop} {st : St}
abbrev lu (n : Int) : AV := .lit (.int .u8 n)
abbrev u8 (n : Int) : Int := IntKind.u8.wrap n
end
end Go.Ideal.Tryz
end
section
namespace Go.Ideal
section
variable {k yk : IntKind} {a b : Int}
theorem d7n (h : 0 <= b) : a2x .shr (.int k a) (.int yk b) = some (.int k (a.fdiv (2 ^ min b.toNat k.bits))) := by simp [a2x, Op.shift, show ¬ b < 0 by omega]; rfl
@[go_sem] theorem g22 (h : 0 <= b) : a4e .shr 0 (.lit (.int k a)) (.lit (.int yk b)) = some (.lit (.int k (a.fdiv (2 ^ min b.toNat k.bits)))) := by simp [a4e, c8y, d7n h]
end
namespace Tryz
section
variable {G : GG} {Q : Exit -> St -> Prop} {st : St}
end
end Tryz
end Go.Ideal
end
section
namespace Go.Ideal.Tryz
section
variable {Q : Exit -> St -> Prop} {st : St}
theorem d1j (G : GG) (xs : List Int) (hlen : xs.length < 2 ^ 40) : ACalls pg G b01 [slI xs] (owI xs) := by
 refine b4y rfl ?_
 simp (disch := omega) [go_sem, b1q]
 refine a08 Nat (fun i st => st.s 0 = slI xs /\ (∃ ys, ys = xs.take i /\ st.s 3 = owI ys) /\ st.s 4 = li i /\ i <= xs.length) (fun i => xs.length - i) 0 ?_ ?_
 ·exact ⟨by simp (disch := omega) [go_sem], ⟨[], by simp, by simp (disch := omega) [go_sem]⟩, by simp (disch := omega) [go_sem], by omega⟩
 ·rintro i st K ⟨h0, ⟨ys, hys, h3⟩, h4, hi⟩ hK
  have hl : ys.length = i := by rw [hys]; simp; omega
  by_cases hlt : i < xs.length
  ·simp (disch := omega) [go_sem, a6x, h0, h3, h4, hlt]
   refine hK (i + 1) _ ⟨by simp (disch := omega) [go_sem, h0], ⟨ys ++ [xs[i]], by rw [List.take_succ_eq_append_getElem hlt, hys], ?_⟩, by simp (disch := omega) [go_sem, h4], by omega⟩ (by omega)
   simp (disch := omega) [go_sem]
  ·obtain rfl : i = xs.length := by omega
   have : ys = xs := by rw [hys]; simp
   subst this
   simp (disch := omega) [go_sem, a6x, h0, h3, h4]
end
end Go.Ideal.Tryz
end
section
namespace Go.Ideal
def fm {α : Type} (f : α -> List AV) (xs : List α) : List AV := xs.flatMap f
section
variable {α : Type} {f : α -> List AV} {k : Nat} {xs : List α}
@[go_sem] theorem f5m {z y : AV} {zs : List AV} : a7a 1 (z :: y :: zs) = z :: y :: zs := by simp [a7a]
@[go_sem] theorem e9k {zs : List AV} : a7a 0 zs = [] := by simp [a7a]
theorem b1e {x : α} : fm f (x :: xs) = f x ++ fm f xs := rfl
theorem b0c (hf : ∀ x, (f x).length = k) : (fm f xs).length = xs.length * k := by
 induction xs with
 | nil => simp [fm]
 | cons x xs ih => rw [b1e, List.length_append, hf, ih, List.length_cons, Nat.add_mul, Nat.one_mul, Nat.add_comm]
theorem c7h {x : α} : fm f [x] = f x := by simp [fm]
theorem a7m (hf : ∀ x, (f x).length = k) : (fm f xs).take (xs.length * k) = fm f xs := List.take_of_length_le (by rw [b0c hf]; exact Nat.le_refl _)
theorem b95 {ys : List α} : fm f (xs ++ ys) = fm f xs ++ fm f ys := by simp [fm, List.flatMap_append]
theorem b8f (hf : ∀ x, (f x).length = k) {i : Nat} (h : i < xs.length) : ((fm f xs).drop (i * k)).take k = f xs[i] := by
 induction xs generalizing i with
 | nil => simp at h
 | cons x xs ih =>
  rw [b1e]
  cases i with
  | zero => rw [Nat.zero_mul, List.drop_zero, List.take_append_of_le_length (by rw [hf]; exact Nat.le_refl _), List.take_of_length_le (by rw [hf]; exact Nat.le_refl _)]; rfl
  | succ i =>
   rw [Nat.add_mul, Nat.one_mul, List.drop_append, hf, List.drop_of_length_le (by rw [hf]; omega), List.nil_append, Nat.add_sub_cancel]
   rw [ih (by simpa using h)]
   rfl
theorem d4y {a b : List AV} : a2g (a ++ b) = a2g a ++ a2g b := by simp only [c5u, List.map_append]
theorem b1f : a2g (fm f xs) = fm (fun x => a2g (f x)) xs := by
 induction xs with
 | nil => simp [fm, a2g]
 | cons x xs ih => rw [b1e, b1e, d4y, ih]
theorem c9f {a b : List AV} : a0z (a ++ b) = (a0z a && a0z b) := by
 induction a with
 | nil => simp [a0z]
 | cons x a ih => simp only [List.cons_append, a0z, ih, Bool.and_assoc]
theorem c9e {a b : List AV} : a1f (a ++ b) = (a1f a && a1f b) := by
 induction a with
 | nil => simp [a1f]
 | cons x a ih => simp only [List.cons_append, a1f, ih, Bool.and_assoc]
theorem b4r (h : ∀ x, a0z (f x) = true) : a0z (fm f xs) = true := by
 induction xs with
 | nil => simp [fm, a0z]
 | cons x xs ih => rw [b1e, c9f, h, ih]; rfl
theorem b4q (h : ∀ x, a1f (f x) = true) : a1f (fm f xs) = true := by
 induction xs with
 | nil => simp [fm, a1f]
 | cons x xs ih => rw [b1e, c9e, h, ih]; rfl
end
end Go.Ideal
end
section
namespace Go.Ideal.Tryz
structure Nd where
 op : Int
 ins : List Int
 args : List Int
 shape : List Int
 wide : Bool
 data : List Int
def b93 (n : Nd) : List AV := [li n.op, slI n.ins, slI n.args, slI n.shape, lb n.wide, slI n.data]
@[go_sem] theorem f2l {xs : List Nd} : (fm b93 xs).length = xs.length * 6 := b0c fun _ => rfl
@[go_sem] theorem f2k {xs : List Nd} {i : Nat} (h : i < xs.length) : ((fm b93 xs).drop (i * 6)).take 6 = [li xs[i].op, slI xs[i].ins, slI xs[i].args, slI xs[i].shape, lb xs[i].wide, slI xs[i].data] := b8f (f := b93) (k := 6) (fun _ => rfl) h
@[go_sem] theorem e5l {xs : List Nd} : (fm b93 xs).take (xs.length * 6) = fm b93 xs := a7m fun _ => rfl
@[go_sem] theorem e1k {xs : List Nd} : a0z (fm b93 xs) = true := b4r fun _ => rfl
@[go_sem] theorem f2j {xs : List Nd} : a2g (fm b93 xs) = fm b93 xs := by
 rw [b1f]; congr 1
section
variable {G : GG} {Q : Exit -> St -> Prop} {st : St}
end
end Go.Ideal.Tryz
end
section
namespace Go.Ideal.Tryz
section
variable {G : GG} {Q : Exit -> St -> Prop} {st : St}
def e5m (r : List Int) : List AV := [li 4, owI r, .own 1 0 [], .own 1 0 [], lb false, .own 1 0 []]
def g45 (r : List Int) : Nd := ⟨4, r, [], [], false, []⟩
@[go_sem] theorem f2n {xs : List (List Int)} : (fm e5m xs).length = xs.length * 6 := b0c fun _ => rfl
@[go_sem] theorem e5n {xs : List (List Int)} : (fm e5m xs).take (xs.length * 6) = fm e5m xs := a7m fun _ => rfl
@[go_sem] theorem f2m {xs : List (List Int)} : a2g (fm e5m xs) = fm b93 (xs.map g45) := by
 rw [b1f]
 induction xs with
 | nil => rfl
 | cons x xs ih =>
  rw [b1e, List.map_cons, b1e, ih]
  congr 1
  simp [e5m, b93, g45, go_sem]
end
end Go.Ideal.Tryz
end
section
namespace Go.Ideal.Tryz
section
variable {G : GG} {Q : Exit -> St -> Prop} {st : St}
end
end Go.Ideal.Tryz
end
section
namespace Go.Ideal.Tryz
def sp (t : Nat) : List (List Int) -> Nat -> List Int
 | [], _ => []
 | r :: rs, i => (if (t : Int) ∈ r then [(i : Int)] else []) ++ sp t rs (i + 1)
end Go.Ideal.Tryz
end
section
namespace Go.Ideal.Tryz
end Go.Ideal.Tryz
end
section
namespace Go.Ideal.Tryz
def a4w : IC := (.seq (.reg [oo 2 (.box 76 2 (.t 0)),
 oo 3 (.box 76 2 (.t 1)),
 oo 4 (.asg (.c (.bool false)))]) (.seq (.reg [oo 6 (.faddr 76 0 (.t 2) 0),
 oo 7 (.load 74 none (.t 6)),
 oo 8 (.faddr 76 0 (.t 3) 0),
 oo 9 (.load 74 none (.t 8)),
 oc 10 78 [(false, (.t 7)), (false, (.t 9))] [74, 74],
 oo 5 (.asg (.t 10))]) (.seq (.reg [om 11 5,
 om 12 11,
 og 13 (.faddr 76 1 (.t 2) 1) 1 12 true,
 og 14 (.load 4 none (.t 13)) 1 12 true,
 og 15 (.faddr 76 1 (.t 3) 1) 1 12 true,
 og 16 (.load 4 none (.t 15)) 1 12 true,
 og 17 (.bin .eql 4 1 (.t 14) (.t 16) 4) 1 12 true,
 oo 18 (.pick (.t 12) (.t 17) (.c (.bool false))),
 oo 4 (.asg (.t 18))]) .ret)))
abbrev a4u : Nat := 45
theorem a5r : fnC pg 45 19 [(.tmp 4)] a4w := a0p Go.Proofs.Tryz.f45 [(.tmp 4)] (by kernel_rfl)
@[go_sem] theorem c3q : fnB pg 45 = true := by kernel_rfl
def a7t : IC := (.seq (.reg [oo 2 (.box 85 3 (.t 0)),
 oo 4 (.asg (.c (.bool false)))]) (.seq (.reg [oo 5 (.faddr 85 0 (.t 2) 0),
 oo 6 (.load 76 (some 2) (.t 5)),
 oc 7 37 [(false, (.t 6))] [76],
 om 8 7,
 og 9 (.faddr 85 2 (.t 2) 1) 3 8 true,
 og 10 (.load 74 none (.t 9)) 3 8 true,
 og 11 (.len 74 false (.t 10)) 3 8 true,
 og 12 (.mv (.t 1)) 3 8 true,
 og 13 (.bin .leq 3 0 (.t 11) (.t 12) 3) 3 8 true,
 oo 14 (.pick (.t 8) (.t 13) (.c (.bool false))),
 oo 4 (.asg (.t 14))]) .ret))
abbrev b3c : Nat := 64
theorem b0w : fnC pg 64 15 [(.tmp 4)] a7t := a0p Go.Proofs.Tryz.f64 [(.tmp 4)] (by kernel_rfl)
@[go_sem] theorem c3v : fnB pg 64 = true := by kernel_rfl
def a5c : IC := (.seq (.seq (.reg [om 21 4,
 oo 22 (.faddr 85 2 (.t 1) 1),
 oo 23 (.load 74 none (.t 22)),
 oo 24 (.len 74 false (.t 23)),
 oo 25 (.bin .lss 3 0 (.t 21) (.t 24) 3)]) (.cond (.t 25) .skip (.exit 0))) (.seq (.block 1 (.seq (.draw [oo 28 (.faddr 85 2 (.t 1) 1),
 oo 29 (.load 74 none (.t 28)),
 om 30 4,
 oo 31 (.iaddr 74 1 (.t 29) (.t 30)),
 oo 32 (.load 3 none (.t 31)),
 oo 33 (.faddr 85 0 (.t 1) 0),
 oo 34 (.faddr 76 1 (.t 33) 1),
 oo 35 (.load 4 none (.t 34)),
 oc 36 84 [(false, (.t 32)), (false, (.t 35))] [3, 4],
 oo 37 (.un .not 4 (.t 36))] [[], [0], [], [1, 2], [3], [], [5], [6], [4, 7], [8]]) (.cond (.t 37) (.seq (.reg [om 38 4,
 oc 39 35 [(false, (.n 102)), (false, (.t 38))] [3, 3],
 ov (.store 31 3 (.t 2) (.t 39))]) .ret) .skip))) (.reg [om 26 4,
 oo 27 (.bin .add 3 0 (.t 26) (.n 1) 3),
 oo 4 (.asg (.t 27))])))
def a9d : IC := (.seq (.reg [oo 1 (.box 85 3 (.t 0)),
 oo 2 (.alloc 31 [.lit (.int .i64 0), .lit (.bool false), .lit (.int .i64 0)])]) (.seq (.reg [oo 5 (.faddr 85 0 (.t 1) 0),
 oo 6 (.load 76 (some 2) (.t 5)),
 oc 7 39 [(false, (.t 6))] [76],
 oo 3 (.asg (.t 7))]) (.seq (.seq (.reg [om 8 3,
 oo 9 (.bin .neq 3 0 (.t 8) (.n 0) 3)]) (.cond (.t 9) (.seq (.reg [om 10 3,
 oc 11 38 [(false, (.t 10))] [3],
 ov (.store 31 3 (.t 2) (.t 11))]) .ret) .skip)) (.seq (.seq (.draw [oo 12 (.faddr 85 2 (.t 1) 1),
 oo 13 (.load 74 none (.t 12)),
 oo 14 (.len 74 false (.t 13)),
 oo 15 (.faddr 85 0 (.t 1) 0),
 oo 16 (.faddr 76 0 (.t 15) 0),
 oo 17 (.load 74 none (.t 16)),
 oc 18 49 [(false, (.t 17))] [74],
 oo 19 (.bin .neq 3 0 (.t 14) (.t 18) 3)] [[], [0], [1], [], [3], [4], [5], [2, 6]]) (.cond (.t 19) (.seq (.reg [oc 20 38 [(false, (.n 101))] [3],
 ov (.store 31 3 (.t 2) (.t 20))]) .ret) .skip)) (.seq (.seq (.reg [oo 4 (.asg (.n 0))]) (.block 0 (.loop a5c))) (.seq (.reg [oc 40 43 [] [],
 ov (.store 31 3 (.t 2) (.t 40))]) .ret))))))
abbrev b5t : Nat := 41
theorem b2s : fnC pg 41 41 [(.cells 2 3)] a9d := a0p Go.Proofs.Tryz.f41 [(.cell 2 31)] (by kernel_rfl)
@[go_sem] theorem c6c : fnB pg 41 = true := by kernel_rfl
def a5y : IC := (.seq (.reg [oo 1 (.box 76 2 (.t 0)),
 oo 2 (.asg (.c (.bool false)))]) (.seq (.reg [oo 3 (.faddr 76 0 (.t 1) 0),
 oo 4 (.load 74 none (.t 3)),
 oo 5 (.len 74 false (.t 4)),
 oo 6 (.bin .leq 3 0 (.t 5) (.n 8) 3),
 oo 2 (.asg (.t 6))]) .ret))
abbrev b5w : Nat := 37
theorem b2x : fnC pg 37 7 [(.tmp 2)] a5y := a0p Go.Proofs.Tryz.f37 [(.tmp 2)] (by kernel_rfl)
@[go_sem] theorem c6h : fnB pg 37 = true := by kernel_rfl
def a1z : IC := (.seq (.seq (.reg [om 9 4,
 oo 10 (.faddr 76 0 (.t 1) 0),
 oo 11 (.load 74 none (.t 10)),
 oo 12 (.len 74 false (.t 11)),
 oo 13 (.bin .lss 3 0 (.t 9) (.t 12) 3)]) (.cond (.t 13) .skip (.exit 0))) (.seq (.block 1 (.seq (.seq (.reg [oo 16 (.faddr 76 0 (.t 1) 0),
 oo 17 (.load 74 none (.t 16)),
 om 18 4,
 oo 19 (.iaddr 74 1 (.t 17) (.t 18)),
 oo 20 (.load 3 none (.t 19)),
 oo 21 (.bin .lss 3 0 (.t 20) (.n 1) 3),
 om 22 21,
 og 23 (.faddr 76 0 (.t 1) 0) 6 22 false,
 og 24 (.load 74 none (.t 23)) 6 22 false,
 og 25 (.mv (.t 4)) 6 22 false,
 og 26 (.iaddr 74 1 (.t 24) (.t 25)) 6 22 false,
 og 27 (.load 3 none (.t 26)) 6 22 false,
 og 28 (.bin .gtr 3 0 (.t 27) (.n 256) 3) 6 22 false,
 oo 29 (.pick (.t 22) (.c (.bool true)) (.t 28))]) (.cond (.t 29) (.seq (.reg [oo 2 (.asg (.n 102))]) .ret) .skip)) (.reg [om 30 3,
 oo 31 (.faddr 76 0 (.t 1) 0),
 oo 32 (.load 74 none (.t 31)),
 om 33 4,
 oo 34 (.iaddr 74 1 (.t 32) (.t 33)),
 oo 35 (.load 3 none (.t 34)),
 oo 36 (.bin .mul 3 0 (.t 30) (.t 35) 3),
 oo 3 (.asg (.t 36))]))) (.reg [om 14 4,
 oo 15 (.bin .add 3 0 (.t 14) (.n 1) 3),
 oo 4 (.asg (.t 15))])))
def a34 : IC := (.seq (.reg [oo 1 (.box 76 2 (.t 0)),
 oo 2 (.asg (.n 0))]) (.seq (.seq (.reg [oo 5 (.faddr 76 0 (.t 1) 0),
 oo 6 (.load 74 none (.t 5)),
 oo 7 (.len 74 false (.t 6)),
 oo 8 (.bin .gtr 3 0 (.t 7) (.n 4) 3)]) (.cond (.t 8) (.seq (.reg [oo 2 (.asg (.n 104))]) .ret) .skip)) (.seq (.reg [oo 3 (.asg (.n 1))]) (.seq (.seq (.reg [oo 4 (.asg (.n 0))]) (.block 0 (.loop a1z))) (.seq (.seq (.reg [om 37 3,
 oo 38 (.bin .gtr 3 0 (.t 37) (.n 16384) 3)]) (.cond (.t 38) (.seq (.reg [oo 2 (.asg (.n 104))]) .ret) .skip)) (.seq (.reg [oo 2 (.asg (.n 0))]) .ret))))))
abbrev b00 : Nat := 39
theorem a9c : fnC pg 39 39 [(.tmp 2)] a34 := a0p Go.Proofs.Tryz.f39 [(.tmp 2)] (by kernel_rfl)
@[go_sem] theorem c1p : fnB pg 39 = true := by kernel_rfl
def a5b : IC := (.seq (.seq (.reg [om 9 4,
 om 10 0,
 oo 11 (.len 74 false (.t 10)),
 oo 12 (.bin .lss 3 0 (.t 9) (.t 11) 3)]) (.cond (.t 12) .skip (.exit 0))) (.seq (.block 1 (.reg [om 15 3,
 om 16 0,
 om 17 4,
 oo 18 (.iaddr 74 1 (.t 16) (.t 17)),
 oo 19 (.load 3 none (.t 18)),
 oo 20 (.bin .mul 3 0 (.t 15) (.t 19) 3),
 oo 3 (.asg (.t 20))])) (.reg [om 13 4,
 oo 14 (.bin .add 3 0 (.t 13) (.n 1) 3),
 oo 4 (.asg (.t 14))])))
def a89 : IC := (.seq (.reg [oo 2 (.asg (.n 0))]) (.seq (.seq (.reg [om 5 0,
 oo 6 (.build 76 [.own 1 0 [], .lit (.bool false)] [(0, 0, 1, (.t 5))]),
 oc 7 39 [(false, (.t 6))] [76],
 oo 8 (.bin .neq 3 0 (.t 7) (.n 0) 3)]) (.cond (.t 8) (.seq (.reg [oo 2 (.asg (.n 0))]) .ret) .skip)) (.seq (.reg [oo 3 (.asg (.n 1))]) (.seq (.seq (.reg [oo 4 (.asg (.n 0))]) (.block 0 (.loop a5b))) (.seq (.reg [om 21 3,
 oo 2 (.asg (.t 21))]) .ret)))))
abbrev b5s : Nat := 49
theorem b2q : fnC pg 49 22 [(.tmp 2)] a89 := a0p Go.Proofs.Tryz.f49 [(.tmp 2)] (by kernel_rfl)
@[go_sem] theorem c6a : fnB pg 49 = true := by kernel_rfl
def a8p : IC := (.seq (.reg [oo 4 (.asg (.c (.bool false)))]) (.seq (.seq (.reg [om 5 1]) (.cond (.t 5) (.seq (.reg [om 6 0,
 oo 7 (.bin .geq 3 0 (.t 6) (.n (-2147483648)) 3),
 om 8 7,
 og 9 (.mv (.t 0)) 2 8 true,
 og 10 (.bin .leq 3 0 (.t 9) (.n 2147483647) 3) 2 8 true,
 oo 11 (.pick (.t 8) (.t 10) (.c (.bool false))),
 oo 4 (.asg (.t 11))]) .ret) .skip)) (.seq (.reg [om 12 0,
 oo 13 (.bin .geq 3 0 (.t 12) (.n (-128)) 3),
 om 14 13,
 og 15 (.mv (.t 0)) 2 14 true,
 og 16 (.bin .leq 3 0 (.t 15) (.n 127) 3) 2 14 true,
 oo 17 (.pick (.t 14) (.t 16) (.c (.bool false))),
 oo 4 (.asg (.t 17))]) .ret)))
abbrev b9j : Nat := 84
theorem b55 : fnC pg 84 18 [(.tmp 4)] a8p := a0p Go.Proofs.Tryz.f84 [(.tmp 4)] (by kernel_rfl)
@[go_sem] theorem c9u : fnB pg 84 = true := by kernel_rfl
def a6p : IC := (.seq (.reg [oo 2 (.box 85 3 (.t 0)),
 oo 3 (.box 85 3 (.t 1)),
 oo 4 (.asg (.c (.bool false)))]) (.seq (.reg [oo 7 (.faddr 85 0 (.t 2) 0),
 oo 8 (.load 76 (some 2) (.t 7)),
 oo 9 (.faddr 85 0 (.t 3) 0),
 oo 10 (.load 76 (some 2) (.t 9)),
 oc 11 45 [(false, (.t 8)), (false, (.t 10))] [76, 76],
 oo 5 (.asg (.t 11))]) (.seq (.reg [oo 12 (.faddr 85 2 (.t 2) 1),
 oo 13 (.load 74 none (.t 12)),
 oo 14 (.faddr 85 2 (.t 3) 1),
 oo 15 (.load 74 none (.t 14)),
 oc 16 78 [(false, (.t 13)), (false, (.t 15))] [74, 74],
 oo 6 (.asg (.t 16))]) (.seq (.reg [om 17 5,
 om 18 17,
 og 19 (.mv (.t 6)) 1 18 true,
 oo 20 (.pick (.t 18) (.t 19) (.c (.bool false))),
 oo 4 (.asg (.t 20))]) .ret))))
abbrev a6i : Nat := 110
theorem a9i : fnC pg 110 21 [(.tmp 4)] a6p := a0p Go.Proofs.Tryz.f110 [(.tmp 4)] (by kernel_rfl)
@[go_sem] theorem c1r : fnB pg 110 = true := by kernel_rfl
def a9j : IC := (.seq (.reg [oo 1 (.box 85 3 (.t 0)),
 oo 2 (.alloc 85 [.own 1 0 [], .lit (.bool false), .own 1 0 []])]) (.seq (.draw [oo 3 (.faddr 85 0 (.t 1) 0),
 oo 4 (.load 76 (some 2) (.t 3)),
 oc 5 102 [(false, (.t 4))] [76],
 oo 6 (.faddr 85 2 (.t 1) 1),
 oo 7 (.load 74 none (.t 6)),
 oc 8 93 [(false, (.t 7))] [74],
 oo 9 (.build 85 [.own 1 0 [], .lit (.bool false), .own 1 0 []] [(0, 0, 2, (.t 5)), (1, 2, 1, (.t 8))]),
 ov (.store 85 3 (.t 2) (.t 9))] [[], [0], [1], [], [3], [4, 2], [2, 5], [6, 5, 0, 1, 2, 3, 4, 5, 6]]) .ret))
abbrev a8x : Nat := 101
theorem b2w : fnC pg 101 10 [(.cells 2 3)] a9j := a0p Go.Proofs.Tryz.f101 [(.cell 2 85)] (by kernel_rfl)
@[go_sem] theorem c6g : fnB pg 101 = true := by kernel_rfl
def b1p : IC := (.seq (.reg [oo 1 (.box 76 2 (.t 0)),
 oo 2 (.alloc 76 [.own 1 0 [], .lit (.bool false)])]) (.seq (.draw [oo 3 (.faddr 76 0 (.t 1) 0),
 oo 4 (.load 74 none (.t 3)),
 oc 5 93 [(false, (.t 4))] [74],
 oo 6 (.faddr 76 1 (.t 1) 1),
 oo 7 (.load 4 none (.t 6)),
 oo 8 (.build 76 [.own 1 0 [], .lit (.bool false)] [(0, 0, 1, (.t 5)), (1, 1, 1, (.t 7))]),
 ov (.store 76 2 (.t 2) (.t 8))] [[], [0], [1], [], [3], [2, 4], [5, 2, 0, 1, 2, 3, 4, 5]]) .ret))
abbrev a7h : Nat := 102
theorem b4x : fnC pg 102 9 [(.cells 2 2)] b1p := a0p Go.Proofs.Tryz.f102 [(.cell 2 76)] (by kernel_rfl)
@[go_sem] theorem c84 : fnB pg 102 = true := by kernel_rfl
end Go.Ideal.Tryz
end
section
namespace Go.Ideal.Tryz
section
variable {G : GG} {Q : Exit -> St -> Prop} {st : St}
end
end Go.Ideal.Tryz
end
section
namespace Go.Ideal.Tryz
def a30 (k : Int) : Bool := decide (1 <= k /\ k <= 256)
def a46 : List Int -> Int -> Int
 | [], n => n
 | k :: ks, n => a46 ks (n * k)
def a03 (sh : List Int) : Er := if 4 < sh.length then .s 2 else if sh.all a30 = true then (if 16384 < a46 sh 1 then .s 2 else .nil) else .s 3
def c16 (sh : List Int) : Bool := decide (sh.length <= 4) && sh.all a30 && decide (a46 sh 1 <= 16384)
def a22 (sh : List Int) : Int := if c16 sh = true then a46 sh 1 else 0
theorem b47 : ∀ {ks : List Int} {n : Int}, ks.all a30 = true -> 0 <= n -> n <= a46 ks n
 | [], n, _, _ => Int.le_refl _
 | k :: ks, n, h, hn => by
  simp only [List.all_cons, Bool.and_eq_true] at h
  obtain ⟨ha, hb⟩ := h
  simp only [a30, decide_eq_true_eq] at ha
  have h1 : n * 1 <= n * k := Int.mul_le_mul_of_nonneg_left ha.1 hn
  exact Int.le_trans (b := n * k) (by omega) (b47 (ks := ks) (n := n * k) hb (by omega))
theorem a6a {sh : List Int} : a03 sh = .nil ↔ c16 sh = true := by
 unfold a03 c16
 by_cases h1 : 4 < sh.length
 ·have : ¬ sh.length <= 4 := by omega
  simp [h1, this]
 ·have h1' : sh.length <= 4 := by omega
  by_cases h2 : sh.all a30 = true
  ·by_cases h3 : 16384 < a46 sh 1
   ·have : ¬ a46 sh 1 <= 16384 := by omega
    simp [h1, h2, h3, this]
   ·have : a46 sh 1 <= 16384 := by omega
    simp [h1, h1', h2, h3, this]
  ·simp [h1, h2]
theorem a28 (sh : List Int) : a03 sh = .nil \/ a03 sh = .s 2 \/ a03 sh = .s 3 := by
 unfold a03
 split
 ·simp
 ·split
  ·split <;> simp
  ·simp
@[go_sem] theorem a0m {bk : Nat -> Nat × Nat} (e : Er) : a0k (a0s bk e) = true := (d04 e).1
@[go_sem] theorem e1i {bk : Nat -> Nat × Nat} (e : Er) : a0v (a0s bk e) = true := (d04 e).2
section
variable {G : GG} {bk : Nat -> Nat × Nat} {Q : Exit -> St -> Prop} {st : St}
theorem d58 (hS : Sent3 G bk) {sh : List Int} {w : Bool} (hl : sh.length <= 4) (h : st.s 1 = .var [slI sh, lb w] /\ st.s 14 = slI sh /\ st.s 15 = li sh.length /\ st.s 16 = li 0 /\ st.s 3 = li 1)
  (hex : sh.all a30 = true -> ∀ s, s.s 1 = .var [slI sh, lb w] /\ s.s 3 = li 1 -> Q (.exit 0) s) (hret : sh.all a30 = false -> ∀ s, s.s 2 = sv bk 3 -> Q .ret s) : AW pg G 42 (.loop a3u) Q st := by
 refine a08 Nat (fun i st => i <= sh.length /\ (sh.drop i).all a30 = sh.all a30 /\ st.s 1 = .var [slI sh, lb w] /\ st.s 14 = slI sh /\ st.s 15 = li sh.length /\ st.s 16 = li i /\ st.s 3 = li 1) (fun i => sh.length - i) 0 ⟨by simp, rfl, h⟩ ?_
 clear h
 rintro i st K ⟨hi, hm, h⟩ hK
 by_cases hlt : i < sh.length
 ·rw [List.drop_eq_getElem_cons hlt, List.all_cons] at hm
  by_cases k1 : sh[i] < 1
  ·have d : a30 sh[i] = false := by simp [a30]; omega
   rw [d] at hm
   simp (disch := omega) [go_sem, a3u, h, hlt, k1, hS.val]
   exact hret hm.symm _ (by simp (disch := omega) [go_sem])
  ·by_cases k2 : 256 < sh[i]
   ·have d : a30 sh[i] = false := by simp [a30]; omega
    rw [d] at hm
    simp (disch := omega) [go_sem, a3u, h, hlt, k1, k2, hS.val]
    exact hret hm.symm _ (by simp (disch := omega) [go_sem])
   ·have d : a30 sh[i] = true := by simp [a30]; omega
    rw [d] at hm
    simp (disch := omega) [go_sem, a3u, h, hlt, k1, k2, hS.val]
    exact hK (i + 1) _ ⟨by omega, hm, by simp (disch := omega) [go_sem, h]⟩ (by omega)
 ·obtain rfl : i = sh.length := by omega
  rw [List.drop_length] at hm
  simp (disch := omega) [go_sem, a3u, h]
  exact hex hm.symm _ (by simp (disch := omega) [go_sem, h])
theorem d59 (hS : Sent3 G bk) {sh : List Int} (hl : sh.length <= 4) (hd : sh.all a30 = true) (h : st.s 29 = slI sh /\ st.s 30 = li sh.length /\ st.s 31 = li 0 /\ st.s 3 = li 1)
  (hex : a46 sh 1 <= 16384 -> ∀ s, Q (.exit 2) s) (hret : 16384 < a46 sh 1 -> ∀ s, s.s 2 = sv bk 2 -> Q .ret s) : AW pg G 42 (.loop a4n) Q st := by
 refine a08 (Nat × Int) (fun p st => p.1 <= sh.length /\ a46 (sh.drop p.1) p.2 = a46 sh 1 /\ 1 <= p.2 /\ p.2 <= 16384 /\ (sh.drop p.1).all a30 = true /\ st.s 29 = slI sh /\ st.s 30 = li sh.length /\ st.s 31 = li p.1 /\ st.s 3 = li p.2) (fun p => sh.length - p.1) (0, 1) ⟨by simp, rfl, by simp, by simp, by simpa using hd, h⟩ ?_
 clear h
 rintro ⟨i, n⟩ st K ⟨hi, hm, hn1, hn2, ha, h⟩ hK
 simp only at hi hm hn1 hn2 ha h
 by_cases hlt : i < sh.length
 ·rw [List.drop_eq_getElem_cons hlt] at hm ha
  simp only [List.all_cons, Bool.and_eq_true] at ha
  have hd1 := ha.1
  simp only [a30, decide_eq_true_eq] at hd1
  simp only [a46] at hm
  have b1 : n * 1 <= n * sh[i] := Int.mul_le_mul_of_nonneg_left hd1.1 (by omega)
  have b2 : n * sh[i] <= 16384 * 256 := Int.mul_le_mul hn2 hd1.2 (by omega) (by omega)
  by_cases k : 16384 < n * sh[i]
  ·have g := b47 ha.2 (show 0 <= n * sh[i] by omega)
   simp (disch := omega) [go_sem, a4n, h, hlt, k, hS.val]
   exact hret (by omega) _ (by simp (disch := omega) [go_sem])
  ·simp (disch := omega) [go_sem, a4n, h, hlt, k, hS.val]
   exact hK (i + 1, n * sh[i]) _ ⟨by simp only; omega, hm, by simp only; omega, by simp only; omega, ha.2, by simp (disch := omega) [go_sem, h]⟩ (by simp only; omega)
 ·obtain rfl : i = sh.length := by omega
  rw [List.drop_length, a46] at hm
  simp (disch := omega) [go_sem, a4n, h]
  exact hex (by omega) _
theorem a1l (hS : Sent3 G bk) (sh : List Int) (w : Bool) (hlen : sh.length < 2 ^ 62) : ACalls pg G c04 [.agg [slI sh, lb w]] (a0s bk (a03 sh)) := by
 refine b7q rfl ?_
 by_cases h4 : 4 < sh.length
 ·have h4' : (4 : Int) < sh.length := by omega
  simp (disch := omega) [go_sem, a93, h4', a03, h4, hS.val, a0s]
 ·have h4' : ¬ (4 : Int) < sh.length := by omega
  simp (disch := omega) [go_sem, a93, h4', hS.val]
  refine d58 (sh := sh) (w := w) hS (by omega) (by simp (disch := omega) [go_sem]) (fun hd s h => ?_) (fun hd s h => by simp (disch := omega) [go_sem, h, a03, h4, hd, a0s])
  simp (disch := omega) [go_sem, h]
  refine d59 (sh := sh) hS (by omega) hd (by simp (disch := omega) [go_sem, h]) (fun hp s => ?_) (fun hp s h => by simp (disch := omega) [go_sem, h, a03, h4, hd, hp, a0s])
  have hp' : ¬ 16384 < a46 sh 1 := by omega
  simp (disch := omega) [go_sem, a03, h4, hd, hp', a0s]
theorem d8c (hS : Sent3 G bk) (sh : List Int) (hlen : sh.length < 2 ^ 62) : ACalls pg G c2s [slI sh] (lb (c16 sh)) := by
 refine b84 rfl ?_
 simp (disch := omega) [go_sem, b6y]
 have hv := a1l (G := G) hS sh false hlen
 rcases a28 sh with e | e | e <;> rw [e] at hv <;> simp only [a0s] at hv
 ·refine a0b hv rfl rfl ?_
  simp (disch := omega) [go_sem, a6a.1 e]
 all_goals
  have n : c16 sh = false := by
   cases hh : c16 sh
   ·rfl
   ·rw [a6a.2 hh] at e; cases e
  refine a0b hv rfl rfl ?_
  simp (disch := omega) [go_sem, n]
theorem b4o (hS : Sent3 G bk) (sh : List Int) (hlen : sh.length < 2 ^ 62) : ACalls pg G c03 [slI sh] (li (a22 sh)) := by
 refine b7p rfl ?_
 simp (disch := omega) [go_sem, b5h]
 refine a0b (d8c hS sh hlen) rfl rfl ?_
 cases hok : c16 sh with
 | false => simp (disch := omega) [go_sem, hok, a22]
 | true =>
  simp (disch := omega) [go_sem, hok, a22]
  simp only [c16, Bool.and_eq_true, decide_eq_true_eq] at hok
  refine a08 (Nat × Int) (fun p st => p.1 <= sh.length /\ a46 (sh.drop p.1) p.2 = a46 sh 1 /\ 1 <= p.2 /\ (sh.drop p.1).all a30 = true /\ st.s 9 = slI sh /\ st.s 10 = li sh.length /\ st.s 11 = li p.1 /\ st.s 3 = li p.2) (fun p => sh.length - p.1) (0, 1) ⟨by simp, rfl, by simp, by simpa using hok.1.2, by simp (disch := omega) [go_sem]⟩ ?_
  rintro ⟨i, n⟩ st K ⟨hi, hm, hn1, ha, h⟩ hK
  simp only at hi hm hn1 ha h
  by_cases hlt : i < sh.length
  ·rw [List.drop_eq_getElem_cons hlt] at hm ha
   simp only [List.all_cons, Bool.and_eq_true] at ha
   have hd1 := ha.1
   simp only [a30, decide_eq_true_eq] at hd1
   simp only [a46] at hm
   have b1 : n * 1 <= n * sh[i] := Int.mul_le_mul_of_nonneg_left hd1.1 (by omega)
   have g := b47 ha.2 (show 0 <= n * sh[i] by omega)
   simp (disch := omega) [go_sem, a8u, h, hlt]
   exact hK (i + 1, n * sh[i]) _ ⟨by simp only; omega, hm, by simp only; omega, ha.2, by simp (disch := omega) [go_sem, h]⟩ (by simp only; omega)
  ·obtain rfl : i = sh.length := by omega
   rw [List.drop_length, a46] at hm
   simp (disch := omega) [go_sem, a8u, h, hm]
def a32 (sh : List Int) (w : Bool) : Int := if w = true then 4 * a22 sh else a22 sh
theorem a7c (sh : List Int) : 0 <= a22 sh /\ a22 sh <= 16384 := by
 unfold a22
 split
 ·rename_i h
  simp only [c16, Bool.and_eq_true, decide_eq_true_eq] at h
  have := b47 (n := 1) h.1.2 (by omega)
  omega
 ·omega
theorem b7t (hS : Sent3 G bk) (sh : List Int) (w : Bool) (hlen : sh.length < 2 ^ 62) : ACalls pg G c01 [.agg [slI sh, lb w]] (li (a32 sh w)) := by
 refine b7n rfl ?_
 have hr := a7c sh
 cases w <;> simp (disch := omega) [go_sem, b5f] <;> refine a0b (b4o hS sh hlen) rfl rfl ?_ <;> simp (disch := omega) [go_sem, a32]
def b51 (n : Int) (w : Bool) : Bool := if w = true then decide (-2147483648 <= n /\ n <= 2147483647) else decide (-128 <= n /\ n <= 127)
theorem d8e (n : Int) (w : Bool) : ACalls pg G c42 [li n, lb w] (lb (b51 n w)) := by
 refine b9t rfl ?_
 cases w
 ·by_cases h1 : -128 <= n <;> by_cases h2 : n <= 127 <;> simp (disch := omega) [go_sem, b3t, b51, h1, h2]
 ·by_cases h1 : -2147483648 <= n <;> by_cases h2 : n <= 2147483647 <;> simp (disch := omega) [go_sem, b3t, b51, h1, h2]
def a4a (w : Bool) : List Int -> Nat -> Option Nat
 | [], _ => none
 | n :: ns, i => if b51 n w = true then a4a w ns (i + 1) else some i
def c37 : Option Nat -> Er
 | none => .nil
 | some i => .at i (.s 3)
def a95 (sh : List Int) (w : Bool) (data : List Int) : Er := if c16 sh = true then (if (data.length : Int) = a22 sh then c37 (a4a w data 0) else .s 6) else a03 sh
abbrev e3p (sh : List Int) (w : Bool) (data : List Int) : AV := .agg [slI sh, lb w, slI data]
theorem d3b (hS : Sent3 G bk) {sh : List Int} {w : Bool} {data : List Int} (hl : data.length < 2 ^ 62) (h : st.s 1 = .var [slI sh, lb w, slI data] /\ st.s 22 = slI data /\ st.s 23 = li data.length /\ st.s 24 = li 0)
  (hex : a4a w data 0 = none -> ∀ s, Q (.exit 0) s) (hret : ∀ i, a4a w data 0 = some i -> ∀ s, s.s 2 = a0s bk (.at i (.s 3)) -> Q .ret s) : AW pg G 41 (.loop a7b) Q st := by
 refine a08 Nat (fun i st => i <= data.length /\ a4a w (data.drop i) i = a4a w data 0 /\ st.s 1 = .var [slI sh, lb w, slI data] /\ st.s 22 = slI data /\ st.s 23 = li data.length /\ st.s 24 = li i) (fun i => data.length - i) 0 ⟨by simp, rfl, h⟩ ?_
 clear h
 rintro i st K ⟨hi, hm, h⟩ hK
 by_cases hlt : i < data.length
 ·rw [List.drop_eq_getElem_cons hlt, a4a] at hm
  simp (disch := omega) [go_sem, a7b, h, hlt]
  refine a0b (d8e data[i] w) rfl rfl ?_
  cases hf : b51 data[i] w with
  | true =>
   rw [if_pos hf] at hm
   simp (disch := omega) [go_sem, h, hf]
   exact hK (i + 1) _ ⟨by omega, hm, by simp (disch := omega) [go_sem, h]⟩ (by omega)
  | false =>
   rw [if_neg (by simp [hf])] at hm
   simp (disch := omega) [go_sem, h, hf, hS.val]
   exact hret i hm.symm _ (by simp (disch := omega) [go_sem, a0s])
 ·obtain rfl : i = data.length := by omega
  rw [List.drop_length, a4a] at hm
  simp (disch := omega) [go_sem, a7b, h]
  exact hex hm.symm _
theorem d3a (hS : Sent3 G bk) (sh : List Int) (w : Bool) (data : List Int) (hlen : sh.length < 2 ^ 62) (hl : data.length < 2 ^ 62) : ACalls pg G c2t [e3p sh w data] (a0s bk (a95 sh w data)) := by
 refine b89 rfl ?_
 simp (disch := omega) [go_sem, b60]
 have hv := a1l (G := G) hS sh w hlen
 rcases a28 sh with e | e | e
 ·have ok := a6a.1 e
  rw [e] at hv
  simp only [a0s] at hv
  refine a0b hv rfl rfl ?_
  simp (disch := omega) [go_sem]
  refine a0c ?_
  simp (disch := omega) [go_sem]
  refine a0i (b4o hS sh hlen) rfl rfl (by simp) [18] (by simp) (by simp (disch := omega) [go_sem]) ?_
  simp (disch := omega) [go_sem]
  refine a0d (by decide) fun s2 hs he => ?_
  by_cases hn : (data.length : Int) = a22 sh
  ·simp (disch := omega) [go_sem, hs, hn]
   refine d3b (sh := sh) (w := w) (data := data) hS hl (by simp (disch := omega) [go_sem, hs, hn]) (fun hf s => ?_) (fun i hf s h => ?_)
   ·simp (disch := omega) [go_sem, a95, ok, hn, hf, c37, a0s]
   ·simp (disch := omega) [go_sem, a95, ok, hn, hf, c37, h]
  ·simp (disch := omega) [go_sem, hs, hn, hS.val, a95, ok, a0s]
 all_goals
  have ok : c16 sh = false := by
   cases hh : c16 sh
   ·rfl
   ·rw [a6a.2 hh] at e; cases e
  rw [e] at hv
  simp only [a0s] at hv
  refine a0b hv rfl rfl ?_
  simp (disch := omega) [go_sem, a95, ok, e, a0s]
end
end Go.Ideal.Tryz
end
section
namespace Go.Ideal.Tryz
@[go_sem] theorem e78 (xs : List Int) : a1f (xs.map lu) = true := b57 fun x => by simp only [a09]
@[go_sem] theorem e8h (xs : List Int) : a0z (xs.map lu) = true := b59 fun x => by simp only [a0v]
@[go_sem] theorem f0s {α : Type} {f : α -> AV} {xs : List α} {a : AV} : List.take (xs.length + 1) (xs.map f ++ [a]) = xs.map f ++ [a] := List.take_of_length_le (by simp)
@[go_sem] theorem f0t {α : Type} {f : α -> AV} {xs : List α} {a b : AV} : List.take (xs.length + 2) (xs.map f ++ [a, b]) = xs.map f ++ [a, b] := List.take_of_length_le (by simp)
section
variable {G : GG} {bk : Nat -> Nat × Nat} {Q : Exit -> St -> Prop} {st : St}
theorem d43 (n : Int) (w : Bool) : ACalls pg G b9j [li n, lb w] (lb (b51 n w)) := by
 refine b55 rfl ?_
 cases w
 ·by_cases h1 : -128 <= n <;> by_cases h2 : n <= 127 <;> simp (disch := omega) [go_sem, a8p, b51, h1, h2]
 ·by_cases h1 : -2147483648 <= n <;> by_cases h2 : n <= 2147483647 <;> simp (disch := omega) [go_sem, a8p, b51, h1, h2]
def b0a (sh : List Int) : Int := (a03 sh).flt.1
theorem a6e (sh : List Int) (w : Bool) (hlen : sh.length < 2 ^ 62) : ACalls pg G b00 [.agg [slI sh, lb w]] (li (b0a sh)) := by
 refine a9c rfl ?_
 have c2 : (Er.s 2).flt.1 = 104 := by decide
 have c3 : (Er.s 3).flt.1 = 102 := by decide
 have c0 : Er.nil.flt.1 = 0 := rfl
 by_cases h4 : 4 < sh.length
 ·have h4' : (4 : Int) < sh.length := by omega
  simp (disch := omega) [go_sem, a34, h4', b0a, a03, h4, c2]
 ·have h4' : ¬ (4 : Int) < sh.length := by omega
  simp (disch := omega) [go_sem, a34, h4']
  refine a08 (Nat × Int) (fun p st => p.1 <= sh.length /\ (sh.drop p.1).all a30 = sh.all a30 /\ a46 (sh.drop p.1) p.2 = a46 sh 1 /\ 1 <= p.2 /\ p.2 <= 256 ^ p.1 /\ st.s 1 = .var [slI sh, lb w] /\ st.s 3 = li p.2 /\ st.s 4 = li p.1) (fun p => sh.length - p.1) (0, 1) ⟨by simp, rfl, rfl, by simp, by simp, by simp (disch := omega) [go_sem]⟩ ?_
  rintro ⟨i, n⟩ st K ⟨hi, ha, hm, hn1, hn2, h⟩ hK
  simp only at hi ha hm hn1 hn2 h
  by_cases hlt : i < sh.length
  ·rw [List.drop_eq_getElem_cons hlt] at hm ha
   rw [List.all_cons] at ha
   simp only [a46] at hm
   by_cases k1 : sh[i] < 1
   ·have d : a30 sh[i] = false := by simp [a30]; omega
    rw [d] at ha
    have ha' : sh.all a30 = false := ha.symm
    simp (disch := omega) [go_sem, a1z, h, hlt, k1, b0a, a03, h4, ha', c3]
   ·by_cases k2 : 256 < sh[i]
    ·have d : a30 sh[i] = false := by simp [a30]; omega
     rw [d] at ha
     have ha' : sh.all a30 = false := ha.symm
     simp (disch := omega) [go_sem, a1z, h, hlt, k1, k2, b0a, a03, h4, ha', c3]
    ·have d : a30 sh[i] = true := by simp [a30]; omega
     rw [d] at ha
     have b1 : n * 1 <= n * sh[i] := Int.mul_le_mul_of_nonneg_left (by omega) (by omega)
     have b2 : n * sh[i] <= 256 ^ i * 256 := Int.mul_le_mul hn2 (by omega) (by omega) (by omega)
     have b3 : (256 : Int) ^ i * 256 <= 4294967296 := by
      have : i = 0 \/ i = 1 \/ i = 2 \/ i = 3 := by omega
      rcases this with rfl | rfl | rfl | rfl <;> decide
     simp (disch := omega) [go_sem, a1z, h, hlt, k1, k2]
     exact hK (i + 1, n * sh[i]) _ ⟨by simp only; omega, ha, hm, by simp only; omega, by simp only; rw [Int.pow_succ]; exact b2, by simp (disch := omega) [go_sem, h]⟩ (by simp only; omega)
  ·obtain rfl : i = sh.length := by omega
   rw [List.drop_length] at hm ha
   rw [a46] at hm
   have ha' : sh.all a30 = true := ha.symm
   subst hm
   by_cases k : 16384 < a46 sh 1
   ·simp (disch := omega) [go_sem, a1z, h, k, b0a, a03, h4, ha', c2]
   ·simp (disch := omega) [go_sem, a1z, h, k, b0a, a03, h4, ha', c0]
theorem b4m {sh : List Int} : b0a sh = 0 ↔ c16 sh = true := by
 rw [<- a6a]
 unfold b0a
 rcases a28 sh with e | e | e <;> rw [e]
 ·simp [Er.flt]
 ·exact ⟨fun h => absurd h (by decide), fun h => by cases h⟩
 ·exact ⟨fun h => absurd h (by decide), fun h => by cases h⟩
theorem a7v (sh : List Int) (hlen : sh.length < 2 ^ 62) : ACalls pg G b5s [slI sh] (li (a22 sh)) := by
 refine b2q rfl ?_
 simp (disch := omega) [go_sem, a89]
 refine a0b (a6e sh false hlen) rfl rfl ?_
 by_cases hok : c16 sh = true
 ·have hc := b4m.2 hok
  simp (disch := omega) [go_sem, hc]
  have hok0 := hok
  simp only [c16, Bool.and_eq_true, decide_eq_true_eq] at hok
  refine a08 (Nat × Int) (fun p st => p.1 <= sh.length /\ a46 (sh.drop p.1) p.2 = a46 sh 1 /\ 1 <= p.2 /\ (sh.drop p.1).all a30 = true /\ st.s 0 = slI sh /\ st.s 3 = li p.2 /\ st.s 4 = li p.1) (fun p => sh.length - p.1) (0, 1) ⟨by simp, rfl, by simp, by simpa using hok.1.2, by simp (disch := omega) [go_sem]⟩ ?_
  rintro ⟨i, n⟩ st K ⟨hi, hm, hn1, ha, h⟩ hK
  simp only at hi hm hn1 ha h
  by_cases hlt : i < sh.length
  ·rw [List.drop_eq_getElem_cons hlt] at hm ha
   simp only [List.all_cons, Bool.and_eq_true] at ha
   have hd1 := ha.1
   simp only [a30, decide_eq_true_eq] at hd1
   simp only [a46] at hm
   have b1 : n * 1 <= n * sh[i] := Int.mul_le_mul_of_nonneg_left hd1.1 (by omega)
   have g := b47 ha.2 (show 0 <= n * sh[i] by omega)
   simp (disch := omega) [go_sem, a5b, h, hlt]
   exact hK (i + 1, n * sh[i]) _ ⟨by simp only; omega, hm, by simp only; omega, ha.2, by simp (disch := omega) [go_sem, h]⟩ (by simp only; omega)
  ·obtain rfl : i = sh.length := by omega
   rw [List.drop_length, a46] at hm
   simp (disch := omega) [go_sem, a5b, h, hm, a22, hok0]
 ·have hc : ¬ b0a sh = 0 := fun hc => hok (b4m.1 hc)
  simp (disch := omega) [go_sem, hc, a22, hok]
theorem d50 (sh : List Int) (w : Bool) (data : List Int) (hlen : sh.length < 2 ^ 62) (hl : data.length < 2 ^ 62) : ACalls pg G b5t [e3p sh w data] (fl (a95 sh w data).flt) := by
 refine b2s rfl ?_
 simp (disch := omega) [go_sem, a9d]
 refine a0b (a6e sh w hlen) rfl rfl ?_
 by_cases ok : c16 sh = true
 ·have hc := b4m.2 ok
  simp (disch := omega) [go_sem, hc]
  refine a0c ?_
  simp (disch := omega) [go_sem]
  refine a0i (a7v sh hlen) rfl rfl (by simp) [18] (by simp) (by simp (disch := omega) [go_sem]) ?_
  simp (disch := omega) [go_sem]
  refine a0d (by decide) fun s2 hs he => ?_
  by_cases hn : (data.length : Int) = a22 sh
  ·simp (disch := omega) [go_sem, hs, hn]
   refine a08 Nat (fun i st => i <= data.length /\ a4a w (data.drop i) i = a4a w data 0 /\ st.s 1 = .var [slI sh, lb w, slI data] /\ st.s 2 = .var [li 0, lb false, li 0] /\ st.s 4 = li i) (fun i => data.length - i) 0 ⟨by simp, rfl, by simp (disch := omega) [go_sem, hs]⟩ ?_
   rintro i st K ⟨hi, hm, h⟩ hK
   by_cases hlt : i < data.length
   ·rw [List.drop_eq_getElem_cons hlt, a4a] at hm
    simp (disch := omega) [go_sem, a5c, h, hlt]
    refine a0c ?_
    simp (disch := omega) [go_sem, h, hlt]
    refine a0i (d43 data[i] w) rfl rfl (by simp) [36] (by simp) (by simp (disch := omega) [go_sem, h]) ?_
    simp (disch := omega) [go_sem, h]
    refine a0d (by decide) fun s3 hs3 he3 => ?_
    cases hf : b51 data[i] w with
    | true =>
     rw [if_pos hf] at hm
     simp (disch := omega) [go_sem, hs3, h, hf]
     exact hK (i + 1) _ ⟨by omega, hm, by simp (disch := omega) [go_sem, hs3, h]⟩ (by omega)
    | false =>
     rw [if_neg (by simp [hf])] at hm
     simp (disch := omega) [go_sem, hs3, h, hf]
     refine a0b (b7x G 102 i) (by rfl) (by rfl) ?_
     simp (disch := omega) [go_sem, hs3, h]
     simp [a95, ok, hn, <- hm, c37, Er.flt]
     decide
   ·obtain rfl : i = data.length := by omega
    rw [List.drop_length, a4a] at hm
    simp (disch := omega) [go_sem, a5c, h]
    refine a0b (c31 G) rfl rfl ?_
    simp (disch := omega) [go_sem, h, a95, ok, hn, <- hm, c37, Er.flt]
  ·simp (disch := omega) [go_sem, hs, hn]
   refine a0b (b91 101) rfl rfl ?_
   simp (disch := omega) [go_sem, hs, a95, ok, hn, Er.flt]
   decide
 ·have hc : ¬ b0a sh = 0 := fun hc => ok (b4m.1 hc)
  simp (disch := omega) [go_sem, hc]
  refine a0b (b91 _) rfl rfl ?_
  simp (disch := omega) [go_sem, a95, ok, b0a]
  rcases a28 sh with e | e | e <;> simp [e, Er.flt]
end
end Go.Ideal.Tryz
end
section
namespace Go.Ideal.Tryz
structure Gr where
 nodes : List Nd
 out : Int
def d75 (n : Nd) : List AV := [li n.op, owI n.ins, owI n.args, owI n.shape, lb n.wide, owI n.data]
@[go_sem] theorem f2i {xs : List Nd} : (fm d75 xs).length = xs.length * 6 := b0c fun _ => rfl
@[go_sem] theorem e5k {xs : List Nd} : (fm d75 xs).take (xs.length * 6) = fm d75 xs := a7m fun _ => rfl
@[go_sem] theorem f2h {xs : List Nd} : a2g (fm d75 xs) = fm b93 xs := by
 rw [b1f]
 congr 1
 funext n
 simp [d75, b93, go_sem]
@[go_sem] theorem e1j {xs : List Nd} : a1f (fm d75 xs) = true := b4q fun n => by simp [d75, go_sem]
theorem b8q (xs : List Int) : a09 (owI xs) = true := by simp only [a09]; exact a3g xs
section
variable {G : GG} {bk : Nat -> Nat × Nat} {Q : Exit -> St -> Prop} {st : St}
theorem c66 (sh : List Int) (w : Bool) (hlen : sh.length < 2 ^ 62) : ACalls pg G b5w [.agg [slI sh, lb w]] (lb (decide (sh.length <= 8))) := by
 refine b2x rfl ?_
 by_cases h : sh.length <= 8
 ·have h' : (sh.length : Int) <= 8 := by omega
  simp (disch := omega) [go_sem, a5y, h, h']
 ·have h' : ¬ (sh.length : Int) <= 8 := by omega
  simp (disch := omega) [go_sem, a5y, h, h']
theorem e0e (sh : List Int) (w : Bool) (data : List Int) (m : Nat) (hlen : sh.length < 2 ^ 62) : ACalls pg G b3c [e3p sh w data, li m] (lb (decide (sh.length <= 8) && decide (data.length <= m))) := by
 refine b0w rfl ?_
 simp (disch := omega) [go_sem, a7t]
 refine a0b (c66 sh w hlen) rfl rfl ?_
 by_cases h : sh.length <= 8
 ·by_cases h2 : data.length <= m
  ·have h2' : (data.length : Int) <= m := by omega
   simp (disch := omega) [go_sem, h, h2, h2']
  ·have h2' : ¬ (data.length : Int) <= m := by omega
   simp (disch := omega) [go_sem, h, h2, h2']
 ·simp (disch := omega) [go_sem, h]
structure Nd.fin (n : Nd) : Prop where
 ins : n.ins.length < 2 ^ 62
 args : n.args.length < 2 ^ 62
 shape : n.shape.length < 2 ^ 62
 data : n.data.length < 2 ^ 62
theorem c7e (sh : List Int) (w : Bool) (hlen : sh.length < 2 ^ 40) : ACalls pg G a7h [.agg [slI sh, lb w]] (.agg [owI sh, lb w]) := by
 refine b4x rfl ?_
 simp (disch := omega) [go_sem, b1p]
 refine a0c ?_
 simp (disch := omega) [go_sem]
 refine a0i (d1j G sh hlen) rfl (b8q _) (by simp) [5] (by simp) (by simp (disch := omega) [go_sem]) ?_
 simp (disch := omega) [go_sem]
 refine a0d (by decide) fun s2 hs he => ?_
 simp (disch := omega) [go_sem, hs]
theorem d38 (sh : List Int) (w : Bool) (data : List Int) (hlen : sh.length < 2 ^ 40) (hl : data.length < 2 ^ 40) : ACalls pg G a8x [e3p sh w data] (.agg [owI sh, lb w, owI data]) := by
 refine b2w rfl ?_
 simp (disch := omega) [go_sem, a9j]
 refine a0c ?_
 simp (disch := omega) [go_sem]
 refine a0i (c7e sh w hlen) rfl (by simp [a09, a1f, a3g]) (by simp) [5] (by simp) (by simp (disch := omega) [go_sem]) ?_
 simp (disch := omega) [go_sem]
 refine a0i (d1j G data hl) rfl (b8q _) (by simp) [8] (by simp) (by simp (disch := omega) [go_sem]) ?_
 simp (disch := omega) [go_sem]
 refine a0d (by decide) fun s2 hs he => ?_
 simp (disch := omega) [go_sem, hs]
structure Nd.sh (n : Nd) : Prop where
 ins : n.ins.length < 2 ^ 36
 args : n.args.length < 2 ^ 36
 shape : n.shape.length < 2 ^ 36
 data : n.data.length < 2 ^ 36
theorem c6z (sh : List Int) (w : Bool) (hlen : sh.length < 2 ^ 62) : ACalls pg G a4u [.agg [slI sh, lb w], .agg [slI sh, lb w]] (lb true) := by
 refine a5r rfl ?_
 simp (disch := omega) [go_sem, a4w]
 refine a0b (a9p hlen) rfl rfl ?_
 simp (disch := omega) [go_sem]
theorem d52 (sh : List Int) (w : Bool) (data : List Int) (hlen : sh.length < 2 ^ 62) (hl : data.length < 2 ^ 62) : ACalls pg G a6i [e3p sh w data, e3p sh w data] (lb true) := by
 refine a9i rfl ?_
 simp (disch := omega) [go_sem, a6p]
 refine a0b (c6z sh w hlen) rfl rfl ?_
 simp (disch := omega) [go_sem]
 refine a0b (a9p hl) rfl rfl ?_
 simp (disch := omega) [go_sem]
end
end Go.Ideal.Tryz
end
section
namespace Go.Ideal.Tryz
section
variable {G : GG} {bk : Nat -> Nat × Nat} {Q : Exit -> St -> Prop} {st : St}
theorem b9d (sh : List Int) (w : Bool) (data : List Int) : a95 sh w data = .nil \/ (∃ g, g < 21 /\ a95 sh w data = .s g) \/ ∃ p g, g < 21 /\ a95 sh w data = .at p (.s g) := by
 unfold a95
 split
 ·split
  ·cases a4a w data 0 with
   | none => exact .inl rfl
   | some i => exact .inr (.inr ⟨i, 3, by decide, rfl⟩)
  ·exact .inr (.inl ⟨6, by decide, rfl⟩)
 ·rcases a28 sh with e | e | e <;> rw [e]
  ·exact .inl rfl
  ·exact .inr (.inl ⟨2, by decide, rfl⟩)
  ·exact .inr (.inl ⟨3, by decide, rfl⟩)
end
end Go.Ideal.Tryz
end
section
namespace Go.Ideal.Tryz
structure Nd.good (n : Nd) : Prop where
 ins : n.ins.length <= 8
 args : n.args.length <= 8
 tens : n.op = 2 -> a95 n.shape n.wide n.data = .nil
section
variable {G : GG} {bk : Nat -> Nat × Nat} {Q : Exit -> St -> Prop} {st : St}
end
end Go.Ideal.Tryz
end
section
namespace Go.Ideal
theorem c3i {α : Type} {f : α -> List AV} {k : Nat} {xs : List α} (hf : ∀ x, (f x).length = k) {i j : Nat} (h : i < xs.length) (hj : j < k) : (fm f xs)[i * k + j]? = (f xs[i])[j]? := by
 have h1 := b8f (f := f) (k := k) hf h
 rw [<- h1, List.getElem?_take, if_pos hj, List.getElem?_drop]
theorem d6s {α : Type} {f : α -> List AV} {k : Nat} {xs : List α} (hf : ∀ x, (f x).length = k) {i j m : Nat} (h : i < xs.length) (hj : j + m <= k) : ((fm f xs).drop (i * k + j)).take m = ((f xs[i]).drop j).take m := by
 have h1 := b8f (f := f) (k := k) hf h
 rw [<- h1, List.drop_take, List.take_take, List.drop_drop, Nat.min_eq_left (by omega)]
namespace Tryz
section
variable {xs : List Nd} {i : Nat}
@[go_sem] theorem g3s (h : i < xs.length) : (fm b93 xs)[i * 6]? = some (li xs[i].op) := c3i (f := b93) (k := 6) (j := 0) (fun _ => rfl) h (by omega)
@[go_sem] theorem g3t (h : i < xs.length) : (fm b93 xs)[i * 6 + 1]? = some (slI xs[i].ins) := c3i (f := b93) (k := 6) (fun _ => rfl) h (by omega)
@[go_sem] theorem g3u (h : i < xs.length) : (fm b93 xs)[i * 6 + 2]? = some (slI xs[i].args) := c3i (f := b93) (k := 6) (fun _ => rfl) h (by omega)
@[go_sem] theorem g3v (h : i < xs.length) : ((fm b93 xs).drop (i * 6 + 3)).take 3 = [slI xs[i].shape, lb xs[i].wide, slI xs[i].data] := d6s (f := b93) (k := 6) (fun _ => rfl) h (by omega)
end
section
variable {G : GG} {bk : Nat -> Nat × Nat} {Q : Exit -> St -> Prop} {st : St}
end
end Tryz
end Go.Ideal
end
section
namespace Go.Ideal.Tryz
def Er.isNil : Er -> Bool
 | .nil => true
 | _ => false
section
variable {G : GG} {bk : Nat -> Nat × Nat} {Q : Exit -> St -> Prop} {st : St}
end
end Go.Ideal.Tryz
end
section
namespace Go.Ideal.Tryz
section
variable {G : GG} {bk : Nat -> Nat × Nat} {Q : Exit -> St -> Prop} {st : St}
end
end Go.Ideal.Tryz
end
section
namespace Go.Ideal.Tryz
@[go_sem] def lodgeworld_Plan_r3 : List AO := [oo 3 (.asg (.n 0))]
def a23 : IC := (.seq (.seq (.reg [om 28 3,
 oo 29 (.faddr 27 1 (.t 1) 1),
 oo 30 (.load 22 none (.t 29)),
 oo 31 (.len 22 false (.t 30)),
 oo 32 (.bin .lss 3 0 (.t 28) (.t 31) 3)]) (.cond (.t 32) .skip (.exit 0))) (.seq (.block 1 (.seq (.reg [oo 35 (.faddr 27 1 (.t 1) 1),
 oo 36 (.load 22 none (.t 35)),
 om 37 3,
 oo 38 (.iaddr 22 3 (.t 36) (.t 37)),
 oo 39 (.faddr 78 1 (.t 38) 1),
 oo 40 (.load 76 (some 2) (.t 39)),
 oc 41 37 [(false, (.t 40))] [76],
 oo 42 (.un .not 4 (.t 41))]) (.cond (.t 42) (.seq (.reg [oo 2 (.asg (.c (.bool false)))]) .ret) .skip))) (.reg [om 33 3,
 oo 34 (.bin .add 3 0 (.t 33) (.n 1) 3),
 oo 3 (.asg (.t 34))])))
@[go_sem] def lodgeworld_Plan_r8 : List AO := [oo 4 (.asg (.n 0))]
def a24 : IC := (.seq (.seq (.reg [om 43 4,
 oo 44 (.faddr 27 3 (.t 1) 3),
 oo 45 (.load 24 none (.t 44)),
 oo 46 (.len 24 false (.t 45)),
 oo 47 (.bin .lss 3 0 (.t 43) (.t 46) 3)]) (.cond (.t 47) .skip (.exit 2))) (.seq (.block 3 (.seq (.reg [oo 50 (.faddr 27 3 (.t 1) 3),
 oo 51 (.load 24 none (.t 50)),
 om 52 4,
 oo 53 (.iaddr 24 2 (.t 51) (.t 52)),
 oo 54 (.load 76 (some 2) (.t 53)),
 oc 55 37 [(false, (.t 54))] [76],
 oo 56 (.un .not 4 (.t 55))]) (.cond (.t 56) (.seq (.reg [oo 2 (.asg (.c (.bool false)))]) .ret) .skip))) (.reg [om 48 4,
 oo 49 (.bin .add 3 0 (.t 48) (.n 1) 3),
 oo 4 (.asg (.t 49))])))
@[go_sem] def lodgeworld_Plan_r13 : List AO := [oo 5 (.asg (.n 0))]
def a15 : IC := (.seq (.seq (.reg [om 57 5,
 oo 58 (.faddr 27 4 (.t 1) 4),
 oo 59 (.load 25 none (.t 58)),
 oo 60 (.len 25 false (.t 59)),
 oo 61 (.bin .lss 3 0 (.t 57) (.t 60) 3)]) (.cond (.t 61) .skip (.exit 4))) (.seq (.block 5 (.seq (.reg [oo 64 (.faddr 27 4 (.t 1) 4),
 oo 65 (.load 25 none (.t 64)),
 om 66 5,
 oo 67 (.iaddr 25 6 (.t 65) (.t 66)),
 oo 68 (.faddr 80 2 (.t 67) 2),
 oo 69 (.load 74 none (.t 68)),
 oo 70 (.len 74 false (.t 69)),
 oo 71 (.bin .gtr 3 0 (.t 70) (.n 10) 3),
 om 72 71,
 og 73 (.faddr 27 4 (.t 1) 4) 8 72 false,
 og 74 (.load 25 none (.t 73)) 8 72 false,
 og 75 (.mv (.t 5)) 8 72 false,
 og 76 (.iaddr 25 6 (.t 74) (.t 75)) 8 72 false,
 og 77 (.faddr 80 3 (.t 76) 3) 8 72 false,
 og 78 (.load 74 none (.t 77)) 8 72 false,
 og 79 (.len 74 false (.t 78)) 8 72 false,
 og 80 (.bin .gtr 3 0 (.t 79) (.n 10) 3) 8 72 false,
 oo 81 (.pick (.t 72) (.c (.bool true)) (.t 80))]) (.cond (.t 81) (.seq (.reg [oo 2 (.asg (.c (.bool false)))]) .ret) .skip))) (.reg [om 62 5,
 oo 63 (.bin .add 3 0 (.t 62) (.n 1) 3),
 oo 5 (.asg (.t 63))])))
@[go_sem] def lodgeworld_Plan_r18 : List AO := [oo 2 (.asg (.c (.bool true)))]
def a2v : IC := (.seq (.reg [oo 1 (.box 27 7 (.t 0)),
 oo 2 (.asg (.c (.bool false)))]) (.seq (.seq (.reg [oo 6 (.faddr 27 1 (.t 1) 1),
 oo 7 (.load 22 none (.t 6)),
 oo 8 (.len 22 false (.t 7)),
 oo 9 (.bin .gtr 3 0 (.t 8) (.n 140) 3),
 om 10 9,
 og 11 (.faddr 27 3 (.t 1) 3) 4 10 false,
 og 12 (.load 24 none (.t 11)) 4 10 false,
 og 13 (.len 24 false (.t 12)) 4 10 false,
 og 14 (.bin .gtr 3 0 (.t 13) (.n 10) 3) 4 10 false,
 oo 15 (.pick (.t 10) (.c (.bool true)) (.t 14)),
 om 16 15,
 og 17 (.faddr 27 4 (.t 1) 4) 10 16 false,
 og 18 (.load 25 none (.t 17)) 10 16 false,
 og 19 (.len 25 false (.t 18)) 10 16 false,
 og 20 (.bin .gtr 3 0 (.t 19) (.n 300) 3) 10 16 false,
 oo 21 (.pick (.t 16) (.c (.bool true)) (.t 20)),
 om 22 21,
 og 23 (.faddr 27 2 (.t 1) 2) 16 22 false,
 og 24 (.load 23 none (.t 23)) 16 22 false,
 ⟨(some 25), .call 36 [(false, (.t 24)), (false, (.n 70)), (false, (.n 300))] [23, 3, 3], (some (16, 22, false))⟩,
 og 26 (.un .not 4 (.t 25)) 16 22 false,
 oo 27 (.pick (.t 22) (.c (.bool true)) (.t 26))]) (.cond (.t 27) (.seq (.reg [oo 2 (.asg (.c (.bool false)))]) .ret) .skip)) (.seq (.seq (.reg lodgeworld_Plan_r3) (.block 0 (.loop a23))) (.seq (.seq (.reg lodgeworld_Plan_r8) (.block 2 (.loop a24))) (.seq (.seq (.reg lodgeworld_Plan_r13) (.block 4 (.loop a15))) (.seq (.reg lodgeworld_Plan_r18) .ret))))))
abbrev b5x : Nat := 8
theorem b2y : fnC pg 8 82 [(.tmp 2)] a2v := a0p Go.Proofs.Tryz.f8 [(.tmp 2)] (by kernel_rfl)
@[go_sem] theorem c6i : fnB pg 8 = true := by kernel_rfl
def a37 : IC := (.seq (.seq (.reg [om 12 7,
 om 13 0,
 oo 14 (.len 23 false (.t 13)),
 oo 15 (.bin .lss 3 0 (.t 12) (.t 14) 3)]) (.cond (.t 15) .skip (.exit 0))) (.seq (.block 1 (.seq (.reg [om 18 0,
 om 19 7,
 oo 20 (.iaddr 23 3 (.t 18) (.t 19)),
 oo 21 (.load 85 (some 3) (.t 20)),
 om 22 2,
 oc 23 64 [(false, (.t 21)), (false, (.t 22))] [85, 3],
 oo 24 (.un .not 4 (.t 23))]) (.cond (.t 24) (.seq (.reg [oo 6 (.asg (.c (.bool false)))]) .ret) .skip))) (.reg [om 16 7,
 oo 17 (.bin .add 3 0 (.t 16) (.n 1) 3),
 oo 7 (.asg (.t 17))])))
def a4h : IC := (.seq (.reg [oo 6 (.asg (.c (.bool false)))]) (.seq (.seq (.reg [om 8 0,
 oo 9 (.len 23 false (.t 8)),
 om 10 1,
 oo 11 (.bin .gtr 3 0 (.t 9) (.t 10) 3)]) (.cond (.t 11) (.seq (.reg [oo 6 (.asg (.c (.bool false)))]) .ret) .skip)) (.seq (.seq (.reg [oo 7 (.asg (.n 0))]) (.block 0 (.loop a37))) (.seq (.reg [oo 6 (.asg (.c (.bool true)))]) .ret))))
abbrev b2j : Nat := 36
theorem a91 : fnC pg 36 25 [(.tmp 6)] a4h := a0p Go.Proofs.Tryz.f36 [(.tmp 6)] (by kernel_rfl)
@[go_sem] theorem c2j : fnB pg 36 = true := by kernel_rfl
def a7q : IC := (.seq (.reg [oo 2 (.box 27 7 (.t 0)),
 oo 3 (.box 27 7 (.t 1)),
 oo 4 (.asg (.c (.bool false)))]) (.seq (.reg [oo 9 (.faddr 27 1 (.t 2) 1),
 oo 10 (.load 22 none (.t 9)),
 oo 11 (.faddr 27 1 (.t 3) 1),
 oo 12 (.load 22 none (.t 11)),
 oc 13 60 [(false, (.t 10)), (false, (.t 12))] [22, 22],
 oo 5 (.asg (.t 13))]) (.seq (.reg [oo 14 (.faddr 27 2 (.t 2) 2),
 oo 15 (.load 23 none (.t 14)),
 oo 16 (.faddr 27 2 (.t 3) 2),
 oo 17 (.load 23 none (.t 16)),
 oc 18 61 [(false, (.t 15)), (false, (.t 17))] [23, 23],
 oo 6 (.asg (.t 18))]) (.seq (.reg [oo 19 (.faddr 27 3 (.t 2) 3),
 oo 20 (.load 24 none (.t 19)),
 oo 21 (.faddr 27 3 (.t 3) 3),
 oo 22 (.load 24 none (.t 21)),
 oc 23 62 [(false, (.t 20)), (false, (.t 22))] [24, 24],
 oo 7 (.asg (.t 23))]) (.seq (.reg [oo 24 (.faddr 27 4 (.t 2) 4),
 oo 25 (.load 25 none (.t 24)),
 oo 26 (.faddr 27 4 (.t 3) 4),
 oo 27 (.load 25 none (.t 26)),
 oc 28 63 [(false, (.t 25)), (false, (.t 27))] [25, 25],
 oo 8 (.asg (.t 28))]) (.seq (.reg [om 29 5,
 om 30 29,
 og 31 (.mv (.t 6)) 1 30 true,
 oo 32 (.pick (.t 30) (.t 31) (.c (.bool false))),
 om 33 32,
 og 34 (.mv (.t 7)) 4 33 true,
 oo 35 (.pick (.t 33) (.t 34) (.c (.bool false))),
 om 36 35,
 og 37 (.mv (.t 8)) 7 36 true,
 oo 38 (.pick (.t 36) (.t 37) (.c (.bool false))),
 om 39 38,
 og 40 (.faddr 27 0 (.t 2) 0) 10 39 true,
 og 41 (.load 3 none (.t 40)) 10 39 true,
 og 42 (.faddr 27 0 (.t 3) 0) 10 39 true,
 og 43 (.load 3 none (.t 42)) 10 39 true,
 og 44 (.bin .eql 3 0 (.t 41) (.t 43) 3) 10 39 true,
 oo 45 (.pick (.t 39) (.t 44) (.c (.bool false))),
 om 46 45,
 og 47 (.faddr 27 5 (.t 2) 5) 17 46 true,
 og 48 (.load 3 none (.t 47)) 17 46 true,
 og 49 (.faddr 27 5 (.t 3) 5) 17 46 true,
 og 50 (.load 3 none (.t 49)) 17 46 true,
 og 51 (.bin .eql 3 0 (.t 48) (.t 50) 3) 17 46 true,
 oo 52 (.pick (.t 46) (.t 51) (.c (.bool false))),
 om 53 52,
 og 54 (.faddr 27 6 (.t 2) 6) 24 53 true,
 og 55 (.load 3 none (.t 54)) 24 53 true,
 og 56 (.faddr 27 6 (.t 3) 6) 24 53 true,
 og 57 (.load 3 none (.t 56)) 24 53 true,
 og 58 (.bin .eql 3 0 (.t 55) (.t 57) 3) 24 53 true,
 oo 59 (.pick (.t 53) (.t 58) (.c (.bool false))),
 oo 4 (.asg (.t 59))]) .ret))))))
abbrev b29 : Nat := 20
theorem b0t : fnC pg 20 60 [(.tmp 4)] a7q := a0p Go.Proofs.Tryz.f20 [(.tmp 4)] (by kernel_rfl)
@[go_sem] theorem c3s : fnB pg 20 = true := by kernel_rfl
def b5g : IC := (.seq (.reg [oo 1 (.box 76 2 (.t 0)),
 oo 2 (.alloc 76 [.own 1 0 [], .lit (.bool false)])]) (.seq (.draw [oo 3 (.faddr 76 0 (.t 1) 0),
 oo 4 (.load 74 none (.t 3)),
 oc 5 123 [(false, (.t 4))] [74],
 oo 6 (.faddr 76 1 (.t 1) 1),
 oo 7 (.load 4 none (.t 6)),
 oo 8 (.build 76 [.own 1 0 [], .lit (.bool false)] [(0, 0, 1, (.t 5)), (1, 1, 1, (.t 7))]),
 ov (.store 76 2 (.t 2) (.t 8))] [[], [0], [1], [], [3], [2, 4], [5, 2, 0, 1, 2, 3, 4, 5]]) .ret))
abbrev c02 : Nat := 154
theorem b7o : fnC pg 154 9 [(.cells 2 2)] b5g := a0p Go.Proofs.Tryz.f154 [(.cell 2 76)] (by kernel_rfl)
@[go_sem] theorem d2w : fnB pg 154 = true := by kernel_rfl
def a8i : IC := (.seq (.reg [oo 2 (.asg (.nl 1))]) (.seq (.seq (.reg [om 3 0,
 ⟨(some 4), .nilq 74 (.t 3) 74, none⟩]) (.cond (.t 4) (.seq (.reg [oo 2 (.asg (.nl 1))]) .ret) .skip)) (.seq (.reg [oo 5 (.bslice 74 3 1 0 [.lit (.int .i64 0)] []),
 om 6 0,
 oo 7 (.app 74 3 1 8 (.t 5) (.t 6)),
 oo 2 (.asg (.t 7))]) .ret)))
abbrev b36 : Nat := 123
theorem b14 : fnC pg 123 8 [(.tmp 2)] a8i := a0p Go.Proofs.Tryz.f123 [(.tmp 2)] (by kernel_rfl)
@[go_sem] theorem c4z : fnB pg 123 = true := by kernel_rfl
def b13 : IC := (.seq (.reg [oo 2 (.box 76 2 (.t 0)),
 oo 3 (.box 76 2 (.t 1)),
 oo 4 (.asg (.c (.bool false)))]) (.seq (.reg [oo 5 (.faddr 76 1 (.t 2) 1),
 oo 6 (.load 4 none (.t 5)),
 oo 7 (.faddr 76 1 (.t 3) 1),
 oo 8 (.load 4 none (.t 7)),
 oo 9 (.bin .eql 4 1 (.t 6) (.t 8) 4),
 om 10 9,
 og 11 (.faddr 76 0 (.t 2) 0) 5 10 true,
 og 12 (.load 74 none (.t 11)) 5 10 true,
 og 13 (.faddr 76 0 (.t 3) 0) 5 10 true,
 og 14 (.load 74 none (.t 13)) 5 10 true,
 ⟨(some 15), .call 157 [(false, (.t 12)), (false, (.t 14))] [74, 74], (some (5, 10, true))⟩,
 oo 16 (.pick (.t 10) (.t 15) (.c (.bool false))),
 oo 4 (.asg (.t 16))]) .ret))
abbrev c2r : Nat := 138
theorem b83 : fnC pg 138 17 [(.tmp 4)] b13 := a0p Go.Proofs.Tryz.f138 [(.tmp 4)] (by kernel_rfl)
@[go_sem] theorem d3v : fnB pg 138 = true := by kernel_rfl
def a36 : IC := (.seq (.seq (.reg [om 12 5,
 om 13 0,
 oo 14 (.len 22 false (.t 13)),
 oo 15 (.bin .lss 3 0 (.t 12) (.t 14) 3)]) (.cond (.t 15) .skip (.exit 0))) (.seq (.block 1 (.seq (.draw [om 18 0,
 om 19 5,
 oo 20 (.iaddr 22 3 (.t 18) (.t 19)),
 oo 21 (.load 78 (some 3) (.t 20)),
 om 22 1,
 om 23 5,
 oo 24 (.iaddr 22 3 (.t 22) (.t 23)),
 oo 25 (.load 78 (some 3) (.t 24)),
 oc 26 109 [(false, (.t 21)), (false, (.t 25))] [78, 78],
 oo 6 (.asg (.t 26))] [[], [], [0, 1], [2], [], [], [4, 5], [6], [3, 7], [8, 8, 0, 1, 2, 3, 4, 5, 6, 7, 8]]) (.seq (.reg [om 27 6,
 oo 28 (.un .not 4 (.t 27))]) (.cond (.t 28) (.seq (.reg [oo 4 (.asg (.c (.bool false)))]) .ret) .skip)))) (.reg [om 16 5,
 oo 17 (.bin .add 3 0 (.t 16) (.n 1) 3),
 oo 5 (.asg (.t 17))])))
def a64 : IC := (.seq (.reg [oo 4 (.asg (.c (.bool false)))]) (.seq (.seq (.reg [om 7 0,
 oo 8 (.len 22 false (.t 7)),
 om 9 1,
 oo 10 (.len 22 false (.t 9)),
 oo 11 (.bin .neq 3 0 (.t 8) (.t 10) 3)]) (.cond (.t 11) (.seq (.reg [oo 4 (.asg (.c (.bool false)))]) .ret) .skip)) (.seq (.seq (.reg [oo 5 (.asg (.n 0))]) (.block 0 (.loop a36))) (.seq (.reg [oo 4 (.asg (.c (.bool true)))]) .ret))))
abbrev b2h : Nat := 60
theorem a9z : fnC pg 60 29 [(.tmp 4)] a64 := a0p Go.Proofs.Tryz.f60 [(.tmp 4)] (by kernel_rfl)
@[go_sem] theorem c2h : fnB pg 60 = true := by kernel_rfl
def a3o : IC := (.seq (.seq (.reg [om 12 5,
 om 13 0,
 oo 14 (.len 23 false (.t 13)),
 oo 15 (.bin .lss 3 0 (.t 12) (.t 14) 3)]) (.cond (.t 15) .skip (.exit 0))) (.seq (.block 1 (.seq (.draw [om 18 0,
 om 19 5,
 oo 20 (.iaddr 23 3 (.t 18) (.t 19)),
 oo 21 (.load 85 (some 3) (.t 20)),
 om 22 1,
 om 23 5,
 oo 24 (.iaddr 23 3 (.t 22) (.t 23)),
 oo 25 (.load 85 (some 3) (.t 24)),
 oc 26 110 [(false, (.t 21)), (false, (.t 25))] [85, 85],
 oo 6 (.asg (.t 26))] [[], [], [0, 1], [2], [], [], [4, 5], [6], [3, 7], [8, 8, 0, 1, 2, 3, 4, 5, 6, 7, 8]]) (.seq (.reg [om 27 6,
 oo 28 (.un .not 4 (.t 27))]) (.cond (.t 28) (.seq (.reg [oo 4 (.asg (.c (.bool false)))]) .ret) .skip)))) (.reg [om 16 5,
 oo 17 (.bin .add 3 0 (.t 16) (.n 1) 3),
 oo 5 (.asg (.t 17))])))
def a5s : IC := (.seq (.reg [oo 4 (.asg (.c (.bool false)))]) (.seq (.seq (.reg [om 7 0,
 oo 8 (.len 23 false (.t 7)),
 om 9 1,
 oo 10 (.len 23 false (.t 9)),
 oo 11 (.bin .neq 3 0 (.t 8) (.t 10) 3)]) (.cond (.t 11) (.seq (.reg [oo 4 (.asg (.c (.bool false)))]) .ret) .skip)) (.seq (.seq (.reg [oo 5 (.asg (.n 0))]) (.block 0 (.loop a3o))) (.seq (.reg [oo 4 (.asg (.c (.bool true)))]) .ret))))
abbrev b0q : Nat := 61
theorem a8q : fnC pg 61 29 [(.tmp 4)] a5s := a0p Go.Proofs.Tryz.f61 [(.tmp 4)] (by kernel_rfl)
@[go_sem] theorem c0f : fnB pg 61 = true := by kernel_rfl
def a35 : IC := (.seq (.seq (.reg [om 12 5,
 om 13 0,
 oo 14 (.len 24 false (.t 13)),
 oo 15 (.bin .lss 3 0 (.t 12) (.t 14) 3)]) (.cond (.t 15) .skip (.exit 0))) (.seq (.block 1 (.seq (.draw [om 18 0,
 om 19 5,
 oo 20 (.iaddr 24 2 (.t 18) (.t 19)),
 oo 21 (.load 76 (some 2) (.t 20)),
 om 22 1,
 om 23 5,
 oo 24 (.iaddr 24 2 (.t 22) (.t 23)),
 oo 25 (.load 76 (some 2) (.t 24)),
 oc 26 45 [(false, (.t 21)), (false, (.t 25))] [76, 76],
 oo 6 (.asg (.t 26))] [[], [], [0, 1], [2], [], [], [4, 5], [6], [3, 7], [8, 8, 0, 1, 2, 3, 4, 5, 6, 7, 8]]) (.seq (.reg [om 27 6,
 oo 28 (.un .not 4 (.t 27))]) (.cond (.t 28) (.seq (.reg [oo 4 (.asg (.c (.bool false)))]) .ret) .skip)))) (.reg [om 16 5,
 oo 17 (.bin .add 3 0 (.t 16) (.n 1) 3),
 oo 5 (.asg (.t 17))])))
def a61 : IC := (.seq (.reg [oo 4 (.asg (.c (.bool false)))]) (.seq (.seq (.reg [om 7 0,
 oo 8 (.len 24 false (.t 7)),
 om 9 1,
 oo 10 (.len 24 false (.t 9)),
 oo 11 (.bin .neq 3 0 (.t 8) (.t 10) 3)]) (.cond (.t 11) (.seq (.reg [oo 4 (.asg (.c (.bool false)))]) .ret) .skip)) (.seq (.seq (.reg [oo 5 (.asg (.n 0))]) (.block 0 (.loop a35))) (.seq (.reg [oo 4 (.asg (.c (.bool true)))]) .ret))))
abbrev b2f : Nat := 62
theorem a9w : fnC pg 62 29 [(.tmp 4)] a61 := a0p Go.Proofs.Tryz.f62 [(.tmp 4)] (by kernel_rfl)
@[go_sem] theorem c2e : fnB pg 62 = true := by kernel_rfl
def a3v : IC := (.seq (.seq (.reg [om 12 5,
 om 13 0,
 oo 14 (.len 25 false (.t 13)),
 oo 15 (.bin .lss 3 0 (.t 12) (.t 14) 3)]) (.cond (.t 15) .skip (.exit 0))) (.seq (.block 1 (.seq (.draw [om 18 0,
 om 19 5,
 oo 20 (.iaddr 25 6 (.t 18) (.t 19)),
 oo 21 (.load 80 (some 6) (.t 20)),
 om 22 1,
 om 23 5,
 oo 24 (.iaddr 25 6 (.t 22) (.t 23)),
 oo 25 (.load 80 (some 6) (.t 24)),
 oc 26 111 [(false, (.t 21)), (false, (.t 25))] [80, 80],
 oo 6 (.asg (.t 26))] [[], [], [0, 1], [2], [], [], [4, 5], [6], [3, 7], [8, 8, 0, 1, 2, 3, 4, 5, 6, 7, 8]]) (.seq (.reg [om 27 6,
 oo 28 (.un .not 4 (.t 27))]) (.cond (.t 28) (.seq (.reg [oo 4 (.asg (.c (.bool false)))]) .ret) .skip)))) (.reg [om 16 5,
 oo 17 (.bin .add 3 0 (.t 16) (.n 1) 3),
 oo 5 (.asg (.t 17))])))
def a6o : IC := (.seq (.reg [oo 4 (.asg (.c (.bool false)))]) (.seq (.seq (.reg [om 7 0,
 oo 8 (.len 25 false (.t 7)),
 om 9 1,
 oo 10 (.len 25 false (.t 9)),
 oo 11 (.bin .neq 3 0 (.t 8) (.t 10) 3)]) (.cond (.t 11) (.seq (.reg [oo 4 (.asg (.c (.bool false)))]) .ret) .skip)) (.seq (.seq (.reg [oo 5 (.asg (.n 0))]) (.block 0 (.loop a3v))) (.seq (.reg [oo 4 (.asg (.c (.bool true)))]) .ret))))
abbrev b02 : Nat := 63
theorem a9h : fnC pg 63 29 [(.tmp 4)] a6o := a0p Go.Proofs.Tryz.f63 [(.tmp 4)] (by kernel_rfl)
@[go_sem] theorem c1q : fnB pg 63 = true := by kernel_rfl
def a41 : IC := (.seq (.reg [oo 14 (.bin .lss 3 0 (.t 13) (.t 12) 3)]) (.seq (.cond (.t 14) .skip (.exit 0)) (.seq (.block 1 (.seq (.reg [om 15 13,
 oo 5 (.asg (.t 15))]) (.seq (.draw [om 16 0,
 om 17 5,
 oo 18 (.iaddr 74 1 (.t 16) (.t 17)),
 oo 19 (.load 3 none (.t 18)),
 om 20 1,
 om 21 5,
 oo 22 (.iaddr 74 1 (.t 20) (.t 21)),
 oo 23 (.load 3 none (.t 22)),
 oo 24 (.bin .neq 3 0 (.t 19) (.t 23) 3)] [[], [], [0, 1], [2], [], [], [4, 5], [6], [3, 7]]) (.cond (.t 24) (.seq (.reg [oo 4 (.asg (.c (.bool false)))]) .ret) .skip)))) (.reg [oo 25 (.bin .add 3 0 (.t 13) (.n 1) 3),
 om 13 25]))))
def a5i : IC := (.seq (.reg [oo 4 (.asg (.c (.bool false)))]) (.seq (.seq (.reg [om 6 0,
 oo 7 (.len 74 false (.t 6)),
 om 8 1,
 oo 9 (.len 74 false (.t 8)),
 oo 10 (.bin .neq 3 0 (.t 7) (.t 9) 3)]) (.cond (.t 10) (.seq (.reg [oo 4 (.asg (.c (.bool false)))]) .ret) .skip)) (.seq (.seq (.reg [om 11 0,
 oo 12 (.len 74 false (.t 11)),
 oo 13 (.mv (.n 0))]) (.block 0 (.loop a41))) (.seq (.reg [oo 4 (.asg (.c (.bool true)))]) .ret))))
abbrev b37 : Nat := 157
theorem b15 : fnC pg 157 26 [(.tmp 4)] a5i := a0p Go.Proofs.Tryz.f157 [(.tmp 4)] (by kernel_rfl)
@[go_sem] theorem c40 : fnB pg 157 = true := by kernel_rfl
def a7r : IC := (.seq (.reg [oo 2 (.box 78 3 (.t 0)),
 oo 3 (.box 78 3 (.t 1)),
 oo 4 (.asg (.c (.bool false)))]) (.seq (.reg [oo 6 (.faddr 78 1 (.t 2) 1),
 oo 7 (.load 76 (some 2) (.t 6)),
 oo 8 (.faddr 78 1 (.t 3) 1),
 oo 9 (.load 76 (some 2) (.t 8)),
 oc 10 45 [(false, (.t 7)), (false, (.t 9))] [76, 76],
 oo 5 (.asg (.t 10))]) (.seq (.reg [om 11 5,
 om 12 11,
 og 13 (.faddr 78 0 (.t 2) 0) 1 12 true,
 og 14 (.load 3 none (.t 13)) 1 12 true,
 og 15 (.faddr 78 0 (.t 3) 0) 1 12 true,
 og 16 (.load 3 none (.t 15)) 1 12 true,
 og 17 (.bin .eql 3 0 (.t 14) (.t 16) 3) 1 12 true,
 oo 18 (.pick (.t 12) (.t 17) (.c (.bool false))),
 oo 4 (.asg (.t 18))]) .ret)))
abbrev b3a : Nat := 109
theorem b0u : fnC pg 109 19 [(.tmp 4)] a7r := a0p Go.Proofs.Tryz.f109 [(.tmp 4)] (by kernel_rfl)
@[go_sem] theorem c3t : fnB pg 109 = true := by kernel_rfl
def a63 : IC := (.seq (.reg [oo 2 (.box 80 6 (.t 0)),
 oo 3 (.box 80 6 (.t 1)),
 oo 4 (.asg (.c (.bool false)))]) (.seq (.reg [oo 7 (.faddr 80 2 (.t 2) 2),
 oo 8 (.load 74 none (.t 7)),
 oo 9 (.faddr 80 2 (.t 3) 2),
 oo 10 (.load 74 none (.t 9)),
 oc 11 78 [(false, (.t 8)), (false, (.t 10))] [74, 74],
 oo 5 (.asg (.t 11))]) (.seq (.reg [oo 12 (.faddr 80 3 (.t 2) 3),
 oo 13 (.load 74 none (.t 12)),
 oo 14 (.faddr 80 3 (.t 3) 3),
 oo 15 (.load 74 none (.t 14)),
 oc 16 78 [(false, (.t 13)), (false, (.t 15))] [74, 74],
 oo 6 (.asg (.t 16))]) (.seq (.reg [om 17 5,
 om 18 17,
 og 19 (.mv (.t 6)) 1 18 true,
 oo 20 (.pick (.t 18) (.t 19) (.c (.bool false))),
 om 21 20,
 og 22 (.faddr 80 0 (.t 2) 0) 4 21 true,
 og 23 (.load 3 none (.t 22)) 4 21 true,
 og 24 (.faddr 80 0 (.t 3) 0) 4 21 true,
 og 25 (.load 3 none (.t 24)) 4 21 true,
 og 26 (.bin .eql 3 0 (.t 23) (.t 25) 3) 4 21 true,
 oo 27 (.pick (.t 21) (.t 26) (.c (.bool false))),
 om 28 27,
 og 29 (.faddr 80 1 (.t 2) 1) 11 28 true,
 og 30 (.load 3 none (.t 29)) 11 28 true,
 og 31 (.faddr 80 1 (.t 3) 1) 11 28 true,
 og 32 (.load 3 none (.t 31)) 11 28 true,
 og 33 (.bin .eql 3 0 (.t 30) (.t 32) 3) 11 28 true,
 oo 34 (.pick (.t 28) (.t 33) (.c (.bool false))),
 om 35 34,
 og 36 (.faddr 80 4 (.t 2) 4) 18 35 true,
 og 37 (.load 3 none (.t 36)) 18 35 true,
 og 38 (.faddr 80 4 (.t 3) 4) 18 35 true,
 og 39 (.load 3 none (.t 38)) 18 35 true,
 og 40 (.bin .eql 3 0 (.t 37) (.t 39) 3) 18 35 true,
 oo 41 (.pick (.t 35) (.t 40) (.c (.bool false))),
 om 42 41,
 og 43 (.faddr 80 5 (.t 2) 5) 25 42 true,
 og 44 (.load 3 none (.t 43)) 25 42 true,
 og 45 (.faddr 80 5 (.t 3) 5) 25 42 true,
 og 46 (.load 3 none (.t 45)) 25 42 true,
 og 47 (.bin .eql 3 0 (.t 44) (.t 46) 3) 25 42 true,
 oo 48 (.pick (.t 42) (.t 47) (.c (.bool false))),
 oo 4 (.asg (.t 48))]) .ret))))
abbrev a6z : Nat := 111
theorem a9y : fnC pg 111 49 [(.tmp 4)] a63 := a0p Go.Proofs.Tryz.f111 [(.tmp 4)] (by kernel_rfl)
@[go_sem] theorem c2g : fnB pg 111 = true := by kernel_rfl
end Go.Ideal.Tryz
end
