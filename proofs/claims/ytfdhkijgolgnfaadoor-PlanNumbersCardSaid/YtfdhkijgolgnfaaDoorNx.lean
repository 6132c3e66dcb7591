/- Part Nx of the proof: a machine with trees for values, its soundness, and walks on it. -/
import Derived.Test.YtfdhkijgolgnfaaDoorNw

section
set_option linter.unusedVariables false
set_option linter.unusedSimpArgs false
namespace Go.Ideal
section
variable {P : Program} {G : Nat → Option Value} {N : Nat} {st : St} {K : St → Prop} {T : List (Nat × AV)} {u : Nat}

/-! ### bytes of bytes -/
def cvK (N d : Nat) (o : Option (St × Nat × Nat × List AV)) : Option St := match o with
  | some r => gO (r.2.1 = 1 ∧ 0 < r.2.2.1) (some ((r.1.put N (.own r.2.1 r.2.2.1 r.2.2.2)).thru N d (.own r.2.1 r.2.2.1 r.2.2.2)))
  | none => none
@[congr] theorem cvK_congr {d : Nat} {o o' : Option (St × Nat × Nat × List AV)} (h : o = o') : cvK N d o = cvK N d o' := by rw [h]
@[go_sem] theorem cvK_some {d sz n : Nat} {ks : List AV} : cvK N d (some (st, sz, n, ks)) = gO (sz = 1 ∧ 0 < n) (some ((st.put N (.own sz n ks)).thru N d (.own sz n ks))) := (rfl)
@[go_sem] theorem evS_convk {d : Nat} {s t : TypeId} {x : X} : evS G N (some d) (.conv s t .keep x) st = cvK N d (tkS st N x (rdv st x)) := by
  simp only [evS, evOp, Ev.run_bind, run_takeE, Option.bind]
  cases tkS st N x (rdv st x) with
  | none => rfl
  | some r =>
    simp only [Option.map, run_getS, St.put_s, if_true, run_guardE, Ev.run_bind, Option.bind, cvK, gO]
    by_cases h1 : r.2.1 = 1
    · by_cases h2 : 0 < r.2.2.1
      · simp only [h1, h2, beq_self_eq_true, decide_true, Bool.and_self, if_true, and_self, run_thruE]
      · simp only [h1, h2, beq_self_eq_true, decide_false, Bool.and_false, Bool.false_eq_true, if_false, and_false]
    · have : (r.2.1 == 1) = false := by simpa using h1
      simp only [this, Bool.false_and, Bool.false_eq_true, if_false, h1, false_and]

/-! ### behind a call that lends -/
def lkB {α : Type} (b : Bool) (v : α) (o : Option α) : Option α := if b then some v else o
@[congr] theorem lkB_congr {α : Type} {b b' : Bool} {v : α} {o : Option α} (h : b = b') : lkB b v o = lkB b' v o := by rw [h]
@[go_sem] theorem lkB_t {α : Type} {v : α} {o : Option α} : lkB true v o = some v := (rfl)
@[go_sem] theorem lkB_f {α : Type} {v : α} {o : Option α} : lkB false v o = o := (rfl)
@[go_sem] theorem lookup_c {α : Type} {a b : Nat} {v : α} {T : List (Nat × α)} : List.lookup a ((b, v) :: T) = lkB (a == b) v (List.lookup a T) := by
  simp only [List.lookup_cons, lkB]
  cases a == b <;> rfl
def lenV (b : Bool) (o : Option AV) (T : List (Nat × AV)) (v : AV) : AV := if b then (match o with
  | some av => av
  | none => killR (lentK T) v) else .dead
@[congr] theorem lenV_congr {b b' : Bool} {o o' : Option AV} {v : AV} (h : b = b') (h2 : o = o') : lenV b o T v = lenV b' o' T v := by rw [h, h2]
@[go_sem] theorem lenV_f {o : Option AV} {v : AV} : lenV false o T v = .dead := (rfl)
@[go_sem] theorem lenV_s {av v : AV} : lenV true (some av) T v = av := (rfl)
@[go_sem] theorem lenV_n {v : AV} : lenV true none T v = killR (lentK T) v := (rfl)
@[go_sem] theorem lentS_s : (st.lentS N T).s u = lenV (decide (u < N)) (T.lookup u) T (st.s u) := by
  simp only [St.lentS, lenV, decide_eq_true_eq]
  cases T.lookup u <;> rfl
@[go_sem] theorem lentS_ep : (st.lentS N T).ep u = st.ep u := (rfl)
def lentB (o : Option AV) : Bool := match o with
  | some (.var ks) => !noOwnL ks
  | _ => false
@[congr] theorem lentB_congr {o o' : Option AV} (h : o = o') : lentB o = lentB o' := by rw [h]
@[go_sem] theorem lentB_n : lentB none = false := (rfl)
@[go_sem] theorem lentB_v {ks : List AV} : lentB (some (.var ks)) = !noOwnL ks := (rfl)
theorem lentK_cons {t i : Nat} {q : List Nat} : lentK T t (i :: q) = lentB (T.lookup t) := by
  simp only [lentK, lentB]
  cases T.lookup t with
  | none => rfl
  | some av => cases av <;> rfl
def kilB (b : Bool) (v : AV) : AV := if b then .dead else v
@[congr] theorem kilB_congr {b b' : Bool} {v : AV} (h : b = b') : kilB b v = kilB b' v := by rw [h]
@[go_sem] theorem kilB_t {v : AV} : kilB true v = .dead := (rfl)
@[go_sem] theorem kilB_f {v : AV} : kilB false v = v := (rfl)
@[go_sem] theorem killR_ref0 {t o e : Nat} : killR (lentK T) (.ref t [] o e) = .ref t [] o e := by simp [killR, lentK]
@[go_sem] theorem killR_refq {t i o e : Nat} {q : List Nat} : killR (lentK T) (.ref t (i :: q) o e) = kilB (lentB (T.lookup t)) (.ref t (i :: q) o e) := by simp only [killR, lentK_cons, kilB]
@[go_sem] theorem killR_bor0 {t lo n e : Nat} : killR (lentK T) (.bor t [] lo n e) = .bor t [] lo n e := by simp [killR, lentK]
@[go_sem] theorem killR_borq {t i lo n e : Nat} {q : List Nat} : killR (lentK T) (.bor t (i :: q) lo n e) = kilB (lentB (T.lookup t)) (.bor t (i :: q) lo n e) := by simp only [killR, lentK_cons, kilB]

/-! ### what is given -/
def oneX (b : Bool) (o : Option (List AV × List (Nat × Nat))) : Option (List AV × List (Nat × Nat)) := if b then o else none
@[congr] theorem oneX_congr {b b' : Bool} {o : Option (List AV × List (Nat × Nat))} (h : b = b') : oneX b o = oneX b' o := by rw [h]
@[go_sem] theorem oneX_t {o : Option (List AV × List (Nat × Nat))} : oneX true o = o := (rfl)
section
variable {st1 : St} {acc : List AV} {L : List (Nat × Nat)} {es : List (Option Nat × AV)}
def pxV (N : Nat) (st1 st : St) (acc : List AV) (L : List (Nat × Nat)) (t : Nat) (v v1 : AV) (es : List (Option Nat × AV)) : Option (List AV × List (Nat × Nat)) := match v, v1 with
  | .var (k :: ks), .var (_ :: _) => pX N st1 st (acc ++ [.var (k :: ks)]) (L ++ [(t, acc.length)]) es
  | _, _ => none
def pxR (N : Nat) (st1 st : St) (acc : List AV) (L : List (Nat × Nat)) (t e : Nat) (o : Option Nat) (es : List (Option Nat × AV)) : Option (List AV × List (Nat × Nat)) := match o with
  | some j => oneX (decide (e = st.ep t)) (pX N st1 st (acc ++ [.ref j [] 0 0]) L es)
  | none => oneX (decide (e = st.ep t) && decide (t < N)) (pxV N st1 st acc L t (st.s t) (st1.s t) es)
def pxT (N : Nat) (st1 st : St) (acc : List AV) (L : List (Nat × Nat)) (o : Option AV) (es : List (Option Nat × AV)) : Option (List AV × List (Nat × Nat)) := match o with
  | some p => pX N st1 st (acc ++ [p]) L es
  | none => none
@[congr] theorem pxV_congr {t : Nat} {v v' v1 v1' : AV} (h : v = v') (h1 : v1 = v1') : pxV N st1 st acc L t v v1 es = pxV N st1 st acc L t v' v1' es := by rw [h, h1]
@[congr] theorem pxR_congr {t e : Nat} {o o' : Option Nat} (h : o = o') : pxR N st1 st acc L t e o es = pxR N st1 st acc L t e o' es := by rw [h]
@[congr] theorem pxT_congr {o o' : Option AV} (h : o = o') : pxT N st1 st acc L o es = pxT N st1 st acc L o' es := by rw [h]
@[congr] theorem pX_congr {acc' : List AV} {L' : List (Nat × Nat)} {es' : List (Option Nat × AV)} (h1 : acc = acc') (h2 : L = L') (h3 : es = es') : pX N st1 st acc L es = pX N st1 st acc' L' es' := by rw [h1, h2, h3]
@[go_sem] theorem pxV_var {t : Nat} {k k1 : AV} {ks ks1 : List AV} : pxV N st1 st acc L t (.var (k :: ks)) (.var (k1 :: ks1)) es = pX N st1 st (acc ++ [.var (k :: ks)]) (L ++ [(t, acc.length)]) es := (rfl)
@[go_sem] theorem pxR_s {t e j : Nat} : pxR N st1 st acc L t e (some j) es = oneX (decide (e = st.ep t)) (pX N st1 st (acc ++ [.ref j [] 0 0]) L es) := (rfl)
@[go_sem] theorem pxR_n {t e : Nat} : pxR N st1 st acc L t e none es = oneX (decide (e = st.ep t) && decide (t < N)) (pxV N st1 st acc L t (st.s t) (st1.s t) es) := (rfl)
@[go_sem] theorem pxT_s {p : AV} : pxT N st1 st acc L (some p) es = pX N st1 st (acc ++ [p]) L es := (rfl)
@[go_sem] theorem pX_nil : pX N st1 st acc L [] = some (acc, L) := (rfl)
@[go_sem] theorem pX_p {k : Nat} {av : AV} : pX N st1 st acc L ((some k, av) :: es) = oneX (noRef av) (pX N st1 st (acc ++ [av]) L es) := by
  simp only [pX, oneX]
@[go_sem] theorem pX_ref {t e : Nat} : pX N st1 st acc L ((none, .ref t [] 0 e) :: es) = pxR N st1 st acc L t e (L.lookup t) es := by
  simp only [pX, pxR, oneX, pxV, decide_eq_true_eq, Bool.and_eq_true]
  cases L.lookup t <;> rfl
@[go_sem] theorem pX_lit {v : Value} : pX N st1 st acc L ((none, .lit v) :: es) = pX N st1 st (acc ++ [.lit v]) L es := (rfl)
@[go_sem] theorem pX_sl {n : Nat} {ks : List AV} : pX N st1 st acc L ((none, .sl n ks) :: es) = pX N st1 st (acc ++ [.sl n ks]) L es := (rfl)
@[go_sem] theorem pX_ip {n : Nat} {ks : List AV} : pX N st1 st acc L ((none, .ip ks n) :: es) = pX N st1 st (acc ++ [.ip ks n]) L es := (rfl)
@[go_sem] theorem pX_agg {ks : List AV} : pX N st1 st acc L ((none, .agg ks) :: es) = oneX (noOwnL ks) (pX N st1 st (acc ++ [.agg ks]) L es) := by
  simp only [pX, trA, noOwn, oneX]
  by_cases h : noOwnL ks = true <;> simp [h]
@[go_sem] theorem pX_ifc {t : TypeId} {k : AV} : pX N st1 st acc L ((none, .ifc t k) :: es) = oneX (noOwn k) (pX N st1 st (acc ++ [.ifc t k]) L es) := by
  simp only [pX, trA, noOwn, oneX]
  by_cases h : noOwn k = true <;> simp [h]
@[go_sem] theorem pX_fn {f : FuncId} {fs cs : List AV} : pX N st1 st acc L ((none, .fn f fs cs) :: es) = pxT N st1 st acc L (trA st L (.fn f fs cs)) es := (rfl)
def fn2 (f : FuncId) (a b : Option (List AV)) : Option AV := match a, b with
  | some a, some b => some (.fn f a b)
  | _, _ => none
@[go_sem] theorem fn2_s {f : FuncId} {a b : List AV} : fn2 f (some a) (some b) = some (.fn f a b) := (rfl)
@[go_sem] theorem trA_fn {f : FuncId} {fs cs : List AV} : trA st L (.fn f fs cs) = fn2 f (trL st L fs) (trL st L cs) := by
  simp only [trA, fn2]
  cases trL st L fs <;> cases trL st L cs <;> rfl
@[go_sem] theorem trL_nil : trL st L [] = some [] := by simp only [trL]
@[go_sem] theorem trL_cons {k : AV} {ks : List AV} : trL st L (k :: ks) = avs (trA st L k) (trL st L ks) := by
  simp only [trL, avs]
  cases trA st L k <;> cases trL st L ks <;> rfl
@[go_sem] theorem trA_lit {v : Value} : trA st L (.lit v) = some (.lit v) := by simp only [trA, noOwn, if_true]
@[go_sem] theorem trA_sl {n : Nat} {ks : List AV} : trA st L (.sl n ks) = some (.sl n ks) := by simp only [trA, noOwn, if_true]
@[go_sem] theorem trA_ip {n : Nat} {ks : List AV} : trA st L (.ip ks n) = some (.ip ks n) := by simp only [trA, noOwn, if_true]
def trRf (b : Bool) (l : Option Nat) (o : Nat) : Option AV := if b then l.map fun i => .ref i [] o 0 else none
@[congr] theorem trRf_congr {b b' : Bool} {l l' : Option Nat} {o : Nat} (h : b = b') (h2 : l = l') : trRf b l o = trRf b' l' o := by rw [h, h2]
@[go_sem] theorem trRf_s {i o : Nat} : trRf true (some i) o = some (.ref i [] o 0) := (rfl)
@[go_sem] theorem trA_ref {t o e : Nat} : trA st L (.ref t [] o e) = trRf (decide (e = st.ep t)) (L.lookup t) o := by simp [trA, trRf]
@[go_sem] theorem xv_t {t : Nat} : xv st (.t t) = st.s t := (rfl)
@[go_sem] theorem xv_c {v : Value} : xv st (.c v) = .lit v := (rfl)
@[go_sem] theorem xv_f {n : Nat} : xv st (.f n) = .fn n [] [] := (rfl)
@[go_sem] theorem xv_g {n : Nat} : xv st (.g n) = .lit (.pointer (some ⟨n, 0, none⟩)) := (rfl)
@[go_sem] theorem effs_eq {fs cs : List AV} {lay : List CS} : effs N st fs lay cs = fs.map (fun a => (none, a)) ++ (lay.map (csAV N st) ++ cs.map (fun a => (none, a))) := (rfl)
@[go_sem] theorem csAV_p {k : Nat} : csAV N st (.p k) = (some k, st.s (N + 2 + k)) := (rfl)
@[go_sem] theorem csAV_x {y : X} : csAV N st (.x y) = (none, xv st y) := (rfl)
end

/-! ### the call -/
def finX (st : St) (N : Nat) (T : List (Nat × AV)) (d : Option Nat) (res : AV) : St := match d with
  | some d => (st.lentS N T).thru N d res
  | none => st.lentS N T
@[go_sem] theorem finX_some {d : Nat} {res : AV} : finX st N T (some d) res = (st.lentS N T).thru N d res := (rfl)
@[go_sem] theorem finX_none {res : AV} : finX st N T none res = st.lentS N T := (rfl)
def isVar : AV → Bool
  | .var _ => true
  | _ => false
def clx (P : Program) (G : Nat → Option Value) (N : Nat) (d : Option Nat) (f : FuncId) (pre : List AV) (L : List (Nat × Nat)) (st1 st2 : St) (K : St → Prop) : Prop :=
  ∃ res posts, ACallsX P G f pre res posts ∧ noRef res = true ∧ posts.map (·.1) = L.map (·.2) ∧ (posts.all fun p => isVar p.2) = true ∧ K (finX (if noImm res && posts.all fun p => noImm p.2 then st1 else st2) N ((L.map (·.1)).zip (posts.map (·.2))) d res)
def clxP (P : Program) (G : Nat → Option Value) (N : Nat) (d : Option Nat) (f : FuncId) (st1 st2 : St) (o : Option (List AV × List (Nat × Nat))) (K : St → Prop) : Prop := match o with
  | some x => clx P G N d f x.1 x.2 st1 st2 K
  | none => False
def clxF (P : Program) (G : Nat → Option Value) (N : Nat) (d : Option Nat) (v : AV) (lay : List CS) (st1 st2 : St) (K : St → Prop) : Prop := match v with
  | .fn f fs cs => fnB P f = true ∧ clxP P G N d f st1 st2 (pX N st1 st2 [] [] (effs N st2 fs lay cs)) K
  | _ => False
def clxK (P : Program) (G : Nat → Option Value) (N : Nat) (d : Option Nat) (cv : X) (lay : List CS) (o1 o2 : Option St) (K : St → Prop) : Prop := match o1, o2 with
  | some st1, some st2 => clxF P G N d (xv st2 cv) lay st1 st2 K
  | _, _ => False
def clxG (P : Program) (G : Nat → Option Value) (N : Nat) (d : Option Nat) (cv : X) (args : List (Bool × X)) (lay : List CS) (o1 : Option St) (K : St → Prop) : Prop := clxK P G N d cv lay o1 (pss N (N + 2) args o1) K
section
variable {d : Option Nat} {cv : X} {args : List (Bool × X)} {lay : List CS} {st1 st2 : St} {f : FuncId}
@[congr] theorem clxG_congr {o o' : Option St} (h : o = o') : clxG P G N d cv args lay o K = clxG P G N d cv args lay o' K := by rw [h]
@[congr] theorem clxK_congr {o1 o o' : Option St} (h : o = o') : clxK P G N d cv lay o1 o K = clxK P G N d cv lay o1 o' K := by rw [h]
@[congr] theorem clxF_congr {v v' : AV} (h : v = v') : clxF P G N d v lay st1 st2 K = clxF P G N d v' lay st1 st2 K := by rw [h]
@[congr] theorem clxP_congr {o o' : Option (List AV × List (Nat × Nat))} (h : o = o') : clxP P G N d f st1 st2 o K = clxP P G N d f st1 st2 o' K := by rw [h]
@[congr] theorem clx_congr {pre pre' : List AV} {L L' : List (Nat × Nat)} (h : pre = pre') (h2 : L = L') : clx P G N d f pre L st1 st2 K = clx P G N d f pre' L' st1 st2 K := by rw [h, h2]
@[go_sem] theorem clxG_some : clxG P G N d cv args lay (some st) K = clxK P G N d cv lay (some st) (pss N (N + 2) args (some st)) K := (rfl)
@[go_sem] theorem clxK_some : clxK P G N d cv lay (some st1) (some st2) K = clxF P G N d (xv st2 cv) lay st1 st2 K := (rfl)
@[go_sem] theorem clxF_fn {fs cs : List AV} : clxF P G N d (.fn f fs cs) lay st1 st2 K = (fnB P f = true ∧ clxP P G N d f st1 st2 (pX N st1 st2 [] [] (effs N st2 fs lay cs)) K) := (rfl)
@[go_sem] theorem clxP_some {pre : List AV} {L : List (Nat × Nat)} : clxP P G N d f st1 st2 (some (pre, L)) K = clx P G N d f pre L st1 st2 K := (rfl)
@[go_sem] theorem aOps_callx {tys : List TypeId} {rest : List AO} : aOps P G N (⟨d, .callx cv args lay tys, none⟩ :: rest) K st = clxG P G N d cv args lay (gvs N (N + 2) args (some st)) (aOps P G N rest K) := by
  simp only [aOps, aStep, aAct, aCallX]
  rw [← run_givesE]
  have hvar : ∀ {posts : List (Nat × AV)}, (∀ i av, (i, av) ∈ posts → ∃ ks, av = .var ks) ↔ (posts.all fun p => isVar p.2) = true := by
    intro posts
    simp only [List.all_eq_true]
    constructor
    · rintro h ⟨i, av⟩ hm
      obtain ⟨ks, rfl⟩ := h i av hm
      rfl
    · intro h i av hm
      have := h _ hm
      cases av <;> simp [isVar] at this
      exact ⟨_, rfl⟩
  apply propext
  constructor
  · rintro ⟨f, fs, cs, st1, st2, L, pre, res, posts, st3, h1, h2, h3, h4, h5, h6, h7, h8, h9, h10, h11⟩
    have e2 := run_passesE (N := N) args (N + 2) st1
    rw [h2] at e2
    simp only [h1, Option.map, clxG, clxK, ← e2, h3, clxF, h5, clxP]
    refine ⟨h4, res, posts, h6, h7, h8, hvar.1 h9, ?_⟩
    have : finX (if noImm res && posts.all fun p => noImm p.2 then st1 else st2) N ((L.map (·.1)).zip (posts.map (·.2))) d res = st3 := by
      cases d with
      | none =>
        simp only [finE, Ev.run_pure, Option.some.injEq, Prod.mk.injEq, true_and] at h10
        exact h10
      | some d =>
        simp only [finE, run_thruE, Option.some.injEq, Prod.mk.injEq, true_and] at h10
        exact h10
    rw [this]; exact h11
  · cases h1 : (givesE N (N + 2) args).run st with
    | none => intro h; simp only [Option.map, clxG, clxK] at h
    | some r =>
      obtain ⟨_, st1⟩ := r
      simp only [Option.map, clxG]
      rw [← run_passesE]
      cases h2 : (passesE N (N + 2) args).run st1 with
      | none => intro h; simp only [Option.map, clxK] at h
      | some r2 =>
        obtain ⟨_, st2⟩ := r2
        simp only [Option.map, clxK]
        cases h3 : xv st2 cv <;> simp only [clxF] <;> try exact False.elim
        rename_i f fs cs
        rintro ⟨h4, h⟩
        cases h5 : pX N st1 st2 [] [] (effs N st2 fs lay cs) with
        | none => rw [h5] at h; exact h.elim
        | some x =>
          obtain ⟨pre, L⟩ := x
          rw [h5] at h
          obtain ⟨res, posts, h6, h7, h8, h9, h10⟩ := h
          refine ⟨f, fs, cs, st1, st2, L, pre, res, posts, _, rfl, h2, h3, h4, h5, h6, h7, h8, hvar.2 h9, ?_, h10⟩
          cases d <;> rfl
theorem clx_pure {pre : List AV} {L : List (Nat × Nat)} {res : AV} {posts : List (Nat × AV)} (hA : ACallsX P G f pre res posts) (hn : noRef res = true) (hp : posts.map (·.1) = L.map (·.2)) (hv : (posts.all fun p => isVar p.2) = true) (hi : (noImm res && posts.all fun p => noImm p.2) = true)
    (h : K (finX st1 N ((L.map (·.1)).zip (posts.map (·.2))) d res)) : clx P G N d f pre L st1 st2 K := ⟨res, posts, hA, hn, hp, hv, by rw [hi]; exact h⟩
theorem clx_any {pre : List AV} {L : List (Nat × Nat)} {res : AV} {posts : List (Nat × AV)} (hA : ACallsX P G f pre res posts) (hn : noRef res = true) (hp : posts.map (·.1) = L.map (·.2)) (hv : (posts.all fun p => isVar p.2) = true)
    (h : K (finX st1 N ((L.map (·.1)).zip (posts.map (·.2))) d res)) (h2 : K (finX st2 N ((L.map (·.1)).zip (posts.map (·.2))) d res)) : clx P G N d f pre L st1 st2 K := ⟨res, posts, hA, hn, hp, hv, by split; exact h; exact h2⟩
end

/-! ### .. in a drawn region -/
section
variable {d : Option Nat} {cv : X} {args : List (Bool × X)} {lay : List CS} {f : FuncId} {aft : DA} {rest : List AO} {fps : List (List Nat × List Nat)} {K : St → Prop} {ex : List Nat}
def varNo : AV → Bool
  | .var ks => noOwnL ks
  | _ => false
@[go_sem] theorem varNo_var {ks : List AV} : varNo (.var ks) = noOwnL ks := (rfl)
@[go_sem] theorem litA_lit {v : Value} : litA (.lit v) = true := (rfl)
@[go_sem] theorem slotsIn_t {rd : List Nat} {n : Nat} : slotsIn rd (.t n) = rd.contains n := (rfl)
@[go_sem] theorem slotsIn_c {rd : List Nat} {v : Value} : slotsIn rd (.c v) = true := (rfl)
@[go_sem] theorem slotsIn_f {rd : List Nat} {n : Nat} : slotsIn rd (.f n) = true := (rfl)
@[go_sem] theorem slotsIn_g {rd : List Nat} {n : Nat} : slotsIn rd (.g n) = true := (rfl)
@[go_sem] theorem refsIn_ref {rd : List Nat} {t : Nat} {q : List Nat} {o e : Nat} : refsIn rd (.ref t q o e) = rd.contains t := by simp only [refsIn]
@[go_sem] theorem refsIn_bor {rd : List Nat} {t : Nat} {q : List Nat} {lo n e : Nat} : refsIn rd (.bor t q lo n e) = rd.contains t := by simp only [refsIn]
@[go_sem] theorem refsIn_fn {rd : List Nat} {f : FuncId} {a c : List AV} : refsIn rd (.fn f a c) = (refsInL rd a && refsInL rd c) := by simp only [refsIn]
@[go_sem] theorem refsIn_lit {rd : List Nat} {v : Value} : refsIn rd (.lit v) = true := by simp only [refsIn]
@[go_sem] theorem refsIn_sl {rd : List Nat} {n : Nat} {ks : List AV} : refsIn rd (.sl n ks) = true := by simp only [refsIn]
@[go_sem] theorem refsInL_nil {rd : List Nat} : refsInL rd [] = true := by simp only [refsInL]
@[go_sem] theorem refsInL_cons {rd : List Nat} {k : AV} {ks : List AV} : refsInL rd (k :: ks) = (refsIn rd k && refsInL rd ks) := by simp only [refsInL]
@[go_sem] theorem litArgs_eq {rd : List Nat} : litArgs st rd args = args.all fun p => !p.1 && (litA (rdv st p.2) && slotsIn rd p.2) := (rfl)
@[go_sem] theorem passedL_nil {j : Nat} : passedL st j [] = st := (rfl)
@[go_sem] theorem passedL_cons {j : Nat} {p : Bool × X} : passedL st j (p :: args) = passedL (st.put j (rdv st p.2)) (j + 1) args := (rfl)
@[go_sem] theorem layIn_nil {rd : List Nat} {n : Nat} : layIn st rd n [] = true := (rfl)
@[go_sem] theorem layIn_p {rd : List Nat} {n k : Nat} : layIn st rd n (.p k :: lay) = (decide (k < n) && layIn st rd n lay) := (rfl)
@[go_sem] theorem layIn_x {rd : List Nat} {n : Nat} {y : X} : layIn st rd n (.x y :: lay) = ((slotsIn rd y && refsIn rd (xv st y)) && layIn st rd n lay) := (rfl)
def dCx (P : Program) (G : Nat → Option Value) (N : Nat) (aft : DA) (ex : List Nat) (d : Option Nat) (cv : X) (args : List (Bool × X)) (lay : List CS) (rest : List AO) (fps : List (List Nat × List Nat)) (K : St → Prop) (st : St) : Prop :=
  dAct P G N aft ex d (.callx cv args lay []) fps (fun fps st => InvV aft.2 st ∧ dOps P G N aft rest fps K st) st
@[congr] theorem dCx_congr {st' : St} (h : st = st') : dCx P G N aft ex d cv args lay rest fps K st = dCx P G N aft ex d cv args lay rest fps K st' := by rw [h]
@[go_sem] theorem dOps_callx {tys : List TypeId} : dOps P G N aft (⟨d, .callx cv args lay tys, none⟩ :: rest) fps K st = dCx P G N aft [] d cv args lay rest fps K st := (rfl)
theorem dCx_i (rd : List Nat) {fs cs pre : List AV} {L : List (Nat × Nat)} {res : AV} {posts : List (Nat × AV)} (hA : ACallsX P G f pre res posts) (hpo : posts.map (·.1) = L.map (·.2))
    (hs : litArgs st rd args = true ∧ slotsIn rd cv = true ∧ xv st cv = .fn f fs cs ∧ fnB P f = true ∧ (refsInL rd fs && refsInL rd cs) = true ∧ layIn st rd args.length lay = true ∧
      pX N st (passedL st (N + 2) args) [] [] (effs N (passedL st (N + 2) args) fs lay cs) = some (pre, L) ∧ noRef res = true ∧ (posts.all fun p => varNo p.2) = true ∧
      (∀ t ∈ ex ++ rd, t < N) ∧ (∀ t ∈ d.toList, t < N) ∧ ∀ t ∈ L.map (·.1), t < N ∧ t ∈ rd)
    (h : InvV aft.2 (finX st N ((L.map (·.1)).zip (posts.map (·.2))) d res) ∧ dOps P G N aft rest (fps ++ [(ex ++ (d.toList ++ rd), d.toList ++ L.map (·.1))]) K (finX st N ((L.map (·.1)).zip (posts.map (·.2))) d res)) : dCx P G N aft ex d cv args lay rest fps K st := by
  obtain ⟨h1, h2, h3, h4, h5, h6, h7, h8, h9, h10, h11, h12⟩ := hs
  refine ⟨f, fs, cs, pre, L, res, posts, rd, h1, h2, h3, h4, h5, h6, h7, hA, h8, hpo, fun i av hm => ?_, h10, h11, h12, ?_⟩
  · have := List.all_eq_true.1 h9 _ hm
    cases av <;> simp only [varNo, Bool.false_eq_true] at this
    exact ⟨_, rfl, this⟩
  · cases d <;> exact h
end
/-! ### a function that is lent variables -/
def endRX (rs : List RV) (res : AV) (posts : List (Nat × AV)) : Exit → St → Prop
  | .normal, st | .ret, st => rvAV rs st = some res ∧ ∀ p ∈ posts, st.s p.1 = p.2
  | _, _ => False
section
variable {rs : List RV} {res : AV} {posts : List (Nat × AV)}
@[congr] theorem endRX_congr {e : Exit} {st' : St} (h2 : st = st') : endRX rs res posts e st = endRX rs res posts e st' := by rw [h2]
def poK : List (Nat × AV) → St → Prop
  | [], _ => True
  | p :: ps, st => st.s p.1 = p.2 ∧ poK ps st
@[congr] theorem poK_congr {ps : List (Nat × AV)} {st' : St} (h : st = st') : poK ps st = poK ps st' := by rw [h]
@[go_sem] theorem poK_nil : poK [] st = True := (rfl)
@[go_sem] theorem poK_cons {t : Nat} {v : AV} {ps : List (Nat × AV)} : poK ((t, v) :: ps) st = (st.s t = v ∧ poK ps st) := (rfl)
theorem poK_all : ∀ {ps : List (Nat × AV)}, (∀ p ∈ ps, st.s p.1 = p.2) = poK ps st
  | [] => by simp [poK]
  | p :: ps => by simp only [List.mem_cons, forall_eq_or_imp, poK, poK_all (ps := ps)]
@[go_sem] theorem endRX_n : endRX rs res posts .normal st = (tupA (rvL rs st) = some res ∧ poK posts st) := by rw [← poK_all]; rfl
@[go_sem] theorem endRX_r : endRX rs res posts .ret st = (tupA (rvL rs st) = some res ∧ poK posts st) := by rw [← poK_all]; rfl
theorem endRX_sound {vs : List ResultVar} (h : rvsOK P N rs vs = true) : ∀ e st, endRX rs res posts e st → endX P N vs res posts e st := by
  intro e st hq
  have key : rvAV rs st = some res → outAV P N st vs = some res := by
    intro hk
    unfold rvAV at hk
    cases hl : rvL rs st with
    | none => rw [hl] at hk; cases hk
    | some ks =>
      rw [hl] at hk
      simp only [outAV, rvL_sound h hl]
      exact hk
  cases e <;> first | exact ⟨key hq.1, hq.2⟩ | exact hq
end
theorem ACallsX.of_walk {P : Program} {G : Nat → Option Value} {f : FuncId} {fn : Func} {c : Code} {N : Nat} {vs : List ResultVar} {rs : List RV} {ic : IC} (hord : P.follows .mixedOrders = true) (hf : P.funcs[f]? = some fn) (hb : fn.body = some c) (hN : fn.ntmps = N) (hrs : fn.results.toList = vs) (hnd : (vs.map rvT).Nodup)
    (he : ecOf c = ic.ec) (hok : ic.ok P N = true) (hr : rvsOK P N rs vs = true) {pins : List Nat} (hpin : ic.pin pins = true) {pre : List AV} {res : AV} {posts : List (Nat × AV)} (hsz : pre.length ≤ N) (hpo : posts.map (·.1) = pins) (hpr : pins.all (fun t => !(vs.map rvT).contains t && decide (t < pre.length)) = true) (hnr : (posts.all fun p => noRef p.2) = true)
    (h : AW P G N ic (endRX rs res posts) (St.init pre)) : ACallsX P G f pre res posts :=
  acallsX_of_body hf hb hN hrs hnd hsz (fun p hp => by
    have := List.all_eq_true.1 hpr p.1 (by rw [← hpo]; exact List.mem_map.2 ⟨p, hp, rfl⟩)
    simp only [Bool.and_eq_true, Bool.not_eq_true', decide_eq_true_eq] at this
    exact ⟨fun hm => by simp [hm] at this, this.2, List.all_eq_true.1 hnr p hp⟩) (by rw [hpo]; exact (AW_sound hord ic c _ _ he hok hpin h).mono (endRX_sound hr))
end
end Go.Ideal
end
