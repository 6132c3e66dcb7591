/- Part Nc of the proof: a machine with trees for values, its soundness, and walks on it. -/
import Derived.Test.YtfdhkijgolgnfaaGreatDoorNb
import Derived.Scope
section
set_option linter.unusedVariables false
set_option linter.unusedSimpArgs false
namespace Go.Ideal
open Classical
def a0k : AV → Bool
  | .ref _ _ _ _ => false
  | .bor _ _ _ _ _ => false
  | .fn _ fs cs => a4n.noRefL fs && a4n.noRefL cs
  | _ => true
theorem a6v {w : World} {M : BS} {av : AV} {Q : QR} {F : BS} {v : Value} (h : a0k av = true) (hr : R w M av Q F v) : R w M av noQ F v := by
  cases av with
  | ref => simp [a0k] at h
  | bor => simp [a0k] at h
  | fn f fs cs =>
    simp only [a0k, Bool.and_eq_true] at h
    simp only [R] at hr ⊢
    obtain ⟨a1, a2, hv, h1, h2⟩ := hr
    exact ⟨a1, a2, hv, c0i h.1 h1, c0i h.2 h2⟩
  | _ => simp only [R] at hr ⊢; try exact hr
def a37 (x : X) (j : Nat) (v : AV) : Ev Unit := match x with
  | .t t => if a0l v then a3h j v else do a3h t .dead; a3h j v
  | _ => a3h j v
def a3r (x : X) (j : Nat) (v : AV) : Ev Unit := match x with
  | .t t => if a0l v then a3h j v else do c5o t (frz v); a3h j (frz v)
  | _ => a3h j (frz v)
def d8i (N : Nat) (x : X) (j : Nat) : Ev Unit := do
  let r ← a2n x
  match r.1 with
  | .dead => .fail
  | .bor t q lo n e => do
    let r2 ← c24 t
    a0i (e == r2.2 && lo == 0 && decide (t < N))
    let k ← a4o (a0c r2.1 q)
    match k with
    | .own sz n0 ks => do
      a0i (decide (n ≤ n0))
      c5o t (a0s r2.1 q .dead)
      a3h j (.own sz n (ks.take (n * sz)))
    | _ => .fail
  | v => do
    a0i (a0k v)
    a37 x j v
def d06 (N : Nat) (x : X) (j : Nat) : Ev Unit := do
  let r ← a2n x
  match r.1 with
  | .dead => .fail
  | .bor t q lo n e => do
    let r2 ← c24 t
    a0i (e == r2.2 && decide (t < N))
    let k ← a4o (a0c r2.1 q)
    match k with
    | .own sz n0 ks => do
      a0i (decide (lo + n ≤ n0))
      c5o t (a0s r2.1 q (frz k))
      a3h j (.sl n (((a1n ks).drop (lo * sz)).take (n * sz)))
    | _ => .fail
  | v => do
    a0i (a0k v)
    a3r x j v
def a5r (N : Nat) : Nat → List (Bool × X) → Ev Unit
  | _, [] => pure ()
  | j, (g, x) :: xs => (if g then d8i N x j else pure () : Ev Unit) >>= fun _ => a5r N (j + 1) xs
def a3x (N : Nat) : Nat → List (Bool × X) → Ev Unit
  | _, [] => pure ()
  | j, (g, x) :: xs => (if g then pure () else d06 N x j : Ev Unit) >>= fun _ => a3x N (j + 1) xs
section
variable {E : Env} {N : Nat} {a : Act} {w : World}
variable {u : Unit}
theorem c5b {v : AV} (h : a0k v = true) : a0k (frz v) = true := by cases v <;> simp_all [frz, a0k]
theorem d8s {st : St} {val : Nat → Value} {ow : Nat → Option Nat} (h : Sim E N st a w val ow) {x : X} {j : Nat} {st' : St} (hx : okX N x = true) (hj : N ≤ j) (hr : (d8i N x j).run st = some (u, st')) :
    ∃ val' ow', Sim E N st' a w val' ow' ∧ Kept N j st st' val val' ∧ val' j = a.eval x.op ∧ a0k (st'.s j) = true := by
  unfold d8i at hr
  obtain ⟨r, st1, h1, h2⟩ := a0a hr
  obtain ⟨rfl, hR, ht⟩ := a0q h hx h1
  obtain ⟨v, e⟩ := r
  simp only at h2 hR
  have move : ∀ v : AV, R w (Mo E w ow) v (QS w st1 val) (fun b => ∃ t, x = .t t ∧ ow b = some t) (a.eval x.op) → (∀ t, x = .t t → st1.s t = v) → a0k v = true →
      (a37 x j v).run st1 = some (u, st') → ∃ val' ow', Sim E N st' a w val' ow' ∧ Kept N j st1 st' val val' ∧ val' j = a.eval x.op ∧ a0k (st'.s j) = true := by
    intro v hR hv hnr hs
    have lone : R w (Mo E w ow) v noQ noB (a.eval x.op) → (a3h j v).run st1 = some (u, st') → ∃ val' ow', Sim E N st' a w val' ow' ∧ Kept N j st1 st' val val' ∧ val' j = a.eval x.op ∧ a0k (st'.s j) = true := fun hR' hs => by
      have := a0h hs
      subst this
      exact ⟨_, _, h.layp (Q := noQ) hj (fun _ _ h => h.elim) (v := a.eval x.op) hR', ⟨fun t ht => by simp [a0x, ht], fun t _ ht => by simp [ht]⟩, by simp [a0x], by simpa using hnr⟩
    have lone2 : (∀ t, x ≠ .t t) → (a3h j v).run st1 = some (u, st') → ∃ val' ow', Sim E N st' a w val' ow' ∧ Kept N j st1 st' val val' ∧ val' j = a.eval x.op ∧ a0k (st'.s j) = true := fun hxt hs =>
      lone (a6v hnr (a2v (fun b ⟨t, ht, _⟩ => absurd ht (hxt t)) hR)) hs
    cases x with
    | t t =>
      simp only [a37] at hs
      split at hs
      · rename_i hn
        exact lone (a6v hnr (a11 v hn hR)) hs
      · obtain ⟨_, st2, h3, h4⟩ := a0a hs
        have := a0h h3
        subst this
        have := a0h h4
        subst this
        obtain ⟨h5, h6, h7⟩ := ht t rfl
        rw [a08 _ t (by simp [a0e])]
        refine ⟨_, _, h.pass (t := t) (j := j) (by omega) (av := v) (v := a.eval (X.t t).op) (fun hlt => by omega) (fun Q hQ => ?_), ⟨fun u hu => by simp [a0x, hu], fun u hu huj => ?_⟩, by simp [a0x], by simpa using hnr⟩
        · have := h.slots t
          rw [hv t rfl, ← h7] at this
          exact a0y (fun _ h => h) (fun _ _ => rfl) _ hQ (fun _ h => h) (fun _ _ => rfl) this
        · simp [huj, show u ≠ t by omega]
    | c v0 => exact lone2 (fun t he => by cases he) hs
    | nl sz0 => exact lone2 (fun t he => by cases he) hs
    | g n0 => exact lone2 (fun t he => by cases he) hs
    | f n0 => exact lone2 (fun t he => by cases he) hs
  have hv : ∀ t, x = .t t → st1.s t = v := fun t he => by have := (ht t he).1; injection this with h1 _; exact h1.symm
  cases v with
  | dead => simp [Ev.run] at h2
  | bor t q lo n e1 =>
    obtain ⟨r2, st2, h3, h4⟩ := a0a h2
    obtain ⟨rfl, rfl⟩ := a1t h3
    obtain ⟨_, st3, h5, h6⟩ := a0a h4
    obtain ⟨h7, rfl⟩ := a0b h5
    obtain ⟨k, st4, h8, h9⟩ := a0a h6
    obtain ⟨hk, rfl⟩ := a01 h8
    simp only [Bool.and_eq_true, beq_iff_eq, decide_eq_true_eq] at h7
    obtain ⟨⟨he, hlo⟩, htN⟩ := h7
    simp only at hk
    cases k <;> simp only [Ev.run_fail, reduceCtorEq] at h9
    case own sz n0 ks =>
      obtain ⟨_, st5, g1, g2⟩ := a0a h9
      obtain ⟨g3, rfl⟩ := a0b g1
      have hn : n ≤ n0 := by simpa using g3
      obtain ⟨_, st6, g4, g5⟩ := a0a g2
      have := a2h g4
      subst this
      have := a0h g5
      subst this
      simp only [R, QS] at hR
      subst hlo
      obtain ⟨a0, c0, hv0, hvx⟩ := hR.2 he sz n0 ks hk (by omega)
      have hvx' : a.eval x.op = .slice a0 n c0 := by
        rw [hvx, Nat.zero_mul, a15]; simp
      obtain ⟨ow', hs⟩ := h.takeAs (j := j) (av := .own sz n (ks.take (n * sz))) (v := a.eval x.op) hk hj (by omega) (fun u F Q hu hru => by
        rw [hv0] at hu
        injection hu with hu
        rw [hvx']
        rw [← hu] at hru
        exact c18 hru hn)
      refine ⟨_, ow', hs, ⟨fun u hu => by simp [a0x, hu], fun u hu huj => ?_⟩, by simp [a0x], by simp [a0k]⟩
      simp [huj, show u ≠ t by omega]
  | _ =>
    obtain ⟨_, st2, h3, h4⟩ := a0a h2
    obtain ⟨h5, rfl⟩ := a0b h3
    exact move _ hR hv h5 h4
theorem d88 {st : St} {val : Nat → Value} {ow : Nat → Option Nat} (h : Sim E N st a w val ow) {x : X} {j : Nat} {st' : St} (hx : okX N x = true) (hj : N ≤ j) (hr : (d06 N x j).run st = some (u, st')) :
    ∃ val' ow', Sim E N st' a w val' ow' ∧ Kept N j st st' val val' ∧ val' j = a.eval x.op ∧ a0k (st'.s j) = true ∧ ∀ b s, ow' b = some s → ow b = some s := by
  unfold d06 at hr
  obtain ⟨r, st1, h1, h2⟩ := a0a hr
  obtain ⟨rfl, hR, ht⟩ := a0q h hx h1
  obtain ⟨v, e⟩ := r
  simp only at h2 hR
  have move : ∀ v : AV, R w (Mo E w ow) v (QS w st1 val) (fun b => ∃ t, x = .t t ∧ ow b = some t) (a.eval x.op) → (∀ t, x = .t t → st1.s t = v) → a0k v = true →
      (a3r x j v).run st1 = some (u, st') → ∃ val' ow', Sim E N st' a w val' ow' ∧ Kept N j st1 st' val val' ∧ val' j = a.eval x.op ∧ a0k (st'.s j) = true ∧ ∀ b s, ow' b = some s → ow b = some s := by
    intro v hR hv hnr hs
    have lone : ∀ v : AV, a0k v = true → R w (Mo E w ow) v noQ noB (a.eval x.op) → (a3h j v).run st1 = some (u, st') → ∃ val' ow', Sim E N st' a w val' ow' ∧ Kept N j st1 st' val val' ∧ val' j = a.eval x.op ∧ a0k (st'.s j) = true ∧ ∀ b s, ow' b = some s → ow b = some s := fun v hnr hR' hs => by
      have := a0h hs
      subst this
      exact ⟨_, _, h.layp (Q := noQ) hj (fun _ _ h => h.elim) (v := a.eval x.op) hR', ⟨fun t ht => by simp [a0x, ht], fun t _ ht => by simp [ht]⟩, by simp [a0x], by simpa using hnr, fun _ _ h => h⟩
    have lone2 : (∀ t, x ≠ .t t) → (a3h j (frz v)).run st1 = some (u, st') → ∃ val' ow', Sim E N st' a w val' ow' ∧ Kept N j st1 st' val val' ∧ val' j = a.eval x.op ∧ a0k (st'.s j) = true ∧ ∀ b s, ow' b = some s → ow b = some s := fun hxt hs =>
      lone (frz v) (c5b hnr) (e18 (fun _ h => h) v (F := noB) (fun _ h => h.elim) (a6v hnr (a2v (fun b ⟨t, ht, _⟩ => absurd ht (hxt t)) hR))) hs
    cases x with
    | t t =>
      simp only [a3r] at hs
      split at hs
      · rename_i hn
        exact lone v hnr (a6v hnr (a11 v hn hR)) hs
      · obtain ⟨_, st2, h3, h4⟩ := a0a hs
        have := a2h h3
        subst this
        have := a0h h4
        subst this
        obtain ⟨h5, h6, h7⟩ := ht t rfl
        have hf := h.freeze t
        rw [hv t rfl] at hf
        have hsl := hf.slots t
        simp only [St.set_s, if_true] at hsl
        rw [← h7] at hsl
        have hsl2 := a6v (c5b hnr) (a2v (F' := noB) (fun b hb => by by_cases h2 : ow b = some t <;> simp [h2] at hb) hsl)
        refine ⟨_, _, hf.layp (Q := noQ) hj (fun _ _ h => h.elim) (v := a.eval (X.t t).op) hsl2, ⟨fun t ht => by simp [a0x, ht], fun u hu huj => by simp [huj, show u ≠ t by omega]⟩, by simp [a0x], by simpa using c5b hnr, fun b s hb => ?_⟩
        by_cases h2 : ow b = some t
        · simp [h2] at hb
        · simpa [h2] using hb
    | c v0 => exact lone2 (fun t he => by cases he) hs
    | nl sz0 => exact lone2 (fun t he => by cases he) hs
    | g n0 => exact lone2 (fun t he => by cases he) hs
    | f n0 => exact lone2 (fun t he => by cases he) hs
  have hv : ∀ t, x = .t t → st1.s t = v := fun t he => by have := (ht t he).1; injection this with h1 _; exact h1.symm
  cases v with
  | dead => simp [Ev.run] at h2
  | bor t q lo n e1 =>
    obtain ⟨r2, st2, h3, h4⟩ := a0a h2
    obtain ⟨rfl, rfl⟩ := a1t h3
    obtain ⟨_, st3, h5, h6⟩ := a0a h4
    obtain ⟨h7, rfl⟩ := a0b h5
    obtain ⟨k, st4, h8, h9⟩ := a0a h6
    obtain ⟨hk, rfl⟩ := a01 h8
    simp only [Bool.and_eq_true, beq_iff_eq, decide_eq_true_eq] at h7
    obtain ⟨he, htN⟩ := h7
    simp only at hk
    cases k <;> simp only [Ev.run_fail, reduceCtorEq] at h9
    case own sz n0 ks =>
      obtain ⟨_, st5, g1, g2⟩ := a0a h9
      obtain ⟨g3, rfl⟩ := a0b g1
      have hlo : lo + n ≤ n0 := by simpa using g3
      obtain ⟨_, st6, g4, g5⟩ := a0a g2
      have := a2h g4
      subst this
      have := a0h g5
      subst this
      simp only [R, QS] at hR
      obtain ⟨a0, c0, hv0, hvx⟩ := hR.2 he sz n0 ks hk hlo
      obtain ⟨ow', hf, how⟩ := h.freezeNodeX hk
      have hnode := a1g q (k' := frz (.own sz n0 ks)) hk
      obtain ⟨u1, hu1, Fk, G, _, _, _, hr1, _⟩ := a6w q (by have := hf.slots t; simp only [St.set_s, if_true] at this; exact this) hnode
      rw [hv0] at hu1
      injection hu1 with hu1
      have hlen : ks.length = n0 * sz := by
        obtain ⟨u2, hu2, Fk2, G2, _, _, _, hr2, _⟩ := a6w q (h.slots t) hk
        exact a9m hr2
      subst hu1
      have hsub := b4i (w := w) (M := Mo E w ow') (lo := lo) (n := n) (sz := sz) (ks := a1n ks) (n0 := n0) (a0 := a0) (c0 := c0) (Q := _) (F := Fk) (by rw [frz] at hr1; exact hr1) (by rw [a3l, hlen]) hlo
      rw [← hvx] at hsub
      refine ⟨_, _, hf.layp (j := j) (Q := noQ) (v := a.eval x.op) hj (fun _ _ h => h.elim) hsub, ⟨fun t ht => by simp [a0x, ht], fun u hu huj => ?_⟩, by simp [a0x], by simp [a0k], how⟩
      simp [huj, show u ≠ t by omega]
  | _ =>
    obtain ⟨_, st2, h3, h4⟩ := a0a h2
    obtain ⟨h5, rfl⟩ := a0b h3
    exact move _ hR hv h5 h4
end
end Go.Ideal
end
section
set_option linter.unusedVariables false
set_option linter.unusedSimpArgs false
namespace Go.Ideal
open Classical
section
variable {E : Env} {N : Nat} {a : Act} {w : World}
theorem b7o : ∀ (xs : List (Bool × X)) (j : Nat) {st st' : St} {val : Nat → Value} {ow : Nat → Option Nat} {u : Unit}, Sim E N st a w val ow → (∀ p ∈ xs, okX N p.2 = true) → N ≤ j → (a5r N j xs).run st = some (u, st') →
    ∃ val' ow', Sim E N st' a w val' ow' ∧ (∀ t, t < j ∨ j + xs.length ≤ t → val' t = val t ∧ (N ≤ t → st'.s t = st.s t)) ∧ ∀ i x, xs[i]? = some (true, x) → val' (j + i) = a.eval x.op ∧ a0k (st'.s (j + i)) = true
  | [], j, st, st', val, ow, u, h, _, _, hr => by
    simp only [a5r, Ev.run_pure, Option.some.injEq, Prod.mk.injEq] at hr
    obtain ⟨_, rfl⟩ := hr
    exact ⟨val, ow, h, fun _ _ => ⟨rfl, fun _ => rfl⟩, fun i x hx => by simp at hx⟩
  | (g, x) :: xs, j, st, st', val, ow, u, h, hok, hj, hr => by
    simp only [a5r] at hr
    obtain ⟨_, st1, h1, h2⟩ := a0a hr
    have one : ∃ val1 ow1, Sim E N st1 a w val1 ow1 ∧ Kept N j st st1 val val1 ∧ (g = true → val1 j = a.eval x.op ∧ a0k (st1.s j) = true) := by
      cases g with
      | true =>
        simp only [if_true] at h1
        obtain ⟨val1, ow1, g1, g2, g3, g4⟩ := d8s h (hok (true, x) (by simp)) hj h1
        exact ⟨val1, ow1, g1, g2, fun _ => ⟨g3, g4⟩⟩
      | false =>
        simp only [Bool.false_eq_true, if_false, Ev.run_pure, Option.some.injEq, Prod.mk.injEq] at h1
        obtain ⟨_, rfl⟩ := h1
        exact ⟨val, ow, h, ⟨fun _ _ => rfl, fun _ _ _ => rfl⟩, fun hc => by cases hc⟩
    obtain ⟨val1, ow1, g1, g2, g3⟩ := one
    obtain ⟨val2, ow2, k1, k2, k3⟩ := b7o xs (j + 1) g1 (fun p hp => hok p (by simp [hp])) (by omega) h2
    refine ⟨val2, ow2, k1, fun t ht => ?_, fun i y hy => ?_⟩
    · simp only [List.length_cons] at ht
      obtain ⟨e1, e2⟩ := k2 t (by omega)
      exact ⟨e1.trans (g2.val t (by omega)), fun hN => (e2 hN).trans (g2.scratch t hN (by omega))⟩
    · cases i with
      | zero =>
        simp only [List.getElem?_cons_zero, Option.some.injEq, Prod.mk.injEq] at hy
        obtain ⟨rfl, rfl⟩ := hy
        obtain ⟨e1, e2⟩ := k2 j (by omega)
        rw [Nat.add_zero, e1, e2 hj]
        exact g3 rfl
      | succ i =>
        rw [show j + (i + 1) = j + 1 + i by omega]
        exact k3 i y (by simpa using hy)
theorem b4h : ∀ (xs : List (Bool × X)) (j : Nat) {st st' : St} {val : Nat → Value} {ow : Nat → Option Nat} {u : Unit}, Sim E N st a w val ow → (∀ p ∈ xs, okX N p.2 = true) → N ≤ j → (a3x N j xs).run st = some (u, st') →
    ∃ val' ow', Sim E N st' a w val' ow' ∧ (∀ t, t < j ∨ j + xs.length ≤ t ∨ (∃ x, xs[t - j]? = some (true, x)) → val' t = val t ∧ (N ≤ t → st'.s t = st.s t)) ∧
      (∀ i x, xs[i]? = some (false, x) → val' (j + i) = a.eval x.op ∧ a0k (st'.s (j + i)) = true) ∧ ∀ b s, ow' b = some s → ow b = some s
  | [], j, st, st', val, ow, u, h, _, _, hr => by
    simp only [a3x, Ev.run_pure, Option.some.injEq, Prod.mk.injEq] at hr
    obtain ⟨_, rfl⟩ := hr
    exact ⟨val, ow, h, fun _ _ => ⟨rfl, fun _ => rfl⟩, fun i x hx => by simp at hx, fun _ _ h => h⟩
  | (g, x) :: xs, j, st, st', val, ow, u, h, hok, hj, hr => by
    simp only [a3x] at hr
    obtain ⟨_, st1, h1, h2⟩ := a0a hr
    have one : ∃ val1 ow1, Sim E N st1 a w val1 ow1 ∧ (∀ t, t ≠ j ∨ g = true → val1 t = val t ∧ (N ≤ t → st1.s t = st.s t)) ∧ (g = false → val1 j = a.eval x.op ∧ a0k (st1.s j) = true) ∧ ∀ b s, ow1 b = some s → ow b = some s := by
      cases g with
      | false =>
        simp only [Bool.false_eq_true, if_false] at h1
        obtain ⟨val1, ow1, g1, g2, g3, g4, g5⟩ := d88 h (hok (false, x) (by simp)) hj h1
        exact ⟨val1, ow1, g1, fun t ht => ⟨g2.val t (by simpa using ht), fun hN => g2.scratch t hN (by simpa using ht)⟩, fun _ => ⟨g3, g4⟩, g5⟩
      | true =>
        simp only [if_true, Ev.run_pure, Option.some.injEq, Prod.mk.injEq] at h1
        obtain ⟨_, rfl⟩ := h1
        exact ⟨val, ow, h, fun _ _ => ⟨rfl, fun _ => rfl⟩, (fun hc => by cases hc), fun _ _ h => h⟩
    obtain ⟨val1, ow1, g1, g2, g3, g4⟩ := one
    obtain ⟨val2, ow2, k1, k2, k3, k4⟩ := b4h xs (j + 1) g1 (fun p hp => hok p (by simp [hp])) (by omega) h2
    refine ⟨val2, ow2, k1, fun t ht => ?_, fun i y hy => ?_, fun b s hb => g4 b s (k4 b s hb)⟩
    · simp only [List.length_cons] at ht
      have htt : t < j + 1 ∨ j + 1 + xs.length ≤ t ∨ ∃ y, xs[t - (j + 1)]? = some (true, y) := by
        rcases ht with ht | ht | ⟨y, hy⟩
        · omega
        · omega
        · by_cases htj : t < j + 1
          · exact .inl htj
          · refine .inr (.inr ⟨y, ?_⟩)
            rw [show t - j = (t - (j + 1)) + 1 by omega] at hy
            simpa using hy
      obtain ⟨e1, e2⟩ := k2 t htt
      have htg : t ≠ j ∨ g = true := by
        by_cases htj : t = j
        · subst htj
          rcases ht with ht | ht | ⟨y, hy⟩
          · omega
          · omega
          · simp at hy; exact .inr hy.1
        · exact .inl htj
      obtain ⟨e3, e4⟩ := g2 t htg
      exact ⟨e1.trans e3, fun hN => (e2 hN).trans (e4 hN)⟩
    · cases i with
      | zero =>
        simp only [List.getElem?_cons_zero, Option.some.injEq, Prod.mk.injEq] at hy
        obtain ⟨rfl, rfl⟩ := hy
        obtain ⟨e1, e2⟩ := k2 j (by omega)
        rw [Nat.add_zero, e1, e2 hj]
        exact g3 rfl
      | succ i =>
        rw [show j + (i + 1) = j + 1 + i by omega]
        exact k3 i y (by simpa using hy)
end
structure Ret (w : World) (A Fa : BS) (w' : World) (res : AV) (v : Value) : Prop where
  le : w.heap.size ≤ w'.heap.size
  os : w'.os = w.os
  tape : w'.tape = w.tape
  output : w'.output = w.output
  frame : ∀ b, b < w.heap.size → ¬ Fa b → w'.heap[b]? = w.heap[b]?
  own : ∃ F : BS, (∀ b, F b → (Fa b ∨ w.heap.size ≤ b) ∧ b < w'.heap.size) ∧ R w' (fun b => b < w'.heap.size ∧ ¬ F b ∧ (A b ∨ Fa b ∨ w.heap.size ≤ b)) res noQ F v
def ACalls (P : Program) (G : Nat → Option Value) (f : FuncId) (pre : List AV) (res : AV) : Prop :=
  ∀ (w : World) (args : Array Value) (A : BS) (ow : Nat → Option Nat), args.size = pre.length → (∀ b, A b → b < w.heap.size ∧ ow b = none) → (∀ b i, ow b = some i → i < pre.length ∧ b < w.heap.size) →
    (∀ g v, G g = some v → GC w g v ∧ g < w.heap.size ∧ ow g = none) → (∀ i av, pre[i]? = some av → R w A av noQ (fun b => ow b = some i) (args.getD i undef)) →
    Calls P f args w (fun e w' => ∃ v, e = .returned v ∧ Ret w A (fun b => ow b ≠ none) w' res v)
mutual
def a0w : AV → Bool
  | .sl _ ks => ks.isEmpty
  | .ip _ _ => false
  | .own _ _ ks => a1e ks
  | .var ks => a1e ks
  | .agg ks => a1e ks
  | .tup ks => a1e ks
  | .ifc _ k => a0w k
  | .fn _ fs cs => a1e fs && a1e cs
  | _ => true
def a1e : List AV → Bool
  | [] => true
  | k :: ks => a0w k && a1e ks
end
mutual
theorem c4j {w : World} {M M' : BS} : ∀ (av : AV) {Q : QR} {F : BS} {v : Value}, a0w av = true → R w M av Q F v → R w M' av Q F v
  | .dead, _, _, _, _, _ => by simp only [R]
  | .lit u, _, _, _, _, h => by simp only [R] at *; exact h
  | .sl n ks, _, _, _, hn, h => by
    simp only [a0w, List.isEmpty_iff] at hn
    subst hn
    simp only [R, RL] at *
    obtain ⟨a, c, hv, hc, vs, h1, hr, h⟩ := h
    exact ⟨a, c, hv, hc, vs, h1, hr, .inl hr⟩
  | .ip ks off, _, _, _, hn, h => by simp [a0w] at hn
  | .own sz n ks, _, F, _, hn, h => by
    simp only [a0w] at hn
    simp only [R] at *
    rcases h with ⟨h0, h1, h2⟩ | ⟨b, c, cur, T, fz, hv, hb, hh, hz, h1, h2, h3, h4, hr⟩
    · exact .inl ⟨h0, a7q ks hn h1, h2⟩
    · exact .inr ⟨b, c, cur, T, fz, hv, hb, hh, hz, h1, h2, h3, h4, a7q ks hn hr⟩
  | .var ks, _, F, _, hn, h => by
    simp only [a0w] at hn
    simp only [R] at *
    obtain ⟨b, cur, T, fz, hv, hb, hh, hz, h1, hr⟩ := h
    exact ⟨b, cur, T, fz, hv, hb, hh, hz, h1, a7q ks hn hr⟩
  | .agg ks, _, F, _, hn, h => by
    simp only [a0w] at hn
    simp only [R] at *
    obtain ⟨arr, hv, h1, hr⟩ := h
    exact ⟨arr, hv, h1, a7q ks hn hr⟩
  | .tup ks, _, F, _, hn, h => by
    simp only [a0w] at hn
    simp only [R] at *
    obtain ⟨arr, hv, hr⟩ := h
    exact ⟨arr, hv, a7q ks hn hr⟩
  | .ifc T k, _, F, _, hn, h => by
    simp only [a0w] at hn
    simp only [R] at *
    obtain ⟨u, hv, hr⟩ := h
    exact ⟨u, hv, c4j k hn hr⟩
  | .fn f fs cs, _, F, _, hn, h => by
    simp only [a0w, Bool.and_eq_true] at hn
    simp only [R] at *
    obtain ⟨a1, a2, hv, h1, h2⟩ := h
    exact ⟨a1, a2, hv, a7q fs hn.1 h1, a7q cs hn.2 h2⟩
  | .ref t q o e, _, _, _, _, h => by simp only [R] at *; exact h
  | .bor t q lo n e, _, _, _, _, h => by simp only [R] at *; exact h
theorem a7q {w : World} {M M' : BS} : ∀ (ks : List AV) {Q : QR} {F : BS} {vs : List Value}, a1e ks = true → RL w M ks Q F vs → RL w M' ks Q F vs
  | [], _, _, _, _, h => by simp only [RL] at *; exact h
  | k :: ks, _, F, _, hn, h => by
    simp only [a1e, Bool.and_eq_true] at hn
    simp only [RL] at *
    obtain ⟨v, vs', hv, F1, F2, h1, h2, hd, hr, hrs⟩ := h
    exact ⟨v, vs', hv, F1, F2, h1, h2, hd, c4j k hn.1 hr, a7q ks hn.2 hrs⟩
end
def St.clear (N : Nat) (st : St) : St := { st with s := fun t => if t < N then st.s t else .dead }
def d8c (N : Nat) (d : Option Nat) (res : AV) : Ev Unit := match d with
  | none => pure ()
  | some _ => a4e N d res
def a7b (N : Nat) (n : Nat) (st : St) : List AV := (List.range n).map fun i => st.s (N + 2 + i)
def f03 (P : Program) (G : Nat → Option Value) (N : Nat) (d : Option Nat) (f : FuncId) (args : List (Bool × X)) (K : St → Prop) (st : St) : Prop :=
  ∃ st1 st2 res st3, (a5r N (N + 2) args).run st = some ((), st1) ∧ (a3x N (N + 2) args).run st1 = some ((), st2) ∧ ACalls P G f (a7b N args.length st2) res ∧ a0k res = true ∧ 
    (d8c N d res).run ((if a0w res then st1 else st2).clear N) = some ((), st3) ∧ K st3
def fnB (P : Program) (f : FuncId) : Bool := match P.funcs[f]? with
  | some fn => !(fn.name == "runtime.NumGoroutine") && fn.body.isSome
  | none => false
end Go.Ideal
end
section
set_option linter.unusedVariables false
set_option linter.unusedSimpArgs false
namespace Go.Ideal
open Classical
section
variable {E : Env} {N : Nat} {a : Act} {w : World} {st : St} {val : Nat → Value} {ow : Nat → Option Nat}
theorem Sim.back (h : Sim E N st a w val ow) {w' : World} {res : AV} {v : Value} {F Fa : BS} (hle : w.heap.size ≤ w'.heap.size) (hos : w'.os = w.os) (htape : w'.tape = w.tape) (hout : w'.output = w.output)
    (hframe : ∀ b, b < w.heap.size → ¬ Fa b → w'.heap[b]? = w.heap[b]?) (hFa : ∀ b, Fa b → ∃ s, ow b = some s ∧ N ≤ s) (hF : ∀ b, F b → (Fa b ∨ w.heap.size ≤ b) ∧ b < w'.heap.size)
    (hR : R w' (Mo E w' (fun b => if F b then some N else match ow b with | some t => if t < N then some t else none | none => none)) res noQ F v) :
    ∃ ow', Sim E N ((st.clear N).put N res) a w' (a0x val N v) ow' := by
  have hcl : ∀ b t, ow b = some t → t < N → ¬ Fa b := fun b t hb ht hf => by
    obtain ⟨s, hs, hN⟩ := hFa b hf
    rw [hb] at hs; injection hs with hs; omega
  have hnF : ∀ b t, ow b = some t → t < N → ¬ F b := fun b t hb ht hf => by
    rcases (hF b hf).1 with h1 | h1
    · exact hcl b t hb ht h1
    · have := h.lt b t hb; omega
  have hkeep : ∀ b t, ow b = some t → t < N → w'.heap[b]? = w.heap[b]? := fun b t hb ht => hframe b (h.lt b t hb) (hcl b t hb ht)
  have hfree : ∀ b, ow b = none → b < w.heap.size → ¬ F b ∧ w'.heap[b]? = w.heap[b]? := fun b hb hlt => by
    have hnf : ¬ Fa b := fun hf => by obtain ⟨s, hs, _⟩ := hFa b hf; rw [hb] at hs; cases hs
    refine ⟨fun hf => ?_, hframe b hlt hnf⟩
    rcases (hF b hf).1 with h1 | h1
    · exact hnf h1
    · omega
  refine ⟨fun b => if F b then some N else match ow b with | some t => if t < N then some t else none | none => none, ?_⟩
  exact {
    size := h.size, defers := h.defers
    agree := fun t ht => (h.agree t ht).trans (by have : t ≠ N := by omega
                                                  simp [a0x, this])
    lt := fun b t hb => by
      by_cases hf : F b
      · exact (hF b hf).2
      · simp only [hf, if_false] at hb
        cases ho : ow b with
        | none => simp [ho] at hb
        | some s => exact Nat.lt_of_lt_of_le (h.lt b s ho) hle
    old := fun b hb hE => by
      obtain ⟨h1, h2⟩ := h.old b hb hE
      obtain ⟨h3, h4⟩ := hfree b h1 (Nat.lt_of_lt_of_le hb h.le)
      exact ⟨by simp [h3, h1], h4.trans h2⟩
    le := Nat.le_trans h.le hle
    os := hos.trans h.os, tape := htape.trans h.tape, output := hout.trans h.output
    glob := fun g v hg => by
      obtain ⟨h1, h2⟩ := h.globA g v hg
      exact (h.glob g v hg).keep (hfree g (h.old g h1 h2).1 (Nat.lt_of_lt_of_le h1 h.le)).2
    globA := h.globA
    slots := a3o h (fun _ _ => false) (fun u => N ≤ u) (fun t ht => by
        have ht' : t < N := by omega
        rw [a46]
        refine ⟨by simp [St.clear, ht', show t ≠ N by omega], by simp [a0x, show t ≠ N by omega], fun b hb => ⟨?_, hkeep b t hb ht'⟩⟩
        simp [hnF b t hb ht', hb, ht']) (fun t ht => by
        by_cases htN : t = N
        · subst htN
          simp only [St.put_s, if_true, a0x]
          exact a0y (fun _ h => h) (fun _ _ => rfl) res (fun _ _ h => h.elim) (fun b hb => by simp [hb]) (fun _ _ => rfl) hR
        · simp [htN, St.clear, show ¬ t < N by omega, R]) (fun b hb => by
        obtain ⟨h1, h2, h3⟩ := hb
        obtain ⟨h4, h5⟩ := hfree b h1 h2
        exact ⟨⟨by simp [h4, h1], Nat.lt_of_lt_of_le h2 hle, h3⟩, h5⟩) (fun t q _ => by
        by_cases ht : t = N
        · subst ht; exact Stab.put (v := res) (by simp) (by simp [St.put_ep, St.clear]) q
        · by_cases hlt : t < N
          · refine ⟨by simp [St.put_ep, ht, St.clear], fun _ k' hk _ => ⟨k', by simpa [ht, St.clear, hlt] using hk, fun ks' h hne => ⟨ks', h, hne⟩, fun _ _ ks' h => ⟨ks', h⟩, ?_⟩⟩
            simp only [a0x, ht, if_false]
            have hk' : a0c (st.s t) q = some k' := by simpa [ht, St.clear, hlt] using hk
            exact a3f q (h.slots t) hk' (fun b hb => hkeep b t hb hlt)
          · exact Stab.norow (by simp [St.put_ep, ht, St.clear]) (by simp [ht, St.clear, hlt, a0e]) q) }
theorem c21 {P : Program} {f : FuncId} (h : fnB P f = true) (args : Array Value) (w : World) : (callFunc f args).run P w = .ok (.enter f args) w := by
  unfold fnB at h
  split at h
  · rename_i fn hf
    simp only [Bool.and_eq_true, Bool.not_eq_true'] at h
    have hn : ¬ fn.name = "runtime.NumGoroutine" := by simpa using h.1
    have hb : ¬ fn.body = none := by
      intro hb
      rw [hb] at h
      exact absurd h.2 (by simp)
    simp [callFunc, hf, hn, hb]
  · cases h
theorem e2g (h : Sim E N st a w val ow) {P : Program} {G : Nat → Option Value} (hG : E.G = G) {o : Oper} {f : FuncId} {args : List (Bool × X)} {tys : Array TypeId} (ho : o.op = .call { callee := .value (.func f), args := (args.map fun p => p.2.op).toArray, argTypes := tys })
    (hd : ∀ d, o.dst = some d → d < N) (hok : ∀ p ∈ args, okX N p.2 = true) (hf : fnB P f = true) {K : St → Prop} (hc : f03 P G N o.dst f args K st)
    {K' : Act → World → Prop} {Q : Exit → Act → World → Prop} (hK : ∀ v st' w' val' ow', K st' → Sim E N st' (a.put o.dst v) w' val' ow' → K' (a.put o.dst v) w') : o.wp P a w K' Q := by
  obtain ⟨st1, st2, res, st3, h1, h2, hA, hnr, h3, hk⟩ := hc
  obtain ⟨val1, ow1, s1, e1, e2⟩ := b7o args (N + 2) h hok (by omega) h1
  obtain ⟨val2, ow2, s2, g1, g2, g3⟩ := b4h args (N + 2) s1 hok (by omega) h2
  have hargs : ∀ i g x, args[i]? = some (g, x) → val2 (N + 2 + i) = a.eval x.op ∧ a0k (st2.s (N + 2 + i)) = true := fun i g x hx => by
    cases g with
    | true =>
      obtain ⟨k1, k2⟩ := g1 (N + 2 + i) (.inr (.inr ⟨x, by rw [show N + 2 + i - (N + 2) = i by omega]; exact hx⟩))
      rw [k1, k2 (by omega)]
      exact e2 i x hx
    | false => exact g2 i x hx
  have hrun : (execOp a.eval o).run P w = .ok (.enter f (args.map fun p => a.eval p.2.op).toArray) w := by
    have hval : a.eval (.func f) = .func (.func f) #[] #[] := rfl
    simp only [execOp, ho, resolve, hval, Deferred.ofValue, Sem.run_bind, Sem.run_pure, Result.andThen_ok, invoke]
    rw [c21 hf]
    simp [Function.comp_def]
  unfold Oper.wp
  rw [hrun, Oper.upon_enter]
  let owc : Nat → Option Nat := fun b => match ow2 b with | some s => if N + 2 ≤ s ∧ s < N + 2 + args.length then some (s - (N + 2)) else none | none => none
  have howc : ∀ b i, owc b = some i ↔ (ow2 b = some (N + 2 + i) ∧ i < args.length) := fun b i => by
    simp only [owc]
    cases hb : ow2 b with
    | none => simp
    | some s =>
      simp only [Option.some.injEq]
      constructor
      · intro hs
        split at hs
        · injection hs with hs; omega
        · cases hs
      · rintro ⟨rfl, hi⟩
        rw [if_pos (by omega)]
        simp
  refine Calls.mono (hA w _ (Mo E w ow2) owc (by simp [a7b]) (fun b hb => ⟨hb.2.1, ?_⟩) (fun b i hb => ?_) (fun g v hg => ?_) (fun i av hi => ?_)) ?_
  · simp [owc, hb.1]
  · obtain ⟨k1, k2⟩ := (howc b i).1 hb
    exact ⟨by simpa [a7b] using k2, s2.lt b _ k1⟩
  · rw [← hG] at hg
    obtain ⟨k1, k2⟩ := s2.globA g v hg
    refine ⟨s2.glob g v hg, Nat.lt_of_lt_of_le k1 s2.le, ?_⟩
    simp [owc, (s2.old g k1 k2).1]
  · have hil : i < args.length := by
      have := (List.getElem?_eq_some_iff.1 hi).1
      simpa [a7b] using this
    have hav : av = st2.s (N + 2 + i) := by
      simp [a7b, hil] at hi
      exact hi.symm
    subst hav
    obtain ⟨g, x⟩ : Bool × X := args[i]
    obtain ⟨k1, k2⟩ := hargs i args[i].1 args[i].2 (by simp [hil])
    have hv : ((args.map fun p => a.eval p.2.op).toArray).getD i undef = val2 (N + 2 + i) := by
      rw [k1]; simp [hil]
    rw [hv]
    exact a2v (fun b hb => (howc b i).2 ⟨hb, hil⟩) (a6v k2 (s2.slots (N + 2 + i)))
  · rintro e w' ⟨v, rfl, hret⟩
    obtain ⟨F, hF, hRF⟩ := hret.own
    have hFa : ∀ b, owc b ≠ none → ∃ s, ow2 b = some s ∧ N ≤ s := fun b hb => by
      cases hi : owc b with
      | none => exact absurd hi hb
      | some i => exact ⟨_, ((howc b i).1 hi).1, by omega⟩
    have fin : ∀ (stB : St) (valB : Nat → Value) (owB : Nat → Option Nat), Sim E N stB a w valB owB → (∀ b s, ow2 b = some s → owB b = some s) → (∀ (owR : Nat → Option Nat), (∀ b, b < w'.heap.size ∧ ¬ F b ∧ (Mo E w ow2 b ∨ owc b ≠ none ∨ w.heap.size ≤ b) → owB b = none ∨ (∃ s, owB b = some s ∧ N ≤ s) → Mo E w' owR b) → R w' (Mo E w' owR) res noQ F v) →
        (d8c N o.dst res).run (stB.clear N) = some ((), st3) → ∃ val' ow', Sim E N st3 (a.put o.dst v) w' val' ow' := by
      intro stB valB owB hB hsub hRB hfin
      cases hdst : o.dst with
      | none =>
        rw [hdst] at hfin
        simp only [d8c, Ev.run_pure, Option.some.injEq, Prod.mk.injEq, true_and] at hfin
        obtain ⟨ow', hs⟩ := hB.back (w' := w') (res := .dead) (v := v) (F := noB) (Fa := fun b => owc b ≠ none) hret.le hret.os hret.tape hret.output hret.frame (fun b hb => let ⟨s, k1, k2⟩ := hFa b hb; ⟨s, hsub b s k1, k2⟩) (fun b hb => hb.elim) (by simp only [R])
        refine ⟨a0x valB N v, ow', ?_⟩
        have : (stB.clear N).put N .dead = st3 := by
          rw [← hfin, a08 _ _ (by simp [a0e])]
          unfold St.set St.clear
          congr 1
          funext u
          by_cases hu : u = N <;> simp [hu]
        rw [this] at hs
        exact hs
      | some d =>
        rw [hdst] at hfin
        simp only [d8c] at hfin
        obtain ⟨ow', hs⟩ := hB.back (w' := w') (res := res) (v := v) (F := F) (Fa := fun b => owc b ≠ none) hret.le hret.os hret.tape hret.output hret.frame (fun b hb => let ⟨s, k1, k2⟩ := hFa b hb; ⟨s, hsub b s k1, k2⟩) hF (hRB _ (fun b hb hb2 => by
          refine ⟨?_, hb.1, ?_⟩
          · rcases hb2 with hb2 | ⟨s, hb2, hs⟩
            · simp [hb.2.1, hb2]
            · simp [hb.2.1, hb2, show ¬ s < N by omega]
          · rcases hb.2.2 with h1 | h1 | h1
            · exact h1.2.2
            · obtain ⟨s, k1, _⟩ := hFa b h1
              exact .inr (s2.owned k1).2
            · exact .inr (.inr (Nat.le_trans s2.le h1))))
        unfold a4e at hfin
        obtain ⟨_, q1, q2, q3⟩ := a0a hfin
        have := a0h q2
        subst this
        obtain ⟨_, q4, q5, q6⟩ := a0a q3
        have := a0h q5
        subst this
        obtain ⟨d0, hd0, rfl⟩ := a0f q6
        injection hd0 with hd0
        subst hd0
        obtain ⟨ow'', hs2⟩ := hs.finJ (hd d hdst) (Nat.le_refl N)
        rw [a08 _ N (v := .dead) (by simp [a0e])]
        simp only [St.put_s, if_true, a0x] at hs2
        exact ⟨_, ow'', hs2⟩
    have hdone : ∃ val' ow', Sim E N st3 (a.put o.dst v) w' val' ow' := by
      by_cases hni : a0w res = true
      · rw [if_pos hni] at h3
        exact fin st1 val1 ow1 s1 g3 (fun owR _ => c4j res hni hRF) h3
      · rw [if_neg hni] at h3
        refine fin st2 val2 ow2 s2 (fun _ _ h => h) (fun owR hM => ?_) h3
        exact a0y (fun b hb => hM b hb (by
          rcases hb.2.2 with h1 | h1 | h1
          · exact .inl h1.1
          · exact .inr (hFa b h1)
          · refine .inl ?_
            cases hb3 : ow2 b with
            | none => rfl
            | some s => have := s2.lt b s hb3; omega)) (fun _ _ => rfl) res (fun _ _ h => h) (fun _ h => h) (fun _ _ => rfl) hRF
    obtain ⟨val', ow', hs⟩ := hdone
    exact hK v st3 w' val' ow' hk hs
end
end Go.Ideal
end
section
set_option linter.unusedVariables false
set_option linter.unusedSimpArgs false
namespace Go.Ideal
open Classical
inductive CS where
  | p (k : Nat)
  | x (y : X)
def xv (st : St) : X → AV
  | .t n => st.s n
  | .c v => .lit v
  | .nl sz => .own sz 0 []
  | .g n => .lit (.pointer (some ⟨n, 0, none⟩))
  | .f n => .fn n [] []
def e3c (N : Nat) (st : St) : CS → Option Nat × AV
  | .p k => (some k, st.s (N + 2 + k))
  | .x y => (none, xv st y)
def c9i (N : Nat) (st : St) (fs : List AV) (lay : List CS) (cs : List AV) : List (Option Nat × AV) := fs.map (fun a => (none, a)) ++ (lay.map (e3c N st) ++ cs.map (fun a => (none, a)))
mutual
def trA (st : St) (L : List (Nat × Nat)) : AV → Option AV
  | .ref t q o e => if q = [] ∧ e = st.ep t then (L.lookup t).map fun i => .ref i [] o 0 else none
  | .fn f fs cs => match trL st L fs, trL st L cs with
    | some a, some b => some (.fn f a b)
    | _, _ => none
  | .bor _ _ _ _ _ => none
  | av => if a0l av then some av else none
def trL (st : St) (L : List (Nat × Nat)) : List AV → Option (List AV)
  | [] => some []
  | k :: ks => match trA st L k, trL st L ks with
    | some a, some b => some (a :: b)
    | _, _ => none
end
def St.init (pre : List AV) : St := ⟨fun t => match pre[t]? with | some av => av | none => .lit undef, fun _ => 0⟩
structure RetX (w : World) (A Fa : BS) (w' : World) (res : AV) (v : Value) (posts : List (Nat × AV)) (args : Array Value) : Prop where
  le : w.heap.size ≤ w'.heap.size
  os : w'.os = w.os
  tape : w'.tape = w.tape
  output : w'.output = w.output
  frame : ∀ b, b < w.heap.size → ¬ Fa b → w'.heap[b]? = w.heap[b]?
  own : ∃ own : Nat → Option Nat, (∀ b j, own b = some j → (Fa b ∨ w.heap.size ≤ b) ∧ b < w'.heap.size) ∧
    R w' (fun b => b < w'.heap.size ∧ own b = none ∧ (A b ∨ Fa b ∨ w.heap.size ≤ b)) res noQ (fun b => own b = some 0) v ∧
    ∀ i av, (i, av) ∈ posts → R w' (fun b => b < w'.heap.size ∧ own b = none ∧ (A b ∨ Fa b ∨ w.heap.size ≤ b)) av noQ (fun b => own b = some (i + 1)) (args.getD i undef)
def ACallsX (P : Program) (G : Nat → Option Value) (f : FuncId) (pre : List AV) (res : AV) (posts : List (Nat × AV)) : Prop :=
  ∀ (w : World) (args : Array Value) (A : BS) (ow : Nat → Option Nat), args.size = pre.length → (∀ b, A b → b < w.heap.size ∧ ow b = none) → (∀ b i, ow b = some i → i < pre.length ∧ b < w.heap.size) →
    (∀ g v, G g = some v → GC w g v ∧ g < w.heap.size ∧ ow g = none) → (∀ i av, pre[i]? = some av → R w A av (QS w (St.init pre) (fun t => args.getD t undef)) (fun b => ow b = some i) (args.getD i undef)) →
    Calls P f args w (fun e w' => ∃ v, e = .returned v ∧ RetX w A (fun b => ow b ≠ none) w' res v posts args)
theorem ACalls.toX {P : Program} {G : Nat → Option Value} {f : FuncId} {pre : List AV} {res : AV} (h : ACalls P G f pre res) (hn : ∀ av ∈ pre, a0k av = true) : ACallsX P G f pre res [] := fun w args A ow h1 h2 h3 h4 h5 => by
  refine (h w args A ow h1 h2 h3 h4 fun i av hi => a6v (hn av (List.mem_of_getElem? hi)) (h5 i av hi)).mono ?_
  rintro e w' ⟨v, rfl, hr⟩
  refine ⟨v, rfl, hr.le, hr.os, hr.tape, hr.output, hr.frame, ?_⟩
  obtain ⟨F, hF, hR⟩ := hr.own
  refine ⟨fun b => if F b then some 0 else none, fun b j hb => ?_, ?_, fun i av hi => by simp at hi⟩
  · by_cases hf : F b
    · exact hF b hf
    · simp [hf] at hb
  · refine a0y (fun b hb => ⟨hb.1, by simp [hb.2.1], hb.2.2⟩) (fun _ _ => rfl) res (fun _ _ h => h) (fun b hb => by simp [hb]) (fun _ _ => rfl) hR
def a66 (T : List (Nat × AV)) (t : Nat) (q : List Nat) : Bool := match q, T.lookup t with
  | _ :: _, some (.var ks) => !a0j ks
  | _, _ => false
def St.lentS (N : Nat) (T : List (Nat × AV)) (st : St) : St := { st with s := fun u => if u < N then (match T.lookup u with | some av => av | none => a02 (a66 T) (st.s u)) else .dead }
theorem b4l {kl : Nat → List Nat → Bool} {av : AV} : a0e (a02 kl av) = a0e av ∧ ((a0e av).isSome = true → a02 kl av = av) := by
  cases av <;> first | (simp [a02, a0e]; done) | (simp only [a02]; split <;> simp [a0e])
theorem c5g {kl : Nat → List Nat → Bool} {av : AV} {q : List Nat} {k : AV} (h : a0c (a02 kl av) q = some k) (hr : (a0e k).isSome = true) : a0c av q = some k := by
  cases q with
  | nil =>
    simp only [a0c, Option.some.injEq] at h ⊢
    subst h
    rw [b4l.1] at hr
    exact (b4l.2 hr).symm
  | cons i q =>
    cases h2 : a0e av with
    | none => simp only [a0c, b4l.1, h2] at h; cases h
    | some ks =>
      rw [b4l.2 (by rw [h2]; rfl)] at h
      exact h
theorem e2x {k : AV} (h : a0l k = true) : a0e k = none := by cases k <;> first | rfl | simp [a0l] at h
theorem c49 : ∀ {ks : List AV} {i : Nat} {k : AV}, a0j ks = true → ks[i]? = some k → a0l k = true
  | [], i, k, _, h => by simp at h
  | x :: ks, 0, k, hn, h => by
    simp only [a0j, Bool.and_eq_true] at hn
    simp only [List.getElem?_cons_zero, Option.some.injEq] at h
    subst h
    exact hn.1
  | x :: ks, i + 1, k, hn, h => by
    simp only [a0j, Bool.and_eq_true] at hn
    exact c49 hn.2 (by simpa using h)
theorem d7v {ks : List AV} {i : Nat} {q : List Nat} {k : AV} (hn : a0j ks = true) (h : a0c (.var ks) (i :: q) = some k) : a0e k = none := by
  simp only [a0c, a0e] at h
  cases hi : ks[i]? with
  | none => simp [hi] at h
  | some k0 =>
    simp only [hi] at h
    have h0 := e2x (c49 hn hi)
    cases q with
    | nil => simp only [a0c, Option.some.injEq] at h; subst h; exact h0
    | cons j q => simp only [a0c, h0] at h; cases h
section
variable {E : Env} {N : Nat} {a : Act} {w : World} {st : St} {val : Nat → Value} {ow : Nat → Option Nat}
theorem c1n {T : List (Nat × AV)} (hT : (T.map (·.1)).Nodup) {t : Nat} {av : AV} : T.lookup t = some av ↔ (t, av) ∈ T := by
  induction T with
  | nil => simp
  | cons p T ih =>
    obtain ⟨u, x⟩ := p
    simp only [List.map_cons, List.nodup_cons] at hT
    by_cases h : t = u
    · subst h
      simp only [List.lookup_cons, beq_self_eq_true, Option.some.injEq, List.mem_cons, Prod.mk.injEq, true_and]
      exact ⟨fun h => .inl h.symm, fun h => h.elim (fun h => h.symm) fun h => absurd (List.mem_map.2 ⟨_, h, rfl⟩) hT.1⟩
    · have : (t == u) = false := by simpa using h
      simp only [List.lookup_cons, this, List.mem_cons, Prod.mk.injEq, h, false_and, false_or]
      exact ih hT.2
theorem c42 {T : List (Nat × AV)} {t : Nat} : T.lookup t = none ↔ ∀ av, (t, av) ∉ T := by
  induction T with
  | nil => simp
  | cons p T ih =>
    obtain ⟨u, x⟩ := p
    by_cases h : t = u
    · subst h
      simp only [List.lookup_cons, beq_self_eq_true, reduceCtorEq, false_iff]
      exact fun h => h x (by simp)
    · have : (t == u) = false := by simpa using h
      simp only [List.lookup_cons, this, List.mem_cons, Prod.mk.injEq, h, false_and, false_or]
      exact ih
theorem Sim.backX (h : Sim E N st a w val ow) {w' : World} {res : AV} {v : Value} {T : List (Nat × AV)} {own : Nat → Option (Option Nat)} {Fa : BS} (hT : (T.map (·.1)).Nodup) (hTN : ∀ t av, (t, av) ∈ T → t < N ∧ (∃ ks, st.s t = .var ks ∧ ks ≠ []) ∧ ∃ ks, av = .var ks)
    (hle : w.heap.size ≤ w'.heap.size) (hos : w'.os = w.os) (htape : w'.tape = w.tape) (hout : w'.output = w.output)
    (hframe : ∀ b, b < w.heap.size → ¬ Fa b → w'.heap[b]? = w.heap[b]?) (hFa : ∀ b, Fa b → ∃ s, ow b = some s ∧ (N ≤ s ∨ ∃ av, (s, av) ∈ T)) (hF : ∀ b o, own b = some o → (Fa b ∨ w.heap.size ≤ b) ∧ b < w'.heap.size ∧ ∀ t, o = some t → ∃ av, (t, av) ∈ T)
    {ow' : Nat → Option Nat} (how : ∀ b, ow' b = match own b with
      | some none => some N
      | some (some t) => some t
      | none => match ow b with
        | some s => if s < N ∧ (T.lookup s).isNone = true then some s else none
        | none => none)
    (hR : R w' (Mo E w' ow') res noQ (fun b => own b = some none) v) (hP : ∀ t av, (t, av) ∈ T → R w' (Mo E w' ow') av noQ (fun b => own b = some (some t)) (val t)) :
    Sim E N ((st.lentS N T).put N res) a w' (a0x val N v) ow' := by
  have hcl : ∀ b t, ow b = some t → t < N → T.lookup t = none → ¬ Fa b := fun b t hb ht hl hf => by
    obtain ⟨s, hs, hN⟩ := hFa b hf
    rw [hb] at hs; injection hs with hs; subst hs
    rcases hN with hN | ⟨av, hav⟩
    · omega
    · exact c42.1 hl av hav
  have hno : ∀ b, ¬ Fa b → b < w.heap.size → own b = none := fun b hb hlt => by
    cases ho : own b with
    | none => rfl
    | some o => rcases (hF b o ho).1 with h1 | h1
                · exact absurd h1 hb
                · omega
  have hkeep : ∀ b t, ow b = some t → t < N → T.lookup t = none → w'.heap[b]? = w.heap[b]? := fun b t hb ht hl => hframe b (h.lt b t hb) (hcl b t hb ht hl)
  have hfree : ∀ b, ow b = none → b < w.heap.size → ow' b = none ∧ w'.heap[b]? = w.heap[b]? := fun b hb hlt => by
    have hnf : ¬ Fa b := fun hf => by obtain ⟨s, hs, _⟩ := hFa b hf; rw [hb] at hs; cases hs
    refine ⟨?_, hframe b hlt hnf⟩
    rw [how, hno b hnf hlt, hb]
  exact {
    size := h.size, defers := h.defers
    agree := fun t ht => (h.agree t ht).trans (by have : t ≠ N := by omega
                                                  simp [a0x, this])
    lt := fun b t hb => by
      cases ho : own b with
      | some o => exact (hF b o ho).2.1
      | none =>
        rw [how, ho] at hb
        cases ho2 : ow b with
        | none => simp [ho2] at hb
        | some s => exact Nat.lt_of_lt_of_le (h.lt b s ho2) hle
    old := fun b hb hE => by
      obtain ⟨h1, h2⟩ := h.old b hb hE
      obtain ⟨h3, h4⟩ := hfree b h1 (Nat.lt_of_lt_of_le hb h.le)
      exact ⟨h3, h4.trans h2⟩
    le := Nat.le_trans h.le hle
    os := hos.trans h.os, tape := htape.trans h.tape, output := hout.trans h.output
    glob := fun g v hg => by
      obtain ⟨h1, h2⟩ := h.globA g v hg
      exact (h.glob g v hg).keep (hfree g (h.old g h1 h2).1 (Nat.lt_of_lt_of_le h1 h.le)).2
    globA := h.globA
    slots := a3o h (a66 T) (fun u => N ≤ u ∨ ∃ av, (u, av) ∈ T) (fun t ht => by
        have ht' : t < N := by have := fun hc => ht (.inl hc); omega
        have hl : T.lookup t = none := c42.2 fun av hav => ht (.inr ⟨av, hav⟩)
        refine ⟨by simp [St.lentS, ht', hl, show t ≠ N by omega], by simp [a0x, show t ≠ N by omega], fun b hb => ⟨?_, hkeep b t hb ht' hl⟩⟩
        rw [how, hno b (hcl b t hb ht' hl) (h.lt b t hb), hb]
        simp [ht', hl]) (fun t ht => by
        by_cases htN : t = N
        · subst htN
          simp only [St.put_s, if_true, a0x]
          exact a0y (fun _ h => h) (fun _ _ => rfl) res (fun _ _ h => h.elim) (fun b hb => by rw [how, hb]) (fun _ _ => rfl) hR
        · by_cases hlt : t < N
          · obtain ⟨av, hav⟩ := ht.resolve_left (by omega)
            simp only [St.put_s, htN, if_false, a0x, St.lentS, hlt, if_true, (c1n hT).2 hav]
            exact a0y (fun _ h => h) (fun _ _ => rfl) av (fun _ _ h => h.elim) (fun b hb => by rw [how, hb]) (fun _ _ => rfl) (hP t av hav)
          · simp [htN, St.lentS, hlt, R]) (fun b hb => by
        obtain ⟨h1, h2, h3⟩ := hb
        obtain ⟨h4, h5⟩ := hfree b h1 h2
        exact ⟨⟨h4, Nat.lt_of_lt_of_le h2 hle, h3⟩, h5⟩) (fun t q hk => by
        by_cases ht : t = N
        · subst ht; exact Stab.put (v := res) (by simp) (by simp [St.put_ep, St.lentS]) q
        · by_cases hlt : t < N
          · cases hl : T.lookup t with
            | none =>
              refine ⟨by simp [St.put_ep, ht, St.lentS], fun _ k' hk' hrow => ⟨k', ?_, fun ks' h hne => ⟨ks', h, hne⟩, fun _ _ ks' h => ⟨ks', h⟩, ?_⟩⟩
              · simp only [St.put_s, ht, if_false, St.lentS, hlt, if_true, hl] at hk'
                exact c5g hk' hrow
              · simp only [a0x, ht, if_false]
                simp only [St.put_s, ht, if_false, St.lentS, hlt, if_true, hl] at hk'
                exact a3f q (h.slots t) (c5g hk' hrow) (fun b hb => hkeep b t hb hlt hl)
            | some av =>
              have hm := (c1n hT).1 hl
              obtain ⟨_, ⟨ks, hks, hne0⟩, ks', rfl⟩ := hTN t av hm
              cases q with
              | cons i q =>
                have hno : a0j ks' = true := by simpa [a66, hl] using hk
                refine ⟨by simp [St.put_ep, ht, St.lentS], fun _ k' hk' hrow => ?_⟩
                simp only [St.put_s, ht, if_false, St.lentS, hlt, if_true, hl] at hk'
                rw [d7v hno hk'] at hrow
                cases hrow
              | nil =>
              refine ⟨by simp [St.put_ep, ht, St.lentS], fun _ k' hk' hrow => ⟨_, rfl, fun _ _ _ => ⟨ks, by rw [hks]; rfl, hne0⟩, fun sz n ks2 h2 => ?_, by simp [a0x, ht, a1u]⟩⟩
              simp only [St.put_s, ht, if_false, St.lentS, hlt, if_true, hl, a0c, Option.some.injEq] at hk'
              subst hk'
              cases h2
          · exact Stab.norow (by simp [St.put_ep, ht, St.lentS]) (by simp [ht, St.lentS, hlt, a0e]) q) }
end
end Go.Ideal
end
section
set_option linter.unusedVariables false
set_option linter.unusedSimpArgs false
namespace Go.Ideal
open Classical
def csK (lay : List CS) : List Nat := lay.filterMap fun | .p k => some k | .x _ => none
def g1f (N n : Nat) (lay : List CS) : Bool := (csK lay).Nodup && lay.all fun | .p k => decide (k < n) | .x y => okX N y
def pX (N : Nat) (st1 st : St) : List AV → List (Nat × Nat) → List (Option Nat × AV) → Option (List AV × List (Nat × Nat))
  | acc, L, [] => some (acc, L)
  | acc, L, (some _, av) :: es => if a0k av = true then pX N st1 st (acc ++ [av]) L es else none
  | acc, L, (none, .ref t [] 0 e) :: es => match L.lookup t with
    | some j => if e = st.ep t then pX N st1 st (acc ++ [.ref j [] 0 0]) L es else none
    | none => if e = st.ep t ∧ t < N then (match st.s t, st1.s t with
      | .var (k :: ks), .var (_ :: _) => pX N st1 st (acc ++ [.var (k :: ks)]) (L ++ [(t, acc.length)]) es
      | _, _ => none) else none
  | acc, L, (none, av) :: es => match trA st L av with
    | some p => pX N st1 st (acc ++ [p]) L es
    | none => none
def e1p (P : Program) (G : Nat → Option Value) (N : Nat) (d : Option Nat) (cv : X) (args : List (Bool × X)) (lay : List CS) (K : St → Prop) (st : St) : Prop :=
  ∃ f fs cs st1 st2 L pre res posts st3, (a5r N (N + 2) args).run st = some ((), st1) ∧ (a3x N (N + 2) args).run st1 = some ((), st2) ∧ xv st2 cv = .fn f fs cs ∧ fnB P f = true ∧
    pX N st1 st2 [] [] (c9i N st2 fs lay cs) = some (pre, L) ∧ ACallsX P G f pre res posts ∧ a0k res = true ∧ posts.map (·.1) = L.map (·.2) ∧ (∀ i av, (i, av) ∈ posts → ∃ ks, av = .var ks) ∧
    (d8c N d res).run ((if a0w res && posts.all fun p => a0w p.2 then st1 else st2).lentS N ((L.map (·.1)).zip (posts.map (·.2)))) = some ((), st3) ∧ K st3
section
variable {E : Env} {N : Nat} {a : Act} {w : World} {st : St} {val : Nat → Value} {ow : Nat → Option Nat}
theorem d9a {L : List (Nat × Nat)} {t i : Nat} (h : L.lookup t = some i) : (t, i) ∈ L := by
  induction L with
  | nil => simp at h
  | cons p L ih =>
    obtain ⟨u, x⟩ := p
    by_cases h2 : t = u
    · subst h2
      simp at h
      simp [h]
    · have : (t == u) = false := by simpa using h2
      simp only [List.lookup_cons, this] at h
      exact List.mem_cons_of_mem _ (ih h)
theorem e28 {L X : List (Nat × Nat)} {t i : Nat} (h : L.lookup t = some i) : (L ++ X).lookup t = some i := by
  induction L with
  | nil => simp at h
  | cons p L ih =>
    obtain ⟨u, x⟩ := p
    simp only [List.cons_append, List.lookup_cons] at h ⊢
    split at h
    · exact h
    · exact ih h
theorem e3k {L : List (Nat × Nat)} {t : Nat} (h : L.lookup t = none) : t ∉ L.map (·.1) := by
  induction L with
  | nil => simp
  | cons p L ih =>
    obtain ⟨u, x⟩ := p
    simp only [List.lookup_cons] at h
    split at h
    · cases h
    · rename_i hne
      simp only [beq_eq_false_iff_ne, ne_eq] at hne
      simp only [List.map_cons, List.mem_cons, not_or]
      exact ⟨hne, ih h⟩
mutual
theorem e3e {L X : List (Nat × Nat)} : ∀ (av : AV) {p : AV}, trA st L av = some p → trA st (L ++ X) av = some p
  | .ref t q o e, p, h => by
    simp only [trA] at h ⊢
    split at h
    · rename_i hc
      rw [if_pos hc]
      cases hl : L.lookup t with
      | none => simp [hl] at h
      | some i => rw [e28 hl]; rw [hl] at h; exact h
    · cases h
  | .fn f fs cs, p, h => by
    simp only [trA] at h ⊢
    cases h1 : trL st L fs with
    | none => simp [h1] at h
    | some a1 =>
      cases h2 : trL st L cs with
      | none => simp [h1, h2] at h
      | some a2 => rw [e0m fs h1, e0m cs h2]; rw [h1, h2] at h; exact h
  | .bor _ _ _ _ _, p, h => by simp [trA] at h
  | .dead, p, h => by simpa only [trA] using h
  | .lit u, p, h => by simpa only [trA] using h
  | .sl n ks, p, h => by simpa only [trA] using h
  | .ip ks o, p, h => by simpa only [trA] using h
  | .own sz n ks, p, h => by simpa only [trA] using h
  | .var ks, p, h => by simpa only [trA] using h
  | .agg ks, p, h => by simpa only [trA] using h
  | .tup ks, p, h => by simpa only [trA] using h
  | .ifc T k, p, h => by simpa only [trA] using h
theorem e0m {L X : List (Nat × Nat)} : ∀ (ks : List AV) {ps : List AV}, trL st L ks = some ps → trL st (L ++ X) ks = some ps
  | [], ps, h => by simpa only [trL] using h
  | k :: ks, ps, h => by
    simp only [trL] at h ⊢
    cases h1 : trA st L k with
    | none => simp [h1] at h
    | some a1 =>
      cases h2 : trL st L ks with
      | none => simp [h1, h2] at h
      | some a2 => rw [e3e k h1, e0m ks h2]; rw [h1, h2] at h; exact h
end
def pxOK (N : Nat) (st1 st : St) (n0 : Nat) (L L2 : List (Nat × Nat)) (es : List (Option Nat × AV)) (p2 : List AV) : Prop :=
  p2.length = es.length ∧ (∀ t i, (t, i) ∈ L2 → n0 ≤ i ∧ i < n0 + es.length ∧ t < N ∧ (∃ ks, st.s t = .var ks ∧ ks ≠ []) ∧ ∃ ks, st1.s t = .var ks ∧ ks ≠ []) ∧ ((L.map (·.1)).Nodup → ((L ++ L2).map (·.1)).Nodup) ∧ (L2.map (·.2)).Nodup ∧
  ∀ (j : Nat) (src : Option Nat) (av : AV), es[j]? = some (src, av) → ∃ p, p2[j]? = some p ∧ match src with
    | some k => (∀ t, (t, n0 + j) ∉ L2) ∧ a0k av = true ∧ p = av
    | none => (∃ t, (t, n0 + j) ∈ L2 ∧ av = AV.ref t [] 0 (st.ep t) ∧ p = st.s t) ∨ ((∀ t, (t, n0 + j) ∉ L2) ∧ trA st (L ++ L2) av = some p)
def f1t (st : St) (L : List (Nat × Nat)) : Option Nat → AV → AV → Prop
  | some _, av, p => a0k av = true ∧ p = av
  | none, av, p => trA st L av = some p
theorem pxOK.cons {N : Nat} {st1 st : St} {n0 : Nat} {L L2 : List (Nat × Nat)} {es : List (Option Nat × AV)} {p2 : List AV} (h : pxOK N st1 st (n0 + 1) L L2 es p2) {src : Option Nat} {av p : AV}
    (hs : f1t st (L ++ L2) src av p) : pxOK N st1 st n0 L L2 ((src, av) :: es) (p :: p2) := by
  obtain ⟨h1, h2, h3, h4, h5⟩ := h
  refine ⟨by simp [h1], fun t i hm => ?_, h3, h4, fun j src' av' hj => ?_⟩
  · obtain ⟨q1, q2, q3⟩ := h2 t i hm
    exact ⟨by omega, by simp only [List.length_cons]; omega, q3⟩
  · cases j with
    | zero =>
      simp only [List.getElem?_cons_zero, Option.some.injEq, Prod.mk.injEq] at hj
      obtain ⟨rfl, rfl⟩ := hj
      have hno : ∀ t, (t, n0 + 0) ∉ L2 := fun t hm => by have := (h2 t _ hm).1; omega
      refine ⟨p, rfl, ?_⟩
      cases src with
      | some k => exact ⟨hno, hs⟩
      | none => exact .inr ⟨hno, hs⟩
    | succ j =>
      obtain ⟨p', q1, q2⟩ := h5 j src' av' (by simpa using hj)
      refine ⟨p', by simpa using q1, ?_⟩
      rw [show n0 + (j + 1) = n0 + 1 + j by omega]
      exact q2
theorem f1v {N : Nat} {st1 st : St} : ∀ (es : List (Option Nat × AV)) (acc : List AV) (L : List (Nat × Nat)) {pre : List AV} {L' : List (Nat × Nat)}, pX N st1 st acc L es = some (pre, L') → ∃ p2 L2, pre = acc ++ p2 ∧ L' = L ++ L2 ∧ pxOK N st1 st acc.length L L2 es p2
  | [], acc, L, pre, L', h => by
    simp only [pX, Option.some.injEq, Prod.mk.injEq] at h
    obtain ⟨rfl, rfl⟩ := h
    exact ⟨[], [], by simp, by simp, rfl, fun t i hm => by simp at hm, fun h => by simpa using h, by simp, fun j src av hj => by simp at hj⟩
  | (src, av) :: es, acc, L, pre, L', h => by
    have step : ∀ (p : AV), f1t st L src av p → pX N st1 st (acc ++ [p]) L es = some (pre, L') → ∃ p2 L2, pre = acc ++ p2 ∧ L' = L ++ L2 ∧ pxOK N st1 st acc.length L L2 ((src, av) :: es) p2 := fun p hs hp => by
      obtain ⟨p2, L2, e1, e2, hk⟩ := f1v es _ _ hp
      refine ⟨p :: p2, L2, by simp [e1], e2, ?_⟩
      refine pxOK.cons (by simpa using hk) ?_
      cases src with
      | some k => exact hs
      | none => exact e3e av hs
    cases src with
    | some k =>
      simp only [pX] at h
      split at h
      · rename_i hn; exact step av ⟨hn, rfl⟩ h
      · cases h
    | none =>
      have plain : (match trA st L av with | some p => pX N st1 st (acc ++ [p]) L es | none => none) = some (pre, L') → ∃ p2 L2, pre = acc ++ p2 ∧ L' = L ++ L2 ∧ pxOK N st1 st acc.length L L2 ((none, av) :: es) p2 := fun h => by
        cases ht : trA st L av with
        | none => rw [ht] at h; cases h
        | some p => rw [ht] at h; exact step p ht h
      by_cases hr : ∃ t e, av = .ref t [] 0 e
      · obtain ⟨t, e, rfl⟩ := hr
        simp only [pX] at h
        split at h
        · rename_i j hl
          split at h
          · rename_i he
            exact step (.ref j [] 0 0) (by simp [f1t, trA, he, hl]) h
          · cases h
        · rename_i hl
          split at h
          · rename_i hc
            obtain ⟨rfl, htN⟩ := hc
            split at h
            · rename_i k ks k1 ks1 hv hv1
              obtain ⟨p2, L2, e1, e2, h1, h2, h3, h4, h5⟩ := f1v es _ _ h
              have hlen : (acc ++ [AV.var (k :: ks)]).length = acc.length + 1 := by simp
              rw [hlen] at h2 h5
              refine ⟨.var (k :: ks) :: p2, (t, acc.length) :: L2, by simp [e1], by simp [e2], by simp [h1], fun u i hm => ?_, fun hn => ?_, ?_, fun j src' av' hj => ?_⟩
              · rcases List.mem_cons.1 hm with hm | hm
                · simp only [Prod.mk.injEq] at hm
                  obtain ⟨rfl, rfl⟩ := hm
                  exact ⟨Nat.le_refl _, by simp, htN, ⟨_, hv, by simp⟩, ⟨_, hv1, by simp⟩⟩
                · obtain ⟨q1, q2, q3⟩ := h2 u i hm
                  exact ⟨by omega, by simp only [List.length_cons]; omega, q3⟩
              · have := h3 (by
                  rw [List.map_append, List.nodup_append]
                  refine ⟨hn, by simp, fun x hx y hy => ?_⟩
                  simp only [List.map_cons, List.map_nil, List.mem_singleton] at hy
                  subst hy
                  rintro rfl
                  exact e3k hl hx)
                simpa using this
              · simp only [List.map_cons, List.nodup_cons]
                refine ⟨fun hm => ?_, h4⟩
                obtain ⟨⟨u, i⟩, hm1, hm2⟩ := List.mem_map.1 hm
                have := (h2 u i hm1).1
                simp only at hm2
                omega
              · cases j with
                | zero =>
                  simp only [List.getElem?_cons_zero, Option.some.injEq, Prod.mk.injEq] at hj
                  obtain ⟨rfl, rfl⟩ := hj
                  exact ⟨_, rfl, .inl ⟨t, by simp, rfl, hv.symm⟩⟩
                | succ j =>
                  obtain ⟨p', q1, q2⟩ := h5 j src' av' (by simpa using hj)
                  refine ⟨p', by simpa using q1, ?_⟩
                  rw [show acc.length + (j + 1) = acc.length + 1 + j by omega]
                  have hne : ∀ u, (u, acc.length + 1 + j) ∈ (t, acc.length) :: L2 ↔ (u, acc.length + 1 + j) ∈ L2 := fun u => by
                    simp only [List.mem_cons, Prod.mk.injEq]
                    exact ⟨fun h => h.elim (fun h => by omega) id, .inr⟩
                  cases src' with
                  | some k => exact ⟨fun u hm => q2.1 u ((hne u).1 hm), q2.2⟩
                  | none =>
                    rcases q2 with ⟨u, q3, q4⟩ | ⟨q3, q4⟩
                    · exact .inl ⟨u, (hne u).2 q3, q4⟩
                    · exact .inr ⟨fun u hm => q3 u ((hne u).1 hm), by simpa using q4⟩
            · cases h
          · cases h
      · refine plain ?_
        have : pX N st1 st acc L ((none, av) :: es) = (match trA st L av with | some p => pX N st1 st (acc ++ [p]) L es | none => none) := by
          cases av <;> try rfl
          rename_i t q o e
          cases q with
          | cons i q => rfl
          | nil =>
            cases o with
            | zero => exact absurd ⟨t, e, rfl⟩ hr
            | succ o => rfl
        rw [this] at h
        exact h
mutual
theorem d58 {L : List (Nat × Nat)} {w : World} {M : BS} {pre : List AV} {argv : Nat → Value} (hL : ∀ t i, (t, i) ∈ L → pre[i]? = some (st.s t) ∧ argv i = val t ∧ (∃ ks, st.s t = .var ks ∧ ks ≠ [])) :
    ∀ (av : AV) {p : AV} {F : BS} {v : Value}, trA st L av = some p → R w M av (QS w st val) F v → R w M p (QS w (St.init pre) argv) noB v
  | .ref t q o e, p, F, v, h, hr => by
    simp only [trA] at h
    split at h
    · rename_i hc
      obtain ⟨rfl, rfl⟩ := hc
      cases hl : L.lookup t with
      | none => simp [hl] at h
      | some i =>
        simp only [hl, Option.map_some, Option.some.injEq] at h
        subst h
        obtain ⟨h1, h2, ks, h3, h4⟩ := hL t i (d9a hl)
        simp only [R, QS] at hr ⊢
        refine ⟨Nat.le_refl _, fun _ k' ks' hk hrow hne => ?_⟩
        obtain ⟨u, b, g1, g2, g3⟩ := hr.2 trivial (st.s t) ks rfl (by rw [h3]; rfl) h4
        simp only [a1u, Option.some.injEq] at g1 ⊢
        exact ⟨_, b, rfl, by rw [h2, g1]; exact g2, g3⟩
    · cases h
  | .fn f fs cs, p, F, v, h, hr => by
    simp only [trA] at h
    cases h1 : trL st L fs with
    | none => simp [h1] at h
    | some a1 =>
      cases h2 : trL st L cs with
      | none => simp [h1, h2] at h
      | some a2 =>
        simp only [h1, h2, Option.some.injEq] at h
        subst h
        simp only [R] at hr ⊢
        obtain ⟨x1, x2, hv, r1, r2⟩ := hr
        exact ⟨x1, x2, hv, c5v hL fs h1 r1, c5v hL cs h2 r2⟩
  | .bor _ _ _ _ _, p, F, v, h, hr => by simp [trA] at h
  | .dead, p, F, v, h, hr => by
    simp only [trA] at h; split at h <;> simp only [Option.some.injEq, reduceCtorEq] at h
    subst h; simp only [R]
  | .lit u, p, F, v, h, hr => by
    simp only [trA] at h; split at h <;> simp only [Option.some.injEq, reduceCtorEq] at h
    subst h; simp only [R] at hr ⊢; exact hr
  | .sl n ks, p, F, v, h, hr => by
    simp only [trA] at h; split at h <;> simp only [Option.some.injEq, reduceCtorEq] at h
    subst h; simp only [R] at hr ⊢; exact hr
  | .ip ks o, p, F, v, h, hr => by
    simp only [trA] at h; split at h <;> simp only [Option.some.injEq, reduceCtorEq] at h
    subst h; simp only [R] at hr ⊢; exact hr
  | .own sz n ks, p, F, v, h, hr => by
    simp only [trA] at h; split at h <;> simp only [Option.some.injEq, reduceCtorEq] at h
    rename_i hn
    subst h
    have := a11 _ hn hr
    simp only [R] at this ⊢; exact this
  | .var ks, p, F, v, h, hr => by
    simp only [trA] at h; split at h <;> simp only [Option.some.injEq, reduceCtorEq] at h
    rename_i hn
    subst h
    have := a11 _ hn hr
    simp only [R] at this ⊢; exact this
  | .agg ks, p, F, v, h, hr => by
    simp only [trA] at h; split at h <;> simp only [Option.some.injEq, reduceCtorEq] at h
    rename_i hn
    subst h
    have := a11 _ hn hr
    simp only [R] at this ⊢; exact this
  | .tup ks, p, F, v, h, hr => by
    simp only [trA] at h; split at h <;> simp only [Option.some.injEq, reduceCtorEq] at h
    rename_i hn
    subst h
    have := a11 _ hn hr
    simp only [R] at this ⊢; exact this
  | .ifc T k, p, F, v, h, hr => by
    simp only [trA] at h; split at h <;> simp only [Option.some.injEq, reduceCtorEq] at h
    rename_i hn
    subst h
    have := a11 _ hn hr
    simp only [R] at this ⊢; exact this
theorem c5v {L : List (Nat × Nat)} {w : World} {M : BS} {pre : List AV} {argv : Nat → Value} (hL : ∀ t i, (t, i) ∈ L → pre[i]? = some (st.s t) ∧ argv i = val t ∧ (∃ ks, st.s t = .var ks ∧ ks ≠ [])) :
    ∀ (ks : List AV) {ps : List AV} {F : BS} {vs : List Value}, trL st L ks = some ps → RL w M ks (QS w st val) F vs → RL w M ps (QS w (St.init pre) argv) noB vs
  | [], ps, F, vs, h, hr => by
    simp only [trL, Option.some.injEq] at h
    subst h
    simp only [RL] at hr ⊢
    exact hr
  | k :: ks, ps, F, vs, h, hr => by
    simp only [trL] at h
    cases h1 : trA st L k with
    | none => simp [h1] at h
    | some a1 =>
      cases h2 : trL st L ks with
      | none => simp [h1, h2] at h
      | some a2 =>
        simp only [h1, h2, Option.some.injEq] at h
        subst h
        simp only [RL] at hr ⊢
        obtain ⟨v, vs', hv, F1, F2, _, _, _, r1, r2⟩ := hr
        exact ⟨v, vs', hv, noB, noB, fun _ h => h, fun _ h => h, fun _ h => h.elim, d58 hL k h1 r1, c5v hL ks h2 r2⟩
end
theorem e1a (h : Sim E N st a w val ow) {x : X} (hx : okX N x = true) : R w (Mo E w ow) (xv st x) (QS w st val) (fun b => ∃ t, x = .t t ∧ ow b = some t) (a.eval x.op) := by
  have : (a2n x).run st = some ((xv st x, (match x with | .t n => st.ep n | _ => 0)), st) := by cases x <;> rfl
  exact (a0q h hx this).2.1
theorem f0s {w : World} {M : BS} {F : BS} {ks : List AV} {t : Nat} {v : Value} (hs : R w M (st.s t) (QS w st val) F (val t)) (hk : st.s t = .var ks) (hne : ks ≠ []) (hr : QS w st val (.ref t [] 0 (st.ep t)) v) : v = val t := by
  simp only [QS] at hr
  obtain ⟨u, b, g1, g2, g3⟩ := hr.2 trivial _ ks rfl (by rw [hk]; rfl) hne
  simp only [a1u, Option.some.injEq] at g1
  subst g1
  rw [hk] at hs
  simp only [R] at hs
  obtain ⟨b', _, _, _, hv, _⟩ := hs
  rw [hv] at g2 ⊢
  simp only [b78, Option.some.injEq] at g2
  subst g2
  exact g3
end
end Go.Ideal
end
section
set_option linter.unusedVariables false
set_option linter.unusedSimpArgs false
namespace Go.Ideal
open Classical
theorem e3o : ∀ {lay : List CS} {m m' k : Nat}, (csK lay).Nodup → lay[m]? = some (CS.p k) → lay[m']? = some (CS.p k) → m = m'
  | [], m, m', k, _, h, _ => by simp at h
  | c :: l, m, m', k, hn, h, h' => by
    have hmem : ∀ j, l[j]? = some (CS.p k) → k ∈ csK l := fun j hj => List.mem_filterMap.2 ⟨_, List.mem_of_getElem? hj, rfl⟩
    have hl : (csK l).Nodup := by
      cases c with
      | p k0 => exact (List.nodup_cons.1 (show (k0 :: csK l).Nodup from hn)).2
      | x y => exact hn
    have h0 : c = CS.p k → k ∉ csK l := fun hc => by
      subst hc
      exact (List.nodup_cons.1 (show (k :: csK l).Nodup from hn)).1
    cases m with
    | zero =>
      cases m' with
      | zero => rfl
      | succ m' => exact absurd (hmem m' (by simpa using h')) (h0 (by simpa using h))
    | succ m =>
      cases m' with
      | zero => exact absurd (hmem m (by simpa using h)) (h0 (by simpa using h'))
      | succ m' => exact congrArg (· + 1) (e3o (k := k) hl (by simpa using h) (by simpa using h'))
theorem e3y {L : List (Nat × Nat)} (h : (L.map (·.1)).Nodup) {t i j : Nat} (h1 : (t, i) ∈ L) (h2 : (t, j) ∈ L) : i = j := by
  induction L with
  | nil => simp at h1
  | cons p L ih =>
    obtain ⟨u, x⟩ := p
    simp only [List.map_cons, List.nodup_cons] at h
    have hno : ∀ j, (u, j) ∉ L := fun j hj => h.1 (List.mem_map.2 ⟨_, hj, rfl⟩)
    rcases List.mem_cons.1 h1 with h1 | h1 <;> rcases List.mem_cons.1 h2 with h2 | h2
    · simp only [Prod.mk.injEq] at h1 h2; rw [h1.2, h2.2]
    · simp only [Prod.mk.injEq] at h1; rw [h1.1] at h2; exact absurd h2 (hno j)
    · simp only [Prod.mk.injEq] at h2; rw [h2.1] at h1; exact absurd h1 (hno i)
    · exact ih h.2 h1 h2
theorem d4x {L : List (Nat × Nat)} (h : (L.map (·.2)).Nodup) {t u i : Nat} (h1 : (t, i) ∈ L) (h2 : (u, i) ∈ L) : t = u := by
  induction L with
  | nil => simp at h1
  | cons p L ih =>
    obtain ⟨z, x⟩ := p
    simp only [List.map_cons, List.nodup_cons] at h
    have hno : ∀ j, (j, x) ∉ L := fun j hj => h.1 (List.mem_map.2 ⟨_, hj, rfl⟩)
    rcases List.mem_cons.1 h1 with h1 | h1 <;> rcases List.mem_cons.1 h2 with h2 | h2
    · simp only [Prod.mk.injEq] at h1 h2; rw [h1.1, h2.1]
    · simp only [Prod.mk.injEq] at h1; rw [h1.2] at h2; exact absurd h2 (hno u)
    · simp only [Prod.mk.injEq] at h2; rw [h2.2] at h1; exact absurd h1 (hno t)
    · exact ih h.2 h1 h2
theorem e43 : ∀ {L : List (Nat × Nat)} {posts : List (Nat × AV)}, posts.map (·.1) = L.map (·.2) → ((L.map (·.1)).zip (posts.map (·.2))).map (·.1) = L.map (·.1) ∧
    (∀ t av, (t, av) ∈ (L.map (·.1)).zip (posts.map (·.2)) → ∃ i, (t, i) ∈ L ∧ (i, av) ∈ posts) ∧ ∀ t i, (t, i) ∈ L → ∃ av, (t, av) ∈ (L.map (·.1)).zip (posts.map (·.2))
  | [], [], _ => ⟨rfl, fun t av h => by simp at h, fun t i h => by simp at h⟩
  | [], _ :: _, h => by simp at h
  | _ :: _, [], h => by simp at h
  | (t0, i0) :: L, (j0, av0) :: posts, h => by
    simp only [List.map_cons, List.cons.injEq] at h
    obtain ⟨h1, h2, h3⟩ := e43 h.2
    refine ⟨by simp [h1], fun t av hm => ?_, fun t i hm => ?_⟩
    · simp only [List.map_cons, List.zip_cons_cons, List.mem_cons, Prod.mk.injEq] at hm
      rcases hm with ⟨rfl, rfl⟩ | hm
      · exact ⟨i0, by simp, by simp [h.1]⟩
      · obtain ⟨i, k1, k2⟩ := h2 t av hm
        exact ⟨i, List.mem_cons_of_mem _ k1, List.mem_cons_of_mem _ k2⟩
    · simp only [List.mem_cons, Prod.mk.injEq] at hm
      rcases hm with ⟨rfl, rfl⟩ | hm
      · exact ⟨av0, by simp⟩
      · obtain ⟨av, k⟩ := h3 t i hm
        exact ⟨av, by simp [k]⟩
theorem e9b {w : World} {M : BS} {ks : List AV} {Q : QR} {F : BS} {vs : List Value} (h : RL w M ks Q F vs) {i : Nat} {k : AV} (hi : ks[i]? = some k) : ∃ u, vs[i]? = some u ∧ R w M k Q F u := by
  obtain ⟨u, hu, F1, G, h1, _, _, h4, _⟩ := b1p h hi
  exact ⟨u, hu, a2v h1 h4⟩
def e82 (args : List (Bool × X)) : CS → Operand
  | .p k => match args[k]? with
    | some p => p.2.op
    | none => .const undef
  | .x y => y.op
section
variable {E : Env} {N : Nat} {a : Act} {w : World} {st : St} {val : Nat → Value} {ow : Nat → Option Nat}
theorem e2t (h : Sim E N st a w val ow) {args : List (Bool × X)} {lay : List CS} (hlay : g1f N args.length lay = true) (hargs : ∀ i g x, args[i]? = some (g, x) → val (N + 2 + i) = a.eval x.op) {fs cs : List AV} {a1 a2 : List Value}
    (h1 : RL w (Mo E w ow) fs (QS w st val) noB a1) (h2 : RL w (Mo E w ow) cs (QS w st val) noB a2) {i : Nat} {src : Option Nat} {av : AV} (hi : (c9i N st fs lay cs)[i]? = some (src, av)) :
    ∃ v, (a1 ++ (lay.map (fun c => a.eval (e82 args c)) ++ a2))[i]? = some v ∧ match src with
      | some k => k < args.length ∧ av = st.s (N + 2 + k) ∧ v = val (N + 2 + k) ∧ ∃ m, i = fs.length + m ∧ lay[m]? = some (CS.p k)
      | none => ∃ F, R w (Mo E w ow) av (QS w st val) F v := by
  have l1 := a0m h1
  simp only [g1f, Bool.and_eq_true, List.all_eq_true] at hlay
  unfold c9i at hi
  by_cases c1 : i < fs.length
  · rw [List.getElem?_append_left (by simpa using c1)] at hi
    simp only [List.getElem?_map, Option.map_eq_some_iff, Prod.mk.injEq] at hi
    obtain ⟨k, hk, rfl, rfl⟩ := hi
    obtain ⟨u, hu, hr⟩ := e9b h1 hk
    refine ⟨u, by rw [List.getElem?_append_left (by omega)]; exact hu, _, hr⟩
  · rw [List.getElem?_append_right (by simp; omega)] at hi
    rw [List.getElem?_append_right (by omega)]
    simp only [List.length_map] at hi
    rw [l1]
    by_cases c2 : i - fs.length < lay.length
    · rw [List.getElem?_append_left (by simpa using c2)] at hi ⊢
      simp only [List.getElem?_map, Option.map_eq_some_iff] at hi
      obtain ⟨c, hc, he⟩ := hi
      have hcl := hlay.2 c (List.mem_of_getElem? hc)
      refine ⟨a.eval (e82 args c), by simp [hc], ?_⟩
      cases c with
      | p k =>
        simp only [e3c, Prod.mk.injEq] at he
        obtain ⟨rfl, rfl⟩ := he
        have hk : k < args.length := by simpa using hcl
        refine ⟨hk, rfl, ?_, i - fs.length, by omega, hc⟩
        have hx : args[k]? = some (args[k].1, args[k].2) := by simp [hk]
        rw [hargs k _ _ hx]
        simp only [e82, hx]
      | x y =>
        simp only [e3c, Prod.mk.injEq] at he
        obtain ⟨rfl, rfl⟩ := he
        exact ⟨_, e1a h hcl⟩
    · rw [List.getElem?_append_right (by simp; omega)] at hi ⊢
      simp only [List.length_map, List.getElem?_map, Option.map_eq_some_iff, Prod.mk.injEq] at hi ⊢
      obtain ⟨k, hk, rfl, rfl⟩ := hi
      obtain ⟨u, hu, hr⟩ := e9b h2 hk
      exact ⟨u, by simpa using hu, _, hr⟩
theorem d85 (h : Sim E N st a w val ow) {P : Program} {G : Nat → Option Value} (hG : E.G = G) {o : Oper} {cv : X} {args : List (Bool × X)} {lay : List CS} {tys : Array TypeId} (ho : o.op = .call { callee := .value cv.op, args := (lay.map (e82 args)).toArray, argTypes := tys })
    (hd : ∀ d, o.dst = some d → d < N) (hok : ∀ p ∈ args, okX N p.2 = true) (hcv : okX N cv = true) (hlay : g1f N args.length lay = true) {K : St → Prop} (hc : e1p P G N o.dst cv args lay K st)
    {K' : Act → World → Prop} {Q : Exit → Act → World → Prop} (hK : ∀ v st' w' val' ow', K st' → Sim E N st' (a.put o.dst v) w' val' ow' → K' (a.put o.dst v) w') : o.wp P a w K' Q := by
  obtain ⟨f, fs, cs, st1, st2, L, pre, res, posts, st3, h1, h2, hfv, hf, hpx, hA, hnr, hpost, hvar, h3, hk⟩ := hc
  obtain ⟨p2, L2, x1, x2, hlen, x3, x4, x5, x6⟩ := f1v _ _ _ hpx
  simp only [List.nil_append] at x1 x2
  subst x1; subst x2
  simp only [List.nil_append, List.length_nil, Nat.zero_add] at x3 x4 x6
  have hL1 : (L.map (·.1)).Nodup := x4 (by simp)
  have hL2 := x5
  have hL3 : ∀ t i, (t, i) ∈ L → t < N ∧ i < pre.length ∧ ∃ ks, st2.s t = .var ks ∧ ks ≠ [] := fun t i hm => by
    obtain ⟨_, q2, q3, q4, _⟩ := x3 t i hm
    exact ⟨q3, by omega, q4⟩
  have hrow1 : ∀ t i, (t, i) ∈ L → ∃ ks, st1.s t = .var ks ∧ ks ≠ [] := fun t i hm => (x3 t i hm).2.2.2.2
  have hpre := x6
  obtain ⟨val1, ow1, s1, e1, e2⟩ := b7o args (N + 2) h hok (by omega) h1
  obtain ⟨val2, ow2, s2, g1, g2, g3⟩ := b4h args (N + 2) s1 hok (by omega) h2
  have hargs : ∀ i g x, args[i]? = some (g, x) → val2 (N + 2 + i) = a.eval x.op := fun i g x hx => by
    cases g with
    | true =>
      obtain ⟨k1, k2⟩ := g1 (N + 2 + i) (.inr (.inr ⟨x, by rw [show N + 2 + i - (N + 2) = i by omega]; exact hx⟩))
      rw [k1]
      exact (e2 i x hx).1
    | false => exact (g2 i x hx).1
  have hfr := e1a s2 hcv
  rw [hfv] at hfr
  simp only [R] at hfr
  obtain ⟨a1, a2, hval, r1, r2⟩ := hfr
  have eff := fun {i src av} => e2t s2 hlay hargs r1 r2 (i := i) (src := src) (av := av)
  have hrun : (execOp a.eval o).run P w = .ok (.enter f (a1 ++ (lay.map (fun c => a.eval (e82 args c))).toArray ++ a2)) w := by
    simp only [execOp, ho, resolve, hval, Deferred.ofValue, Sem.run_bind, Sem.run_pure, Result.andThen_ok, invoke]
    rw [c21 hf]
    simp [Function.comp_def]
  unfold Oper.wp
  rw [hrun, Oper.upon_enter]
  let argv : Array Value := a1 ++ (lay.map (fun c => a.eval (e82 args c))).toArray ++ a2
  have hargv : ∀ (i : Nat) v, (a1.toList ++ (lay.map (fun c => a.eval (e82 args c)) ++ a2.toList))[i]? = some v → argv.getD i undef = v := fun i v hv => by
    have : argv.toList[i]? = some v := by simpa [argv] using hv
    have h2 : argv[i]? = some v := by simpa using this
    rw [Array.getD_eq_getD_getElem?, h2]; rfl
  let Pb : Nat → Nat → Prop := fun b i => ∃ s, ow2 b = some s ∧ ((s < N ∧ (s, i) ∈ L) ∨ ∃ k av, s = N + 2 + k ∧ (c9i N st2 fs lay cs)[i]? = some (some k, av))
  have huniq : ∀ b i j, Pb b i → Pb b j → i = j := by
    rintro b i j ⟨s, hs, hi⟩ ⟨s', hs', hj⟩
    rw [hs] at hs'; injection hs' with hs'; subst hs'
    rcases hi with ⟨hn, hi⟩ | ⟨k, av, rfl, hi⟩ <;> rcases hj with ⟨hn', hj⟩ | ⟨k', av', he, hj⟩
    · exact e3y hL1 hi hj
    · omega
    · omega
    · obtain rfl : k = k' := by omega
      obtain ⟨_, _, _, _, _, m, hm, hm2⟩ := eff hi
      obtain ⟨_, _, _, _, _, m', hm', hm2'⟩ := eff hj
      have hnd : (csK lay).Nodup := by simp only [g1f, Bool.and_eq_true, decide_eq_true_eq] at hlay; exact hlay.1
      have := e3o hnd hm2 hm2'
      omega
  let owc : Nat → Option Nat := fun b => if hx : ∃ i, Pb b i then some (Classical.choose hx) else none
  have howc : ∀ b i, owc b = some i ↔ Pb b i := fun b i => by
    simp only [owc]
    split
    · rename_i hx
      have := Classical.choose_spec hx
      simp only [Option.some.injEq]
      exact ⟨fun he => he ▸ this, fun hi => huniq b _ _ this hi⟩
    · rename_i hx
      simp only [reduceCtorEq, false_iff]
      exact fun hi => hx ⟨i, hi⟩
  have hownone : ∀ b, ow2 b = none → owc b = none := fun b hb => by
    cases ho : owc b with
    | none => rfl
    | some i => obtain ⟨s, hs, _⟩ := (howc b i).1 ho; rw [hb] at hs; cases hs
  have hlent : ∀ t i, (t, i) ∈ L → pre[i]? = some (st2.s t) ∧ argv.getD i undef = val2 t ∧ ∃ ks, st2.s t = .var ks ∧ ks ≠ [] := fun t i hm => by
    obtain ⟨htN, hin, ks, hks, hne⟩ := hL3 t i hm
    obtain ⟨src, av, hes⟩ : ∃ src av, (c9i N st2 fs lay cs)[i]? = some (src, av) := ⟨_, _, List.getElem?_eq_getElem (by omega)⟩
    obtain ⟨p, hp, hcase⟩ := hpre i src av hes
    obtain ⟨v, hv, heff⟩ := eff hes
    cases src with
    | some k => exact absurd hm (hcase.1 t)
    | none =>
      rcases hcase with ⟨t', hm', rfl, rfl⟩ | ⟨hno, _⟩
      · obtain rfl := d4x hL2 hm hm'
        obtain ⟨F, hR⟩ := heff
        simp only [R] at hR
        exact ⟨hp, by rw [hargv i v hv]; exact f0s (s2.slots t) hks hne hR, ks, hks, hne⟩
      · exact absurd hm (hno t)
  refine Calls.mono (hA w argv (Mo E w ow2) owc ?_ (fun b hb => ⟨hb.2.1, hownone b hb.1⟩) (fun b i hb => ?_) (fun g v hg => ?_) (fun i p hi => ?_)) ?_
  · rw [hlen]
    have l1 := a0m r1
    have l2 := a0m r2
    simp only [Array.length_toList] at l1 l2
    simp [argv, c9i, l1, l2]
  · obtain ⟨s, hs, hi⟩ := (howc b i).1 hb
    refine ⟨?_, s2.lt b s hs⟩
    rcases hi with ⟨_, hi⟩ | ⟨k, av, _, hi⟩
    · exact (hL3 s i hi).2.1
    · rw [hlen]; exact (List.getElem?_eq_some_iff.1 hi).1
  · rw [← hG] at hg
    obtain ⟨k1, k2⟩ := s2.globA g v hg
    exact ⟨s2.glob g v hg, Nat.lt_of_lt_of_le k1 s2.le, hownone g (s2.old g k1 k2).1⟩
  · have hil : i < pre.length := (List.getElem?_eq_some_iff.1 hi).1
    obtain ⟨src, av, hes⟩ : ∃ src av, (c9i N st2 fs lay cs)[i]? = some (src, av) := ⟨_, _, List.getElem?_eq_getElem (by omega)⟩
    obtain ⟨p', hp, hcase⟩ := hpre i src av hes
    rw [hi] at hp
    obtain rfl : p = p' := by injection hp
    obtain ⟨v, hv, heff⟩ := eff hes
    rw [hargv i v hv]
    cases src with
    | some k =>
      obtain ⟨hno, hnr2, rfl⟩ := hcase
      obtain ⟨hk1, rfl, rfl, m, hm⟩ := heff
      refine a0y (fun _ h => h) (fun _ _ => rfl) _ (fun _ _ h => h.elim) (fun b hb => ?_) (fun _ _ => rfl) (a6v hnr2 (s2.slots (N + 2 + k)))
      exact (howc b i).2 ⟨_, hb, .inr ⟨k, _, rfl, hes⟩⟩
    | none =>
      rcases hcase with ⟨t, hm, rfl, rfl⟩ | ⟨hno, htr⟩
      · obtain ⟨_, hv2, ks, hks, hne⟩ := hlent t i hm
        rw [hargv i v hv] at hv2
        rw [hv2]
        refine a0y (fun _ h => h) (fun _ _ => rfl) _ (fun _ _ h => h.elim) (fun b hb => ?_) (fun _ _ => rfl) (a6v (by rw [hks]; rfl) (s2.slots t))
        exact (howc b i).2 ⟨t, hb, .inl ⟨(hL3 t i hm).1, hm⟩⟩
      · obtain ⟨F, hR⟩ := heff
        exact a2v (fun b hb => hb.elim) (d58 hlent av htr hR)
  · rintro e w' ⟨v, rfl, hret⟩
    obtain ⟨own, hown, hRres, hRposts⟩ := hret.own
    obtain ⟨z1, z2, z3⟩ := e43 hpost
    have hFa : ∀ b, owc b ≠ none → ∃ s, ow2 b = some s ∧ (N ≤ s ∨ ∃ i, (s, i) ∈ L) := fun b hb => by
      cases hi : owc b with
      | none => exact absurd hi hb
      | some i =>
        obtain ⟨s, hs, hx⟩ := (howc b i).1 hi
        rcases hx with ⟨_, hx⟩ | ⟨k, av, rfl, hx⟩
        · exact ⟨s, hs, .inr ⟨i, hx⟩⟩
        · exact ⟨_, hs, .inl (by omega)⟩
    let T := (L.map (·.1)).zip (posts.map (·.2))
    let own' : Nat → Option (Option Nat) := fun b => match own b with
      | none => none
      | some 0 => some none
      | some (i + 1) => if hx : ∃ t, (t, i) ∈ L then some (some (Classical.choose hx)) else none
    have hown' : ∀ b t i, (t, i) ∈ L → own b = some (i + 1) → own' b = some (some t) := fun b t i hm hb => by
      have hx : ∃ t, (t, i) ∈ L := ⟨t, hm⟩
      simp only [own', hb, hx, dif_pos]
      rw [d4x hL2 (Classical.choose_spec hx) hm]
    have fin : ∀ (stB : St) (valB : Nat → Value) (owB : Nat → Option Nat), Sim E N stB a w valB owB → (∀ b s, ow2 b = some s → owB b = some s) → (∀ t i, (t, i) ∈ L → ∃ ks, stB.s t = .var ks ∧ ks ≠ []) →
        (∀ (owR : Nat → Option Nat), (∀ b, b < w'.heap.size ∧ own b = none ∧ (Mo E w ow2 b ∨ owc b ≠ none ∨ w.heap.size ≤ b) → owB b = none ∨ (∃ s, owB b = some s ∧ (N ≤ s ∨ ∃ av, (s, av) ∈ T)) → Mo E w' owR b) →
          (R w' (Mo E w' owR) res noQ (fun b => own b = some 0) v ∧ ∀ i av, (i, av) ∈ posts → R w' (Mo E w' owR) av noQ (fun b => own b = some (i + 1)) (argv.getD i undef))) →
        (d8c N o.dst res).run (stB.lentS N T) = some ((), st3) → ∃ val' ow', Sim E N st3 (a.put o.dst v) w' val' ow' := by
      intro stB valB owB hB hsub hrow hRB hfin
      let owR : Nat → Option Nat := fun b => match own' b with
        | some none => some N
        | some (some t) => some t
        | none => match owB b with
          | some s => if s < N ∧ (T.lookup s).isNone = true then some s else none
          | none => none
      have hTn : (T.map (·.1)).Nodup := by rw [z1]; exact hL1
      have hFaT : ∀ b, owc b ≠ none → ∃ s, owB b = some s ∧ (N ≤ s ∨ ∃ av, (s, av) ∈ T) := fun b hb => by
        obtain ⟨s, k1, k2⟩ := hFa b hb
        refine ⟨s, hsub b s k1, k2.imp id fun ⟨i, hi⟩ => z3 s i hi⟩
      have hMM := hRB owR (fun b hb hb2 => by
        have ho' : own' b = none := by simp only [own', hb.2.1]
        refine ⟨?_, hb.1, ?_⟩
        · simp only [owR, ho']
          rcases hb2 with hb2 | ⟨s, hb2, hs⟩
          · simp only [hb2]
          · simp only [hb2]
            rw [if_neg]
            rintro ⟨q1, q2⟩
            rcases hs with hs | ⟨av, hs⟩
            · omega
            · rw [(c1n hTn).2 hs] at q2
              cases q2
        · rcases hb.2.2 with h1 | h1 | h1
          · exact h1.2.2
          · obtain ⟨s, k1, _⟩ := hFa b h1
            exact .inr (s2.owned k1).2
          · exact .inr (.inr (Nat.le_trans s2.le h1)))
      have hval : ∀ t i, (t, i) ∈ L → valB t = val2 t := fun t i hm => by
        have ht := (hL3 t i hm).1
        rw [← hB.agree t ht, ← s2.agree t ht]
      have back : ∀ (r : AV), R w' (Mo E w' owR) r noQ (fun b => own' b = some none) v → Sim E N ((stB.lentS N T).put N r) a w' (a0x valB N v) owR := fun r hr =>
        hB.backX (own := own') (Fa := fun b => owc b ≠ none) hTn (fun t av hm => by
            obtain ⟨i, k1, k2⟩ := z2 t av hm
            exact ⟨(hL3 t i k1).1, hrow t i k1, hvar i av k2⟩) hret.le hret.os hret.tape hret.output hret.frame hFaT (fun b o' hb => by
            cases hob : own b with
            | none => simp only [own', hob] at hb; cases hb
            | some j =>
              obtain ⟨q1, q2⟩ := hown b j hob
              refine ⟨q1, q2, fun t ht => ?_⟩
              subst ht
              cases j with
              | zero => simp only [own', hob] at hb; cases hb
              | succ i =>
                simp only [own', hob] at hb
                split at hb
                · rename_i hx
                  simp only [Option.some.injEq] at hb
                  exact z3 t i (hb ▸ Classical.choose_spec hx)
                · cases hb) (fun b => rfl) hr (fun t av hm => by
            obtain ⟨i, k1, k2⟩ := z2 t av hm
            have := hMM.2 i av k2
            rw [(hlent t i k1).2.1, ← hval t i k1] at this
            exact a2v (fun b hb => hown' b t i k1 hb) this)
      cases hdst : o.dst with
      | none =>
        rw [hdst] at hfin
        simp only [d8c, Ev.run_pure, Option.some.injEq, Prod.mk.injEq, true_and] at hfin
        have hs := back .dead (by simp only [R])
        refine ⟨a0x valB N v, owR, ?_⟩
        have : (stB.lentS N T).put N .dead = st3 := by
          rw [← hfin, a08 _ _ (by simp [a0e])]
          unfold St.set St.lentS
          congr 1
          funext u
          by_cases hu : u = N <;> simp [hu]
        rw [this] at hs
        exact hs
      | some d =>
        rw [hdst] at hfin
        simp only [d8c] at hfin
        have hs := back res (a2v (fun b hb => by simp only [own', hb]) hMM.1)
        unfold a4e at hfin
        obtain ⟨_, q1, q2, q3⟩ := a0a hfin
        have := a0h q2
        subst this
        obtain ⟨_, q4, q5, q6⟩ := a0a q3
        have := a0h q5
        subst this
        obtain ⟨d0, hd0, rfl⟩ := a0f q6
        injection hd0 with hd0
        subst hd0
        obtain ⟨ow'', hs2⟩ := hs.finJ (hd d hdst) (Nat.le_refl N)
        rw [a08 _ N (v := .dead) (by simp [a0e])]
        simp only [St.put_s, if_true, a0x] at hs2
        exact ⟨_, ow'', hs2⟩
    have hdone : ∃ val' ow', Sim E N st3 (a.put o.dst v) w' val' ow' := by
      by_cases hni : (a0w res && posts.all fun p => a0w p.2) = true
      · rw [if_pos hni] at h3
        simp only [Bool.and_eq_true, List.all_eq_true] at hni
        exact fin st1 val1 ow1 s1 g3 hrow1 (fun owR _ => ⟨c4j res hni.1 hRres, fun i av hi => c4j av (hni.2 _ hi) (hRposts i av hi)⟩) h3
      · rw [if_neg hni] at h3
        refine fin st2 val2 ow2 s2 (fun _ _ h => h) (fun t i hm => (hL3 t i hm).2.2) (fun owR hM => ?_) h3
        have hM' : ∀ b, b < w'.heap.size ∧ own b = none ∧ (Mo E w ow2 b ∨ owc b ≠ none ∨ w.heap.size ≤ b) → Mo E w' owR b := fun b hb => hM b hb (by
          rcases hb.2.2 with h1 | h1 | h1
          · exact .inl h1.1
          · obtain ⟨s, k1, k2⟩ := hFa b h1
            exact .inr ⟨s, k1, k2.imp id fun ⟨i, hi⟩ => z3 s i hi⟩
          · refine .inl ?_
            cases hb3 : ow2 b with
            | none => rfl
            | some s => have := s2.lt b s hb3; omega)
        exact ⟨a0y hM' (fun _ _ => rfl) res (fun _ _ h => h) (fun _ h => h) (fun _ _ => rfl) hRres, fun i av hi => a0y hM' (fun _ _ => rfl) av (fun _ _ h => h) (fun _ h => h) (fun _ _ => rfl) (hRposts i av hi)⟩
    obtain ⟨val', ow', hs⟩ := hdone
    exact hK v st3 w' val' ow' hk hs
end
end Go.Ideal
end
section
set_option linter.unusedVariables false
set_option linter.unusedSimpArgs false
namespace Go.Ideal
open Classical
inductive IAct where
  | op (i : IOp)
  | call (f : FuncId) (args : List (Bool × X)) (tys : List TypeId)
  | callx (cv : X) (args : List (Bool × X)) (lay : List CS) (tys : List TypeId)
  | nilq (T : TypeId) (x : X) (yT : TypeId)
  | bad (o : Op)
structure AO where
  dst : Option Nat
  act : IAct
  g : Option (Nat × Nat × Bool) := none
def IAct.erase : IAct → Op
  | .op i => Ideal.erase i
  | .call f args tys => .call { callee := .value (.func f), args := (args.map fun p => p.2.op).toArray, argTypes := tys.toArray }
  | .callx cv args lay tys => .call { callee := .value cv.op, args := (lay.map (e82 args)).toArray, argTypes := tys.toArray }
  | .nilq T x yT => .binOp .eql T x.op (.const (.slice none 0 0)) yT
  | .bad o => o
def AO.e3 (io : AO) : Option Nat × Op × Option (Nat × Bool) := (io.dst, io.act.erase, io.g.map fun p => (p.1, p.2.2))
def o3 (o : Oper) : Option Nat × Op × Option (Nat × Bool) := (o.dst, o.op, o.guard)
def f6x (N : Nat) : Option Nat → Bool
  | some d => decide (d < N)
  | none => true
def g0w (P : Program) (N : Nat) : IAct → Bool
  | .op i => a8c P N i
  | .call f args _ => fnB P f && args.all fun p => okX N p.2
  | .callx cv args lay _ => okX N cv && (args.all fun p => okX N p.2) && g1f N args.length lay
  | .nilq T x _ => okX N x && (match P.underlying T with | some (.slice _) => true | _ => false)
  | .bad _ => true
def e9c (N : Nat) (ios : List AO) : Option (Nat × Nat × Bool) → Bool
  | none => true
  | some (j, t, _) => decide (t < N) && (match ios[j]? with | some io => io.dst == some t | none => false)
def g9c (P : Program) (N : Nat) (ios : List AO) (io : AO) : Bool := f6x N io.dst && g0w P N io.act && e9c N ios io.g
def e3a (P : Program) (N : Nat) (ios : List AO) : Bool := ios.all (g9c P N ios)
def nqK (v : AV) (d : Option Nat) (K : St → Prop) (st : St) : Prop := match d, v with
  | some d, .sl n ks => ∀ b : Bool, (b = true → ks = []) → K (st.put d (.lit (.bool b)))
  | some d, .own sz n ks => ∀ b : Bool, (b = true → n = 0) → K (st.put d (.lit (.bool b)))
  | _, _ => False
def h1t (st : St) : X → AV
  | .t n => st.s n
  | _ => .dead
def c80 (P : Program) (G : Nat → Option Value) (N : Nat) (d : Option Nat) (act : IAct) (K : St → Prop) (st : St) : Prop := match act with
  | .op i => match (a1c G N d i).run st with
    | some r => K r.2
    | none => False
  | .call f args _ => f03 P G N d f args K st
  | .callx cv args lay _ => e1p P G N d cv args lay K st
  | .nilq _ x _ => nqK (h1t st x) d K st
  | .bad _ => False
def a67 (d : Option Nat) (st : St) : St := match d with
  | some d => st.put d (.lit undef)
  | none => st
def d5u (want : Bool) : Value → Bool
  | .bool b => b == want
  | _ => false
def b60 (P : Program) (G : Nat → Option Value) (N : Nat) (io : AO) (K : St → Prop) (st : St) : Prop := match io.g with
  | none => c80 P G N io.dst io.act K st
  | some (_, t, want) => match st.s t with
    | .lit v => if d5u want v then c80 P G N io.dst io.act K st else K (a67 io.dst st)
    | _ => False
def b6q (P : Program) (G : Nat → Option Value) (N : Nat) : List AO → (St → Prop) → St → Prop
  | [], K, st => K st
  | io :: rest, K, st => b60 P G N io (b6q P G N rest K) st
section
variable {E : Env} {N : Nat} {st : St} {a : Act} {w : World} {val : Nat → Value} {ow : Nat → Option Nat} {P : Program} {G : Nat → Option Value}
theorem e2w {T e : TypeId} (adr : Option Addr) (n c : Nat) (h : P.underlying T = some (.slice e)) (m : Nat) : (Op.equalIn (m + 1) T (.slice adr n c) (.slice none 0 0)).run P w = .ok adr.isNone w := by
  cases adr <;> simp [Op.equalIn, run_underlying h]
def Kp (d : Option Nat) (a a' : Act) : Prop := ∀ t, d ≠ some t → a'.tmps.getD t undef = a.tmps.getD t undef
theorem d3t {d : Option Nat} {a : Act} {v : Value} : Kp d a (a.put d v) := fun t ht => by
  cases d with
  | none => rfl
  | some d =>
    have hd : d ≠ t := fun h => ht (by rw [h])
    simp only [Act.put, Array.getD_eq_getD_getElem?, Array.getElem?_setIfInBounds_ne hd]
theorem d69 (h : Sim E N st a w val ow) (hG : E.G = G) {o : Oper} {act : IAct} (ho : o.op = act.erase) (hd : f6x N o.dst = true) (hok : g0w P N act = true) {K : St → Prop} (hc : c80 P G N o.dst act K st)
    {K' : Act → World → Prop} {Q : Exit → Act → World → Prop} (hK : ∀ v st' w' val' ow', K st' → Sim E N st' (a.put o.dst v) w' val' ow' → K' (a.put o.dst v) w') : o.wp P a w K' Q := by
  have hd' : ∀ d, o.dst = some d → d < N := fun d h => by rw [h] at hd; simpa [f6x] using hd
  cases act with
  | op i =>
    simp only [c80] at hc
    split at hc
    · rename_i r hr
      obtain ⟨x, w', val', ow', hrun, hs⟩ := e8i (P := P) h hG (u := r.1) (st' := r.2) ho hd' hok hr
      unfold Oper.wp
      rw [hrun]
      rcases hs with ⟨v, rfl, hs⟩ | ⟨rfl, hs⟩
      · rw [Oper.upon_value]; exact hK _ _ _ _ _ hc hs
      · rw [Oper.upon_skip]; exact hK _ _ _ _ _ hc hs
    · exact hc.elim
  | call f args tys =>
    simp only [g0w, Bool.and_eq_true, List.all_eq_true] at hok
    exact e2g h hG (tys := tys.toArray) ho hd' hok.2 hok.1 hc hK
  | callx cv args lay tys =>
    simp only [g0w, Bool.and_eq_true, List.all_eq_true] at hok
    exact d85 h hG (tys := tys.toArray) ho hd' hok.1.2 hok.1.1 hok.2 hc hK
  | bad o' => exact hc.elim
  | nilq T x yT =>
    simp only [c80] at hc
    simp only [g0w, Bool.and_eq_true] at hok
    obtain ⟨hx, hT⟩ := hok
    have hT' : ∃ e, P.underlying T = some (.slice e) := by
      split at hT
      · rename_i e he; exact ⟨e, he⟩
      · cases hT
    obtain ⟨e, hT'⟩ := hT'
    cases x with
    | t t =>
      have htN : t < N := by simpa [okX] using hx
      simp only [h1t] at hc
      have hsl := h.slots t
      have hag := h.agree t htN
      cases hdst : o.dst with
      | none => rw [hdst] at hc; simp only [nqK] at hc
      | some d =>
        rw [hdst] at hc
        have fin : ∀ (adr : Option Addr) (n c : Nat), a.eval (.tmp t) = .slice adr n c → K (st.put d (.lit (.bool adr.isNone))) → o.wp P a w K' Q := by
          intro adr n c hev hk
          have hrun : (execOp a.eval o).run P w = .ok (.value (.bool adr.isNone)) w := by
            simp only [execOp, ho, IAct.erase, X.op]
            refine a5n ?_
            rw [Sem.run_bind, hev]
            have e1 : (eqGuard .eql T (.tmp t) (.const (.slice none 0 0)) (.slice adr n c) (a.eval (.const (.slice none 0 0)))).run P w = .ok () w := rfl
            rw [e1]
            show (binOp .eql T (.slice adr n c) (.slice none 0 0)).run P w = _
            have e2 : (Op.equal T (.slice adr n c) (.slice none 0 0)).run P w = .ok adr.isNone w := by
              exact e2w adr n c hT' 9999
            show ((Op.equal T (.slice adr n c) (.slice none 0 0)) >>= fun r => pure (Value.bool r) : Sem Value).run P w = _
            rw [Sem.run_bind, e2]
            rfl
          have hs := h.fin (hd' d hdst) (av := .lit (.bool adr.isNone)) (v := .bool adr.isNone) (by simp only [R]) rfl
          unfold Oper.wp
          rw [hrun, Oper.upon_value, hdst]
          have := hK (.bool adr.isNone) _ w _ _ hk (by rw [hdst]; exact hs)
          rw [hdst] at this
          exact this
        cases hv : st.s t with
        | sl n ks =>
          rw [hv] at hc hsl
          simp only [nqK] at hc
          simp only [R] at hsl
          obtain ⟨adr, c, hval, _, vs, _, hrl, hor⟩ := hsl
          refine fin adr n c (by rw [← hval]; exact hag) (hc _ fun hb => ?_)
          rcases hor with h0 | ⟨b, o', ha, _⟩
          · subst h0
            have := a0m hrl
            exact List.eq_nil_of_length_eq_zero (by simpa using this.symm)
          · subst ha; cases hb
        | own sz n ks =>
          rw [hv] at hc hsl
          simp only [nqK] at hc
          simp only [R] at hsl
          rcases hsl with ⟨h0, _, adr, hval⟩ | ⟨b, c, cur, T', fz, hval, _⟩
          · exact fin adr 0 0 (by rw [← hval]; exact hag) (hc _ fun _ => h0)
          · exact fin _ n c (by rw [← hval]; exact hag) (hc _ fun hb => by cases hb)
        | _ => rw [hv] at hc; simp only [nqK] at hc
    | _ => cases hdst : o.dst <;> rw [hdst] at hc <;> simp only [h1t, nqK] at hc
theorem e1w (h : Sim E N st a w val ow) {d : Option Nat} (hd : f6x N d = true) : ∃ val', Sim E N (a67 d st) (a.put d undef) w val' ow := by
  cases d with
  | none => exact ⟨val, h⟩
  | some d => exact ⟨_, h.fin (by simpa [f6x] using hd) (av := .lit undef) (by simp only [R]) rfl⟩
theorem d20 (h : Sim E N st a w val ow) {ops : Array Oper} {j t : Nat} (hj : (ops[j]?).bind (·.dst) = some t) (ht : t < N) {v : Value} (hv : st.s t = .lit v) (want : Bool) : (yielded ops a.tmps j == some want) = d5u want v := by
  have h1 := h.slots t
  rw [hv] at h1
  simp only [R] at h1
  have h2 := h.agree t ht
  rw [h1] at h2
  have hlt : t < a.tmps.size := by rw [h.size]; exact ht
  have h3 : a.tmps[t]? = some v := by
    rw [Array.getD_eq_getD_getElem?] at h2
    simp [hlt] at h2 ⊢
    exact h2
  unfold yielded
  rw [hj]
  simp only [Option.bind_some, h3]
  cases v <;> simp [d5u]
theorem c9c (h : Sim E N st a w val ow) (hG : E.G = G) {ops : Array Oper} {ios : List AO} {o : Oper} {io : AO} (hm : ops.toList.map o3 = ios.map AO.e3) (hoi : o3 o = io.e3) (hok : g9c P N ios io = true) {K : St → Prop} (hc : b60 P G N io K st)
    {K' : Act → World → Prop} {Q : Exit → Act → World → Prop} (hK : ∀ st' a' w' val' ow', K st' → Kp o.dst a a' → Sim E N st' a' w' val' ow' → K' a' w') :
    if Region.wanted o (yielded ops a.tmps) then o.wp P a w K' Q else K' (a.put o.dst undef) w := by
  simp only [g9c, Bool.and_eq_true] at hok
  obtain ⟨⟨hd, ha⟩, hg⟩ := hok
  simp only [o3, AO.e3, Prod.mk.injEq] at hoi
  obtain ⟨e1, e2, e3⟩ := hoi
  unfold b60 at hc
  rw [← e1] at hc hd
  cases hio : io.g with
  | none =>
    simp only [hio] at hc
    rw [if_pos (by simp [Region.wanted, e3, hio])]
    exact d69 h hG e2 hd ha hc fun v st' w' val' ow' h1 h2 => hK st' _ w' val' ow' h1 d3t h2
  | some g =>
    obtain ⟨j, t, want⟩ := g
    simp only [hio] at hc
    simp only [hio, e9c, Bool.and_eq_true, decide_eq_true_eq] at hg
    obtain ⟨ht, hj⟩ := hg
    have hj' : (ops[j]?).bind (·.dst) = some t := by
      have h1 : (ops.toList.map o3)[j]? = (ios.map AO.e3)[j]? := by rw [hm]
      simp only [List.getElem?_map] at h1
      cases h2 : ios[j]? with
      | none => simp [h2] at hj
      | some io2 =>
        simp only [h2, beq_iff_eq] at hj
        rw [h2] at h1
        cases h3 : ops.toList[j]? with
        | none => simp [h3] at h1
        | some o2 =>
          rw [h3] at h1
          simp only [Option.map_some, Option.some.injEq, o3, AO.e3, Prod.mk.injEq] at h1
          have : ops[j]? = some o2 := by simpa using h3
          rw [this]
          simp [h1.1, hj]
    split at hc
    · rename_i v hv
      have hy := d20 h hj' ht hv want
      have hw : Region.wanted o (yielded ops a.tmps) = d5u want v := by
        simp only [Region.wanted, e3, hio, Option.map_some]
        exact hy
      rw [hw]
      cases hwb : d5u want v with
      | true =>
        simp only [hwb, if_true] at hc ⊢
        exact d69 h hG e2 hd ha hc fun v st' w' val' ow' h1 h2 => hK st' _ w' val' ow' h1 d3t h2
      | false =>
        simp only [hwb, Bool.false_eq_true, if_false] at hc ⊢
        obtain ⟨val', hs⟩ := e1w h hd
        exact hK _ _ _ _ _ hc d3t hs
    · exact hc.elim
theorem d5h {pins : List Nat} {ops : Array Oper} {ios : List AO} (hm : ops.toList.map o3 = ios.map AO.e3) (hok : e3a P N ios = true) (hpin : ∀ io ∈ ios, ∀ t ∈ pins, io.dst ≠ some t) (hG : E.G = G) {K : St → Prop} {Q : Exit → Act → World → Prop} {a0 : Act}
    (hK : ∀ st' a' w' val' ow', K st' → (∀ t ∈ pins, a'.tmps.getD t undef = a0.tmps.getD t undef) → Sim E N st' a' w' val' ow' → Q .normal a' w') : ∀ (l : List Oper) (is : List AO), l.map o3 = is.map AO.e3 → (∀ io ∈ is, io ∈ ios) → ∀ {st a w val ow}, (∀ t ∈ pins, a.tmps.getD t undef = a0.tmps.getD t undef) → Sim E N st a w val ow → b6q P G N is K st → wpList P ops Q l a w
  | [], [], _, _, st, a, w, val, ow, hp, h, hc => hK _ _ _ _ _ hc hp h
  | o :: l, io :: is, hl, hi, st, a, w, val, ow, hp, h, hc => by
    simp only [List.map_cons, List.cons.injEq] at hl
    refine wpList_step fun K' hK' => ?_
    have := List.all_eq_true.1 hok io (hi io (by simp))
    have hdst : o.dst = io.dst := by have := hl.1; simp only [o3, AO.e3, Prod.mk.injEq] at this; exact this.1
    exact c9c h hG hm hl.1 this hc (fun st' a' w' val' ow' hk hkp hs => hK' _ _ (d5h hm hok hpin hG hK l is hl.2 (fun x hx => hi x (by simp [hx])) (fun t ht => (hkp t (by rw [hdst]; exact hpin io (hi io (by simp)) t ht)).trans (hp t ht)) hs hk))
  | [], _ :: _, hl, _, _, _, _, _, _, _, _, _ => by simp at hl
  | _ :: _, [], hl, _, _, _, _, _, _, _, _, _ => by simp at hl
end
def AWp (P : Program) (G : Nat → Option Value) (N : Nat) (pins : List Nat) (c : Code) (Q : Exit → St → Prop) (st : St) : Prop :=
  ∀ (E : Env) (a : Act) (w : World) (val : Nat → Value) (ow : Nat → Option Nat), E.G = G → Sim E N st a w val ow → c.wp P (fun e a' w' => (∀ t ∈ pins, a'.tmps.getD t undef = a.tmps.getD t undef) ∧ ∃ st' val' ow', Q e st' ∧ Sim E N st' a' w' val' ow') a w
def c50 (K : St → Prop) (Q : Exit → St → Prop) : Exit → St → Prop
  | .normal, st => K st
  | e, st => Q e st
def b99 (id : Nat) (Q : Exit → St → Prop) : Exit → St → Prop
  | .exit id', st => if id' = id then Q .normal st else Q (.exit id') st
  | e, st => Q e st
def e4z (st : St) (N : Nat) : X → Option Bool
  | .t t => if t < N then (match st.s t with | .lit (.bool b) => some b | _ => none) else none
  | .c (.bool b) => some b
  | _ => none
section
variable {N : Nat} {st : St} {P : Program} {G : Nat → Option Value} {Q : Exit → St → Prop} {pins : List Nat}
theorem AWp.skip (h : Q .normal st) : AWp P G N pins .skip Q st := fun E a w val ow _ hs => wp_skip ⟨fun _ _ => rfl, st, val, ow, h, hs⟩
theorem AWp.label {l : Nat} (h : Q .normal st) : AWp P G N pins (.label l) Q st := fun E a w val ow _ hs => wp_label ⟨fun _ _ => rfl, st, val, ow, h, hs⟩
theorem AWp.exit {id : Nat} (h : Q (.exit id) st) : AWp P G N pins (.exit id) Q st := fun E a w val ow _ hs => wp_exit ⟨fun _ _ => rfl, st, val, ow, h, hs⟩
theorem AWp.ret (h : Q .ret st) : AWp P G N pins .ret Q st := fun E a w val ow _ hs => wp_ret ⟨fun _ _ => rfl, st, val, ow, h, hs⟩
theorem AWp.seq {x y : Code} (h : AWp P G N pins x (c50 (AWp P G N pins y Q) Q) st) : AWp P G N pins (.seq x y) Q st := fun E a w val ow hG hs =>
  wp_seq (wp_mono (h E a w val ow hG hs) fun e a' w' ⟨hp, st', val', ow', hq, hs'⟩ => by
    cases e <;> first | exact wp_mono (hq E a' w' val' ow' hG hs') (fun e2 a2 w2 ⟨hp2, hx⟩ => ⟨fun t ht => (hp2 t ht).trans (hp t ht), hx⟩) | exact ⟨hp, st', val', ow', hq, hs'⟩)
theorem AWp.block {id : Nat} {c : Code} (h : AWp P G N pins c (b99 id Q) st) : AWp P G N pins (.block id c) Q st := fun E a w val ow hG hs =>
  wp_block (wp_mono (h E a w val ow hG hs) fun e a' w' ⟨hp, st', val', ow', hq, hs'⟩ => by
    cases e <;> first | exact ⟨hp, st', val', ow', hq, hs'⟩ | skip
    rename_i id'
    simp only [b99] at hq
    simp only [Exit.inBlock]
    split
    · rename_i he; rw [if_pos he] at hq; exact ⟨hp, st', val', ow', hq, hs'⟩
    · rename_i he; rw [if_neg he] at hq; exact ⟨hp, st', val', ow', hq, hs'⟩)
theorem AWp.cond {c : X} {x y : Code} {b : Bool} (hc : e4z st N c = some b) (h : AWp P G N pins (if b then x else y) Q st) : AWp P G N pins (.cond c.op x y) Q st := fun E a w val ow hG hs => by
  refine wp_cond (t := b) ?_ (h E a w val ow hG hs)
  unfold e4z at hc
  split at hc
  · rename_i t
    split at hc
    · rename_i ht
      split at hc
      · rename_i b' hb
        simp only [Option.some.injEq] at hc
        subst hc
        have := hs.slots t
        rw [hb] at this
        simp only [R] at this
        exact (hs.eval_t ht).trans this
      · cases hc
    · cases hc
  · simp only [Option.some.injEq] at hc
    subst hc; rfl
  · cases hc
theorem AWp.region {id : Nat} {l : List Oper} {ios : List AO} (hm : l.map o3 = ios.map AO.e3) (hok : e3a P N ios = true) (hpin : ∀ io ∈ ios, ∀ t ∈ pins, io.dst ≠ some t) (h : b6q P G N ios (Q .normal) st) : AWp P G N pins (.region id l.toArray false) Q st := fun E a w val ow hG hs =>
  wp_region_lit (d5h (a0 := a) (by simpa using hm) hok hpin hG (fun st' a' w' val' ow' hk hp hs' => ⟨hp, st', val', ow', hk, hs'⟩) l ios hm (fun _ h => h) (fun _ _ => rfl) hs h)
theorem AWp.loop {ι : Type} {c : Code} (I : ι → St → Prop) (μ : ι → Nat) (i0 : ι) (h0 : I i0 st) (round : ∀ i st, I i st → AWp P G N pins c (c50 (fun st' => ∃ i', I i' st' ∧ μ i' < μ i) Q) st) : AWp P G N pins (.loop c) Q st := fun E a0 w val ow hG hs => by
  let T : Act → World → Nat → Prop := fun a w n => (∀ t ∈ pins, a.tmps.getD t undef = a0.tmps.getD t undef) ∧ ∃ i st val ow, I i st ∧ Sim E N st a w val ow ∧ μ i = n
  have hex : ∀ a w, (∃ n, T a w n) → ∃ n, T a w n ∧ ∀ m, T a w m → n ≤ m := fun a w ⟨n, hn⟩ => by
    induction n using Nat.strongRecOn with
    | _ n ih =>
      by_cases hx : ∃ m, m < n ∧ T a w m
      · obtain ⟨m, hm, hT⟩ := hx; exact ih m hm hT
      · exact ⟨n, hn, fun m hm => Nat.le_of_not_lt fun hlt => hx ⟨m, hlt, hm⟩⟩
  let μ' : Act → World → Nat := fun a w => if h : ∃ n, T a w n then Classical.choose (hex a w h) else 0
  refine wp_loop (fun a w => ∃ n, T a w n) μ' ⟨μ i0, fun _ _ => rfl, i0, st, val, ow, h0, hs, rfl⟩ (fun a w hT => ?_)
  have hmu : μ' a w = Classical.choose (hex a w hT) := dif_pos hT
  obtain ⟨⟨hp0, i, st1, val1, ow1, hI, hs1, hi⟩, hmin⟩ := Classical.choose_spec (hex a w hT)
  rw [← hmu] at hi
  refine wp_mono (round i st1 hI E a w val1 ow1 hG hs1) fun e a' w' ⟨hp, st', val', ow', hq, hs'⟩ => ?_
  have hp' : ∀ t ∈ pins, a'.tmps.getD t undef = a0.tmps.getD t undef := fun t ht => (hp t ht).trans (hp0 t ht)
  cases e <;> first | exact ⟨hp', st', val', ow', hq, hs'⟩ | skip
  obtain ⟨i', hI', hlt⟩ := hq
  have hT' : ∃ n, T a' w' n := ⟨μ i', hp', i', st', val', ow', hI', hs', rfl⟩
  refine ⟨hT', ?_⟩
  have hmu' : μ' a' w' = Classical.choose (hex a' w' hT') := dif_pos hT'
  have := (Classical.choose_spec (hex a' w' hT')).2 (μ i') ⟨hp', i', st', val', ow', hI', hs', rfl⟩
  rw [← hmu'] at this
  omega
theorem AWp.mono {c : Code} {Q' : Exit → St → Prop} (h : AWp P G N pins c Q st) (hq : ∀ e st, Q e st → Q' e st) : AWp P G N pins c Q' st := fun E a w val ow hG hs =>
  wp_mono (h E a w val ow hG hs) fun e a' w' ⟨hp, st', val', ow', h1, h2⟩ => ⟨hp, st', val', ow', hq _ _ h1, h2⟩
end
end Go.Ideal
end
section
set_option linter.unusedVariables false
set_option linter.unusedSimpArgs false
namespace Go.Ideal
open Classical
def rvT : ResultVar → Nat
  | .tmp t => t
  | .cell t _ => t
def c2z (P : Program) (N : Nat) (st : St) : ResultVar → Option AV
  | .tmp t => if decide (t < N) && a0k (st.s t) then some (st.s t) else none
  | .cell t T => if t < N then (match st.s t with
    | .var ks => (match d46 P T, ks with
      | some false, [k] => some k
      | some true, ks => if b9r P T ks.length then some (.agg ks) else none
      | _, _ => none)
    | _ => none) else none
def e9k (P : Program) (N : Nat) (st : St) : List ResultVar → Option (List AV)
  | [] => some []
  | r :: rs => match c2z P N st r, e9k P N st rs with
    | some k, some ks => some (k :: ks)
    | _, _ => none
def c4g (P : Program) (N : Nat) (st : St) (rs : List ResultVar) : Option AV := match e9k P N st rs with
  | some [k] => some k
  | some ks => some (.tup ks)
  | none => none
def c89 (tmps : Array Value) : ResultVar → Sem Value
  | .tmp t => pure (tmps.getD t undef)
  | .cell a t => do loadVar t (← asAddr (tmps.getD a undef))
section
variable {E : Env} {N : Nat} {st : St} {a : Act} {w : World} {val : Nat → Value} {ow : Nat → Option Nat} {P : Program} {G : Nat → Option Value}
theorem d6e (h : Sim E N st a w val ow) {r : ResultVar} {k : AV} (hr : c2z P N st r = some k) : ∃ v, (c89 a.tmps r).run P w = .ok v w ∧ R w (Mo E w ow) k noQ (fun b => ow b = some (rvT r)) v := by
  cases r with
  | tmp t =>
    simp only [c2z, Bool.and_eq_true, decide_eq_true_eq] at hr
    split at hr
    · rename_i hc
      simp only [Option.some.injEq] at hr
      subst hr
      exact ⟨_, rfl, by rw [h.agree t hc.1]; exact a6v hc.2 (h.slots t)⟩
    · cases hr
  | cell t T =>
    simp only [c2z] at hr
    split at hr
    · rename_i ht
      split at hr
      · rename_i ks hks
        have hsl := h.slots t
        rw [hks] at hsl
        have hsl0 := hsl
        simp only [R] at hsl
        obtain ⟨b, cur, T', fz, hv, hb, hh, hz, h1, hrl⟩ := hsl
        have ha : (c89 a.tmps (.cell t T)).run P w = (loadVar T ⟨b, 0, none⟩).run P w := by
          simp only [c89, h.agree t ht, hv, asAddr, Sem.run_bind, Sem.run_pure, Result.andThen_ok]
        have hlen := a0m hrl
        split at hr
        · rename_i k' hag
          simp only [Option.some.injEq] at hr
          subst hr
          obtain ⟨v, hvs, hrk⟩ := e1k hrl
          refine ⟨v, ?_, a2v (fun b hb => hb.1) hrk⟩
          rw [ha]
          have hcell : w.cell? ⟨b, 0, none⟩ = some v := by
            rw [a09 hh]
            have : cur.toList[0]? = some v := by rw [hvs]; rfl
            simpa using this
          have hagg : (isAgg T).run P w = .ok false w := by
            unfold d46 at hag
            split at hag <;> simp only [Option.some.injEq, reduceCtorEq] at hag
            rename_i td hn1 hn2 hu
            unfold isAgg
            rw [Sem.run_bind, run_underlying hu]
            cases td <;> first
              | rfl
              | exact (hn1 _ rfl).elim
              | exact (hn2 _ _ rfl).elim
              | exact (hn1 _ _ rfl).elim
              | exact (hn2 _ rfl).elim
          simp only [loadVar, Sem.run_bind, hagg, Result.andThen_ok]
          simp [load, Sem.run, hcell]
        · rename_i ks' hag
          split at hr
          · rename_i hsz
            simp only [Option.some.injEq] at hr
            subst hr
            obtain ⟨i, hi, hszi⟩ := a3m hsz
            refine ⟨.agg cur, ?_, ?_⟩
            · rw [ha]
              have hagg : (isAgg T).run P w = .ok true w := by
                unfold d46 at hag
                unfold isAgg
                split at hag
                · rename_i fs hu; rw [Sem.run_bind, run_underlying hu]; rfl
                · rename_i n e hu; rw [Sem.run_bind, run_underlying hu]; rfl
                · simp at hag
                · cases hag
              have hsize : (sizeOf T).run P w = .ok cur.toList.length w := by simp [sizeOf, typeInfo, hi, hszi]; simpa using hlen.symm
              have hlc := c0j P b 0 cur.toList (w := w) (fun i v hv => by rw [Nat.zero_add, a09 hh]; simpa using hv)
              simp only [loadVar, Sem.run_bind, hagg, Result.andThen_ok, hsize, hlc, if_true, Sem.run_pure]
            · simp only [R]
              exact ⟨cur, rfl, h1, a26 (fun b hb => hb.1) hrl⟩
          · cases hr
        · cases hr
      · cases hr
    · cases hr
theorem c90 (h : Sim E N st a w val ow) : ∀ (rs : List ResultVar) {ks : List AV}, (rs.map rvT).Nodup → e9k P N st rs = some ks → ∃ vs, (rs.mapM (c89 a.tmps)).run P w = .ok vs w ∧ RL w (Mo E w ow) ks noQ (fun b => ∃ t, t ∈ rs.map rvT ∧ ow b = some t) vs
  | [], ks, _, hr => by
    simp only [e9k, Option.some.injEq] at hr
    subst hr
    exact ⟨[], by simp, by simp [RL]⟩
  | r :: rs, ks, hn, hr => by
    simp only [e9k] at hr
    split at hr
    · rename_i k ks' h1 h2
      simp only [Option.some.injEq] at hr
      subst hr
      simp only [List.map_cons, List.nodup_cons] at hn
      obtain ⟨v, g1, g2⟩ := d6e h h1
      obtain ⟨vs, g3, g4⟩ := c90 h rs hn.2 h2
      refine ⟨v :: vs, by simp [List.mapM_cons, g1, g3], ?_⟩
      simp only [RL]
      refine ⟨v, vs, rfl, _, _, fun b hb => ⟨rvT r, by simp, hb⟩, fun b ⟨t, ht, hb⟩ => ⟨t, by simp at ht ⊢; exact .inr ht, hb⟩, fun b hb ⟨t, ht, hb2⟩ => ?_, g2, g4⟩
      rw [hb] at hb2
      injection hb2 with hb2
      exact hn.1 (by rw [hb2]; exact ht)
    · cases hr
theorem d9y (h : Sim E N st a w val ow) {fn : Func} {rs : List ResultVar} (hfn : fn.results.toList = rs) (hn : (rs.map rvT).Nodup) {res : AV} (hr : c4g P N st rs = some res) :
    ∃ v, (results fn a.tmps).run P w = .ok v w ∧ R w (Mo E w ow) res noQ (fun b => ∃ t, t ∈ rs.map rvT ∧ ow b = some t) v := by
  unfold c4g at hr
  have key : ∀ ks, e9k P N st rs = some ks → ∃ vs : List Value, (results fn a.tmps).run P w = .ok (if h : vs.toArray.size = 1 then vs.toArray[0] else .tuple vs.toArray) w ∧ RL w (Mo E w ow) ks noQ (fun b => ∃ t, t ∈ rs.map rvT ∧ ow b = some t) vs := by
    intro ks hks
    obtain ⟨vs, g1, g2⟩ := c90 h rs hn hks
    refine ⟨vs, ?_, g2⟩
    unfold results
    have hm : (fn.results.mapM (c89 a.tmps)).run P w = .ok vs.toArray w := by
      rw [Array.mapM_eq_mapM_toList, hfn]
      simp [g1]
    have hgen : ∀ g : ResultVar → Sem Value, g = c89 a.tmps → (fn.results.mapM g).run P w = .ok vs.toArray w := fun g hg => by rw [hg]; exact hm
    rw [Sem.run_bind, hgen _ (by funext x; cases x <;> rfl)]
    rfl
  split at hr
  · rename_i k hk
    simp only [Option.some.injEq] at hr
    subst hr
    obtain ⟨vs, g1, g2⟩ := key _ hk
    obtain ⟨v, rfl, hrk⟩ := e1k g2
    exact ⟨v, by simpa using g1, hrk⟩
  · rename_i ks hne hk
    simp only [Option.some.injEq] at hr
    subst hr
    obtain ⟨vs, g1, g2⟩ := key _ hk
    have hl : vs.length ≠ 1 := by
      rw [a0m g2]
      intro h1
      obtain ⟨k, rfl⟩ := List.length_eq_one_iff.1 h1
      exact hne k rfl
    refine ⟨.tuple vs.toArray, by simpa [hl] using g1, ?_⟩
    simp only [R]
    exact ⟨_, rfl, g2⟩
  · cases hr
end
def f3m (P : Program) (N : Nat) (rs : List ResultVar) (res : AV) : Exit → St → Prop
  | .normal, st | .ret, st => c4g P N st rs = some res
  | _, _ => False
def h4l (P : Program) (N : Nat) (rs : List ResultVar) (res : AV) (posts : List (Nat × AV)) : Exit → St → Prop
  | .normal, st | .ret, st => c4g P N st rs = some res ∧ ∀ p ∈ posts, st.s p.1 = p.2
  | _, _ => False
theorem b2o {P : Program} {G : Nat → Option Value} {f : FuncId} {fn : Func} {c : Code} {N : Nat} {rs : List ResultVar} {pre : List AV} {res : AV} {posts : List (Nat × AV)} (hf : P.funcs[f]? = some fn) (hb : fn.body = some c) (hN : fn.ntmps = N) (hrs : fn.results.toList = rs) (hnd : (rs.map rvT).Nodup)
    (hsz : pre.length ≤ N) (hpost : ∀ p ∈ posts, p.1 ∉ rs.map rvT ∧ p.1 < pre.length ∧ a0k p.2 = true) (h : AWp P G N (posts.map (·.1)) c (h4l P N rs res posts) (St.init pre)) : ACallsX P G f pre res posts := by
  intro w args A ow hargs hA how hG hpre
  refine calls_of_wp hf hb ?_
  let E : Env := ⟨w, A, fun b => ow b ≠ none, G⟩
  let a : Act := { tmps := args ++ Array.replicate (fn.ntmps - args.size) undef, defers := [] }
  have hasz : a.tmps.size = N := by
    simp only [a, Array.size_append, Array.size_replicate]; omega
  have hrest : ∀ t, pre.length ≤ t → a.tmps.getD t undef = undef := fun t ht => by
    simp only [a, Array.getD_eq_getD_getElem?]
    rw [Array.getElem?_append_right (by omega)]
    by_cases h2 : t - args.size < fn.ntmps - args.size
    · simp [h2]
    · simp [h2]
  have hfst : ∀ t, t < pre.length → a.tmps.getD t undef = args.getD t undef := fun t ht => by
    simp only [a, Array.getD_eq_getD_getElem?]
    rw [Array.getElem?_append_left (by omega)]
  have hall : (fun t => args.getD t undef) = fun t => a.tmps.getD t undef := by
    funext t
    by_cases ht : t < pre.length
    · exact (hfst t ht).symm
    · rw [hrest t (by omega), Array.getD_eq_getD_getElem?, Array.getElem?_eq_none (by omega)]
      rfl
  rw [hall] at hpre
  have hs : Sim E N (St.init pre) a w (fun t => a.tmps.getD t undef) ow := {
    size := hasz, defers := rfl, agree := fun _ _ => rfl, lt := fun b t hb => (how b t hb).2
    old := fun b _ hF => ⟨by simpa [E] using hF, rfl⟩
    le := Nat.le_refl _, os := rfl, tape := rfl, output := rfl
    glob := fun g v hg => (hG g v hg).1, globA := fun g v hg => ⟨(hG g v hg).2.1, by simp [E, (hG g v hg).2.2]⟩
    slots := fun t => by
      have hst : ∀ av, pre[t]? = some av → (St.init pre).s t = av := fun av h => by simp only [St.init, h]
      cases ht : pre[t]? with
      | none =>
        have : pre.length ≤ t := by simpa using ht
        have e : (St.init pre).s t = .lit undef := by simp only [St.init, ht]
        rw [e]
        simp only [R]
        exact hrest t this
      | some av =>
        have hlt : t < pre.length := (List.getElem?_eq_some_iff.1 ht).1
        rw [hst av ht]
        simp only [hfst t hlt]
        exact a0y (fun b hb => ⟨(hA b hb).2, (hA b hb).1, .inl hb⟩) (fun _ _ => rfl) av (fun _ _ h => h) (fun _ h => h) (fun _ _ => rfl) (hpre t av ht) }
  refine wp_mono (h E a w _ ow rfl hs) fun e a' w' ⟨hp, st', val', ow', hq, hs'⟩ => ?_
  have fin : (c4g P N st' rs = some res ∧ ∀ p ∈ posts, st'.s p.1 = p.2) → bodyPost P fn (fun e w' => ∃ v, e = .returned v ∧ RetX w A (fun b => ow b ≠ none) w' res v posts args) .ret a' w' := fun ⟨ho, hps⟩ => by
    obtain ⟨v, hr, hR⟩ := d9y hs' hrs hnd ho
    refine ⟨hs'.defers, v, hr, v, rfl, ?_⟩
    let own : Nat → Option Nat := fun b => match ow' b with
      | some t => if t ∈ posts.map (·.1) then some (t + 1) else some 0
      | none => none
    have hMo : ∀ b, Mo E w' ow' b → b < w'.heap.size ∧ own b = none ∧ (A b ∨ ow b ≠ none ∨ w.heap.size ≤ b) := fun b hb => ⟨hb.2.1, by simp only [own, hb.1], hb.2.2⟩
    exact {
      le := hs'.le, os := hs'.os, tape := hs'.tape, output := hs'.output
      frame := fun b hb hF => (hs'.old b hb hF).2
      own := ⟨own, fun b j hb => by
          cases ho : ow' b with
          | none => simp only [own, ho] at hb; cases hb
          | some t => exact ⟨(hs'.owned ho).2, (hs'.owned ho).1⟩,
        a0y hMo (fun _ _ => rfl) res (fun _ _ h => h) (fun b ⟨t, ht, hb⟩ => by
          have : t ∉ posts.map (·.1) := fun hm => by
            obtain ⟨p, hp1, hp2⟩ := List.mem_map.1 hm
            exact (hpost p hp1).1 (by rw [hp2]; exact ht)
          simp only [own, hb, this, if_false]) (fun _ _ => rfl) hR,
        fun i av hm => by
          obtain ⟨_, hil, hnr⟩ := hpost _ hm
          have hsl := hs'.slots i
          rw [hps _ hm] at hsl
          have hv : val' i = args.getD i undef := by
            rw [← hs'.agree i (by omega), hp i (List.mem_map.2 ⟨_, hm, rfl⟩)]
            exact hfst i hil
          rw [hv] at hsl
          exact a0y hMo (fun _ _ => rfl) av (fun _ _ h => h) (fun b hb => by
            have : i ∈ posts.map (·.1) := List.mem_map.2 ⟨_, hm, rfl⟩
            simp only [own, hb, this, if_true]) (fun _ _ => rfl) (a6v hnr hsl)⟩ }
  cases e with
  | normal => exact fin hq
  | ret => exact fin hq
  | exit id => exact hq.elim
  | goto l => exact hq.elim
  | panic ch => exact hq.elim
  | outgrown => exact hq.elim
theorem ACallsX.plain {P : Program} {G : Nat → Option Value} {f : FuncId} {pre : List AV} {res : AV} (h : ACallsX P G f pre res []) : ACalls P G f pre res := fun w args A ow h1 h2 h3 h4 h5 => by
  refine (h w args A ow h1 h2 h3 h4 fun i av hi => a0y (fun _ h => h) (fun _ _ => rfl) av (fun _ _ h => h.elim) (fun _ h => h) (fun _ _ => rfl) (h5 i av hi)).mono ?_
  rintro e w' ⟨v, rfl, hr⟩
  obtain ⟨own, hown, hR, _⟩ := hr.own
  refine ⟨v, rfl, hr.le, hr.os, hr.tape, hr.output, hr.frame, fun b => ∃ j, own b = some j, fun b ⟨j, hb⟩ => hown b j hb, ?_⟩
  exact a0y (fun b hb => ⟨hb.1, fun ⟨j, hj⟩ => (by rw [hb.2.1] at hj; cases hj), hb.2.2⟩) (fun _ _ => rfl) res (fun _ _ h => h) (fun b hb => ⟨0, hb⟩) (fun _ _ => rfl) hR
theorem c8t {P : Program} {G : Nat → Option Value} {f : FuncId} {fn : Func} {c : Code} {N : Nat} {rs : List ResultVar} {pre : List AV} {res : AV} (hf : P.funcs[f]? = some fn) (hb : fn.body = some c) (hN : fn.ntmps = N) (hrs : fn.results.toList = rs) (hnd : (rs.map rvT).Nodup)
    (hsz : pre.length ≤ N) (h : AWp P G N [] c (f3m P N rs res) (St.init pre)) : ACalls P G f pre res :=
  ACallsX.plain (b2o hf hb hN hrs hnd hsz (fun p hp => by cases hp) (h.mono fun e st hq => by
    cases e <;> first | exact ⟨hq, fun p hp => by cases hp⟩ | exact hq.elim))
end Go.Ideal
end
section
set_option linter.unusedVariables false
set_option linter.unusedSimpArgs false
namespace Go.Ideal
open Classical
def agr (st st2 : St) (t : Nat) : Prop := st2.s t = st.s t ∧ st2.ep t = st.ep t
theorem agr.refl (st : St) (t : Nat) : agr st st t := ⟨rfl, rfl⟩
theorem agr.trans {a b c : St} {t : Nat} (h : agr a b t) (h2 : agr b c t) : agr a c t := ⟨h2.1.trans h.1, h2.2.trans h.2⟩
theorem agr.symm {a b : St} {t : Nat} (h : agr a b t) : agr b a t := ⟨h.1.symm, h.2.symm⟩
theorem agr.put {a b : St} {t u : Nat} (v : AV) (h : agr a b t) : agr (a.put u v) (b.put u v) t := by
  unfold agr at *
  by_cases ht : t = u
  · subst ht; simp [St.put_ep, h.2]
  · simp [St.put_ep, ht, h.1, h.2]
theorem agr.set {a b : St} {t u : Nat} (v : AV) (h : agr a b t) : agr (a.set u v) (b.set u v) t := by
  unfold agr at *
  by_cases ht : t = u
  · subst ht; simp [h.2]
  · simp [ht, h.1, h.2]
theorem agr.putn {a : St} {t u : Nat} (v : AV) (h : t ≠ u) : agr a (a.put u v) t := by simp [agr, St.put_ep, h]
theorem agr.setn {a : St} {t u : Nat} (v : AV) (h : t ≠ u) : agr a (a.set u v) t := by simp [agr, h]
structure FR (α : Type) where
  a : α
  st : St
  rd : List Nat
  wr : List Nat
  sw : List Nat
def Ev.runF (N : Nat) {α : Type} : Ev α → St → List Nat → Option (FR α)
  | .ret a, st, sw => some ⟨a, st, [], [], sw⟩
  | .fail, _, _ => none
  | .get t k, st, sw => if t < N then ((k (st.s t) (st.ep t)).runF N st sw).map fun r => { r with rd := t :: r.rd } else none
  | .getv t k, st, sw => if t < N then ((k (st.s t)).runF N st sw).map fun r => { r with rd := t :: r.rd } else if sw.contains t then (k (st.s t)).runF N st sw else none
  | .put t v k, st, sw => if t < N then (k.runF N (st.put t v) sw).map fun r => { r with wr := t :: r.wr } else k.runF N (st.put t v) (t :: sw)
  | .upd t v k, st, sw => if t < N then (k.runF N (st.set t v) sw).map fun r => { r with wr := t :: r.wr } else k.runF N (st.set t v) (t :: sw)
  | .kill t q o m k, st, sw => (k.runF N (st.kill t q o m) sw).map fun r => { r with rd := List.range N ++ r.rd, wr := List.range N ++ r.wr }
theorem a36 {N : Nat} {α : Type} : ∀ (e : Ev α) (st : St) (sw : List Nat) (r : FR α), e.runF N st sw = some r →
    (∀ t, t ∈ r.rd ∨ t ∈ r.wr → t < N) ∧ (∀ t, t < N → t ∉ r.wr → agr st r.st t) ∧ e.run st = some (r.a, r.st) ∧
    ∀ st2, (∀ t, t ∈ r.rd ∨ t ∈ r.wr → agr st st2 t) → (∀ t, t ∈ sw → st2.s t = st.s t) →
      ∃ st2', e.run st2 = some (r.a, st2') ∧ (∀ t, t ∈ r.wr → agr r.st st2' t) ∧ (∀ t, t < N → t ∉ r.wr → agr st2 st2' t) ∧ ∀ t, t ∈ r.sw → st2'.s t = r.st.s t
  | .ret a, st, sw, r, h => by
    simp only [Ev.runF, Option.some.injEq] at h
    subst h
    exact ⟨fun t ht => by simp at ht, fun t _ _ => agr.refl st t, rfl, fun st2 _ h2 => ⟨st2, rfl, fun t ht => by simp at ht, fun t _ _ => agr.refl st2 t, h2⟩⟩
  | .fail, st, sw, r, h => by simp [Ev.runF] at h
  | .kill t q o m k, st, sw, r, h => by
    simp only [Ev.runF] at h
    obtain ⟨r0, h0, rfl⟩ := Option.map_eq_some_iff.1 h
    obtain ⟨e1, e2, e3, e4⟩ := a36 _ _ sw r0 h0
    have hka : ∀ {a b : St} {u : Nat}, agr a b u → agr (a.kill t q o m) (b.kill t q o m) u := fun h => ⟨by simp only [St.kill, h.1], h.2⟩
    refine ⟨fun u hu => ?_, fun u hu hn => ?_, e3, fun st2 g1 g2 => ?_⟩
    · rcases hu with hu | hu <;> rcases List.mem_append.1 hu with hu | hu
      · exact List.mem_range.1 hu
      · exact e1 u (.inl hu)
      · exact List.mem_range.1 hu
      · exact e1 u (.inr hu)
    · exact absurd (List.mem_append.2 (.inl (List.mem_range.2 hu))) hn
    · have ha : ∀ u, u < N → agr st st2 u := fun u hu => g1 u (.inl (List.mem_append.2 (.inl (List.mem_range.2 hu))))
      obtain ⟨st2', q1, q2, q3, q4⟩ := e4 (st2.kill t q o m) (fun u hu => hka (ha u (e1 u hu))) (fun u hu => by simp only [St.kill, g2 u hu])
      refine ⟨st2', q1, fun u hu => ?_, fun u hu hn => absurd (List.mem_append.2 (.inl (List.mem_range.2 hu))) hn, q4⟩
      have huN : u < N := by
        rcases List.mem_append.1 hu with hu | hu
        · exact List.mem_range.1 hu
        · exact e1 u (.inr hu)
      by_cases hw : u ∈ r0.wr
      · exact q2 u hw
      · exact ((e2 u huN hw).symm.trans (hka (ha u huN))).trans (q3 u huN hw)
  | .get t k, st, sw, r, h => by
    simp only [Ev.runF] at h
    split at h
    · rename_i ht
      obtain ⟨r0, h0, rfl⟩ := Option.map_eq_some_iff.1 h
      obtain ⟨e1, e2, e3, e4⟩ := a36 _ st sw r0 h0
      refine ⟨fun u hu => ?_, e2, e3, fun st2 g1 g2 => ?_⟩
      · rcases hu with hu | hu
        · rcases List.mem_cons.1 hu with rfl | hu
          · exact ht
          · exact e1 u (.inl hu)
        · exact e1 u (.inr hu)
      · obtain ⟨st2', q1, q2⟩ := e4 st2 (fun u hu => g1 u (hu.imp (List.mem_cons_of_mem _) id)) g2
        refine ⟨st2', ?_, q2⟩
        have := g1 t (.inl (by simp))
        simp only [Ev.run, this.1, this.2]
        exact q1
    · cases h
  | .getv t k, st, sw, r, h => by
    simp only [Ev.runF] at h
    split at h
    · rename_i ht
      obtain ⟨r0, h0, rfl⟩ := Option.map_eq_some_iff.1 h
      obtain ⟨e1, e2, e3, e4⟩ := a36 _ st sw r0 h0
      refine ⟨fun u hu => ?_, e2, e3, fun st2 g1 g2 => ?_⟩
      · rcases hu with hu | hu
        · rcases List.mem_cons.1 hu with rfl | hu
          · exact ht
          · exact e1 u (.inl hu)
        · exact e1 u (.inr hu)
      · obtain ⟨st2', q1, q2⟩ := e4 st2 (fun u hu => g1 u (hu.imp (List.mem_cons_of_mem _) id)) g2
        refine ⟨st2', ?_, q2⟩
        have := g1 t (.inl (by simp))
        simp only [Ev.run, this.1]
        exact q1
    · split at h
      · rename_i ht hc
        obtain ⟨e1, e2, e3, e4⟩ := a36 _ st sw r h
        refine ⟨e1, e2, e3, fun st2 g1 g2 => ?_⟩
        obtain ⟨st2', q1, q2⟩ := e4 st2 g1 g2
        refine ⟨st2', ?_, q2⟩
        have := g2 t (by simpa using hc)
        simp only [Ev.run, this]
        exact q1
      · cases h
  | .put t v k, st, sw, r, h => by
    simp only [Ev.runF] at h
    split at h
    · rename_i ht
      obtain ⟨r0, h0, rfl⟩ := Option.map_eq_some_iff.1 h
      obtain ⟨e1, e2, e3, e4⟩ := a36 _ _ sw r0 h0
      refine ⟨fun u hu => ?_, fun u hu hn => ?_, e3, fun st2 g1 g2 => ?_⟩
      · rcases hu with hu | hu
        · exact e1 u (.inl hu)
        · rcases List.mem_cons.1 hu with rfl | hu
          · exact ht
          · exact e1 u (.inr hu)
      · simp only [List.mem_cons, not_or] at hn
        exact (agr.putn v hn.1).trans (e2 u hu hn.2)
      · obtain ⟨st2', q1, q2, q3, q4⟩ := e4 (st2.put t v) (fun u hu => (g1 u (hu.imp id (List.mem_cons_of_mem _))).put v) (fun u hu => by
          by_cases hut : u = t
          · subst hut; simp
          · simp [hut, g2 u hu])
        refine ⟨st2', q1, fun u hu => ?_, fun u hu hn => ?_, q4⟩
        · by_cases hw : u ∈ r0.wr
          · exact q2 u hw
          · have hu' : u = t := by rcases List.mem_cons.1 hu with rfl | hu; rfl; exact absurd hu hw
            subst hu'
            exact ((e2 u ht hw).symm.trans ((g1 u (.inr (by simp))).put v)).trans (q3 u ht hw)
        · simp only [List.mem_cons, not_or] at hn
          exact (agr.putn v hn.1).trans (q3 u hu hn.2)
    · rename_i ht
      obtain ⟨e1, e2, e3, e4⟩ := a36 _ _ (t :: sw) r h
      refine ⟨e1, fun u hu hn => (agr.putn v (by omega)).trans (e2 u hu hn), e3, fun st2 g1 g2 => ?_⟩
      obtain ⟨st2', q1, q2, q3, q4⟩ := e4 (st2.put t v) (fun u hu => (g1 u hu).put v) (fun u hu => by
        by_cases hut : u = t
        · subst hut; simp
        · rcases List.mem_cons.1 hu with rfl | hu
          · exact absurd rfl hut
          · simp [hut, g2 u hu])
      exact ⟨st2', q1, q2, fun u hu hn => (agr.putn v (by omega)).trans (q3 u hu hn), q4⟩
  | .upd t v k, st, sw, r, h => by
    simp only [Ev.runF] at h
    split at h
    · rename_i ht
      obtain ⟨r0, h0, rfl⟩ := Option.map_eq_some_iff.1 h
      obtain ⟨e1, e2, e3, e4⟩ := a36 _ _ sw r0 h0
      refine ⟨fun u hu => ?_, fun u hu hn => ?_, e3, fun st2 g1 g2 => ?_⟩
      · rcases hu with hu | hu
        · exact e1 u (.inl hu)
        · rcases List.mem_cons.1 hu with rfl | hu
          · exact ht
          · exact e1 u (.inr hu)
      · simp only [List.mem_cons, not_or] at hn
        exact (agr.setn v hn.1).trans (e2 u hu hn.2)
      · obtain ⟨st2', q1, q2, q3, q4⟩ := e4 (st2.set t v) (fun u hu => (g1 u (hu.imp id (List.mem_cons_of_mem _))).set v) (fun u hu => by
          by_cases hut : u = t
          · subst hut; simp
          · simp [hut, g2 u hu])
        refine ⟨st2', q1, fun u hu => ?_, fun u hu hn => ?_, q4⟩
        · by_cases hw : u ∈ r0.wr
          · exact q2 u hw
          · have hu' : u = t := by rcases List.mem_cons.1 hu with rfl | hu; rfl; exact absurd hu hw
            subst hu'
            exact ((e2 u ht hw).symm.trans ((g1 u (.inr (by simp))).set v)).trans (q3 u ht hw)
        · simp only [List.mem_cons, not_or] at hn
          exact (agr.setn v hn.1).trans (q3 u hu hn.2)
    · rename_i ht
      obtain ⟨e1, e2, e3, e4⟩ := a36 _ _ (t :: sw) r h
      refine ⟨e1, fun u hu hn => (agr.setn v (by omega)).trans (e2 u hu hn), e3, fun st2 g1 g2 => ?_⟩
      obtain ⟨st2', q1, q2, q3, q4⟩ := e4 (st2.set t v) (fun u hu => (g1 u hu).set v) (fun u hu => by
        by_cases hut : u = t
        · subst hut; simp
        · rcases List.mem_cons.1 hu with rfl | hu
          · exact absurd rfl hut
          · simp [hut, g2 u hu])
      exact ⟨st2', q1, q2, fun u hu hn => (agr.setn v (by omega)).trans (q3 u hu hn), q4⟩
end Go.Ideal
end
section
set_option linter.unusedVariables false
set_option linter.unusedSimpArgs false
namespace Go.Ideal
open Classical
def f9m (P : Program) (G : Nat → Option Value) (N : Nat) (d : Option Nat) (act : IAct) (K : St → List Nat → List Nat → Prop) (st : St) : Prop := match act with
  | .op i => match (a1c G N d i).runF N st [] with
    | some r => K r.st r.rd r.wr
    | none => False
  | .call f args _ => ∃ r1 r2 r3 res, (a5r N (N + 2) args).runF N st [] = some r1 ∧ (a3x N (N + 2) args).runF N r1.st r1.sw = some r2 ∧ ACalls P G f (a7b N args.length r2.st) res ∧ a0k res = true ∧
      (d8c N d res).runF N ((if a0w res then r1.st else r2.st).clear N) [] = some r3 ∧ (∀ i, i < args.length → N + 2 + i ∈ r2.sw) ∧
      K r3.st (r1.rd ++ r2.rd ++ r2.wr ++ r3.rd) (if a0w res then r1.wr ++ r3.wr else r1.wr ++ r2.wr ++ r3.wr)
  | .callx _ _ _ _ => False
  | .nilq _ _ _ => False
  | .bad _ => False
def d7i : AV → Bool
  | .var _ => true
  | _ => false
def b4q (V : List (Nat × Nat)) (st : St) : Prop := ∀ p ∈ V, d7i (st.s p.1) = true ∧ st.ep p.1 = p.2
structure Loc (P : Program) (G : Nat → Option Value) (N : Nat) (V : List (Nat × Nat)) (step : (St → Prop) → St → Prop) (st st' : St) (rd wr : List Nat) : Prop where
  lt : ∀ t, t ∈ rd ∨ t ∈ wr → t < N
  frame : ∀ t, t < N → t ∉ wr → agr st st' t
  loc : ∀ st2, b4q V st2 → (∀ t, t ∈ rd ∨ t ∈ wr → agr st st2 t) → ∀ K : St → Prop, (∀ st2', (∀ t, t ∈ wr → agr st' st2' t) → (∀ t, t < N → t ∉ wr → agr st2 st2' t) → K st2') → step K st2
theorem a2y {N : Nat} (st : St) {t : Nat} (h : t < N) : agr st (st.clear N) t := by simp [agr, St.clear, h]
theorem d28 {V : List (Nat × Nat)} {P : Program} {G : Nat → Option Value} {N : Nat} {d : Option Nat} {act : IAct} {K : St → List Nat → List Nat → Prop} {st : St} (h : f9m P G N d act K st) : ∃ st' rd wr, K st' rd wr ∧ Loc P G N V (c80 P G N d act) st st' rd wr := by
  cases act with
  | op i =>
    simp only [f9m] at h
    split at h
    · rename_i r hr
      obtain ⟨e1, e2, e3, e4⟩ := a36 _ _ _ r hr
      refine ⟨_, _, _, h, e1, e2, fun st2 _ g1 K2 hK => ?_⟩
      obtain ⟨st2', q1, q2, q3, _⟩ := e4 st2 g1 (fun t ht => by simp at ht)
      simp only [c80, q1]
      exact hK st2' q2 q3
    · exact h.elim
  | call f args tys =>
    simp only [f9m] at h
    obtain ⟨r1, r2, r3, res, h1, h2, hA, hn, h3, hsw, hK⟩ := h
    obtain ⟨a1, a2, a3, a4⟩ := a36 _ _ _ r1 h1
    obtain ⟨b1, b2, b3, b4⟩ := a36 _ _ _ r2 h2
    obtain ⟨c1, c2, c3, c4⟩ := a36 _ _ _ r3 h3
    have hlt : ∀ t, t ∈ r1.rd ++ r2.rd ++ r2.wr ++ r3.rd ∨ t ∈ (if a0w res then r1.wr ++ r3.wr else r1.wr ++ r2.wr ++ r3.wr) → t < N := fun t ht => by
      have : t ∈ r1.rd ∨ t ∈ r2.rd ∨ t ∈ r2.wr ∨ t ∈ r3.rd ∨ t ∈ r1.wr ∨ t ∈ r3.wr := by
        rcases ht with ht | ht
        · simp only [List.mem_append] at ht; rcases ht with ((ht | ht) | ht) | ht <;> simp [ht]
        · split at ht <;> simp only [List.mem_append] at ht
          · rcases ht with ht | ht <;> simp [ht]
          · rcases ht with (ht | ht) | ht <;> simp [ht]
      rcases this with ht | ht | ht | ht | ht | ht
      · exact a1 t (.inl ht)
      · exact b1 t (.inl ht)
      · exact b1 t (.inr ht)
      · exact c1 t (.inl ht)
      · exact a1 t (.inr ht)
      · exact c1 t (.inr ht)
    refine ⟨_, _, _, hK, hlt, fun t ht hnw => ?_, fun st2 _ g K2 hK2 => ?_⟩
    · by_cases hni : a0w res = true
      · rw [if_pos hni] at hnw c2
        simp only [List.mem_append, not_or] at hnw
        exact ((a2 t ht hnw.1).trans (a2y _ ht)).trans (c2 t ht hnw.2)
      · rw [if_neg hni] at hnw c2
        simp only [List.mem_append, not_or] at hnw
        exact (((a2 t ht hnw.1.1).trans (b2 t ht hnw.1.2)).trans (a2y _ ht)).trans (c2 t ht hnw.2)
    · have w1 : ∀ t, t ∈ r1.wr → agr st st2 t := fun t ht => g t (.inr (by split <;> simp [ht]))
      have w3 : ∀ t, t ∈ r3.wr → agr st st2 t := fun t ht => g t (.inr (by split <;> simp [ht]))
      have gr : ∀ t, (t ∈ r1.rd ∨ t ∈ r2.rd ∨ t ∈ r2.wr ∨ t ∈ r3.rd) → agr st st2 t := fun t ht => g t (.inl (by simp only [List.mem_append]; rcases ht with ht | ht | ht | ht <;> simp [ht]))
      obtain ⟨s1, p1, p2, p3, p4⟩ := a4 st2 (fun t ht => ht.elim (fun ht => gr t (.inl ht)) (w1 t)) (fun t ht => by simp at ht)
      have k1 : ∀ t, t < N → agr st st2 t → agr r1.st s1 t := fun t ht hg => by
        by_cases hw : t ∈ r1.wr
        · exact p2 t hw
        · exact ((a2 t ht hw).symm.trans hg).trans (p3 t ht hw)
      obtain ⟨s2, q1, q2, q3, q4⟩ := b4 s1 (fun t ht => k1 t (b1 t ht) (gr t (ht.elim (fun h => .inr (.inl h)) fun h => .inr (.inr (.inl h))))) p4
      have k2 : ∀ t, t < N → agr st st2 t → agr r2.st s2 t := fun t ht hg => by
        by_cases hw : t ∈ r2.wr
        · exact q2 t hw
        · exact ((b2 t ht hw).symm.trans (k1 t ht hg)).trans (q3 t ht hw)
      have hpre : a7b N args.length s2 = a7b N args.length r2.st := by
        unfold a7b
        apply List.map_congr_left
        intro i hi
        exact q4 _ (hsw i (by simpa using hi))
      by_cases hni : a0w res = true
      · rw [if_pos hni] at c2 c4 h3 hK2
        obtain ⟨s3, t1, t2, t3, _⟩ := c4 (s1.clear N) (fun t ht => by
          have htN := c1 t ht
          have := ht.elim (fun h => gr t (.inr (.inr (.inr h)))) (w3 t)
          exact ((a2y _ htN).symm.trans (k1 t htN this)).trans (a2y _ htN)) (fun t ht => by simp at ht)
        refine ⟨s1, s2, res, s3, p1, q1, by rw [hpre]; exact hA, hn, by rw [if_pos hni]; exact t1, hK2 s3 (fun t ht => ?_) fun t ht hnw => ?_⟩
        · by_cases hw : t ∈ r3.wr
          · exact t2 t hw
          · have hw1 : t ∈ r1.wr := by simpa [hw] using ht
            have htN := a1 t (.inr hw1)
            exact ((c2 t htN hw).symm.trans (((a2y _ htN).symm.trans (p2 t hw1)).trans (a2y _ htN))).trans (t3 t htN hw)
        · simp only [List.mem_append, not_or] at hnw
          exact ((p3 t ht hnw.1).trans (a2y _ ht)).trans (t3 t ht hnw.2)
      · rw [if_neg hni] at c2 c4 h3 hK2
        obtain ⟨s3, t1, t2, t3, _⟩ := c4 (s2.clear N) (fun t ht => by
          have htN := c1 t ht
          have := ht.elim (fun h => gr t (.inr (.inr (.inr h)))) (w3 t)
          exact ((a2y _ htN).symm.trans (k2 t htN this)).trans (a2y _ htN)) (fun t ht => by simp at ht)
        refine ⟨s1, s2, res, s3, p1, q1, by rw [hpre]; exact hA, hn, by rw [if_neg hni]; exact t1, hK2 s3 (fun t ht => ?_) fun t ht hnw => ?_⟩
        · by_cases hw : t ∈ r3.wr
          · exact t2 t hw
          · have hg : agr st st2 t := by
              rcases (by simpa [hw] using ht : t ∈ r1.wr ∨ t ∈ r2.wr) with h | h
              · exact w1 t h
              · exact gr t (.inr (.inr (.inl h)))
            have htN : t < N := by
              rcases (by simpa [hw] using ht : t ∈ r1.wr ∨ t ∈ r2.wr) with h | h
              · exact a1 t (.inr h)
              · exact b1 t (.inr h)
            exact ((c2 t htN hw).symm.trans (((a2y _ htN).symm.trans (k2 t htN hg)).trans (a2y _ htN))).trans (t3 t htN hw)
        · simp only [List.mem_append, not_or] at hnw
          exact (((p3 t ht hnw.1.1).trans (q3 t ht hnw.1.2)).trans (a2y _ ht)).trans (t3 t ht hnw.2)
  | callx cv args lay tys => exact h.elim
  | nilq T x yT => exact h.elim
  | bad o => exact h.elim
end Go.Ideal
end
section
set_option linter.unusedVariables false
set_option linter.unusedSimpArgs false
namespace Go.Ideal
open Classical
def d5f (o : Oper) : List Nat := (o.after.toList.filter (Region.binds .any)).map (·.on)
def e8w : List (List Nat) → List (List Nat) → List (List Nat)
  | [], acc => acc
  | a :: rest, acc => e8w rest (acc ++ [a ++ a.flatMap fun k => acc.getD k []])
def f09 (aft anc : List (List Nat)) : Bool := decide (aft.length = anc.length) && (List.range aft.length).all fun j =>
  (aft.getD j []).all (fun k => decide (k < j)) && (anc.getD j []).all fun k => (aft.getD j []).contains k || (aft.getD j []).any fun m => (anc.getD m []).contains k
def f00 (x y : List Nat × List Nat) : Bool := (x.2.all fun t => !(y.1.contains t) && !(y.2.contains t)) && y.2.all fun t => !(x.1.contains t)
def c9d (aft : List (List Nat)) (fps : List (List Nat × List Nat)) : Bool :=
  let anc := e8w aft []
  f09 aft anc && (List.range fps.length).all fun j => (List.range j).all fun i => (anc.getD j []).contains i || f00 (fps.getD i ([], [])) (fps.getD j ([], []))
inductive Anc (aft : List (List Nat)) : Nat → Nat → Prop where
  | base {k i : Nat} : k ∈ aft.getD i [] → Anc aft k i
  | step {k m i : Nat} : Anc aft k m → m ∈ aft.getD i [] → Anc aft k i
theorem d8y {aft anc : List (List Nat)} (h : f09 aft anc = true) : ∀ j, j < aft.length → (∀ k, k ∈ aft.getD j [] → k < j) ∧ ∀ k, k ∈ anc.getD j [] → Anc aft k j := by
  simp only [f09, Bool.and_eq_true, List.all_eq_true, decide_eq_true_eq, Bool.or_eq_true, List.any_eq_true, List.mem_range] at h
  intro j
  induction j using Nat.strongRecOn with
  | _ j ih =>
    intro hj
    obtain ⟨h1, h2⟩ := h.2 j hj
    refine ⟨h1, fun k hk => ?_⟩
    rcases h2 k hk with h3 | ⟨m, hm, h3⟩
    · exact .base (by simpa using h3)
    · exact .step ((ih m (h1 m hm) (Nat.lt_trans (h1 m hm) hj)).2 k (by simpa using h3)) hm
def dCh (P : Program) (G : Nat → Option Value) (N : Nat) (V : List (Nat × Nat)) : List AO → List (List Nat × List Nat) → (St → List (List Nat × List Nat) → Prop) → St → Prop
  | [], fps, K, st => K st fps
  | io :: rest, fps, K, st => ∃ st' rd wr, Loc P G N V (b60 P G N io) st st' rd wr ∧ b4q V st' ∧ dCh P G N V rest (fps ++ [(rd, wr)]) K st'
def f8t (P : Program) (G : Nat → Option Value) (N : Nat) (ios : List AO) (aft : List (List Nat)) (K : St → Prop) (st : St) : Prop :=
  ∃ V : List (Nat × Nat), (∀ p ∈ V, p.1 < N) ∧ b4q V st ∧ dCh P G N V ios [] (fun stn fps => c9d aft fps = true ∧ ∀ st', (∀ t, t < N → agr stn st' t) → K st') st
theorem d5i {P : Program} {G : Nat → Option Value} {N : Nat} {V : List (Nat × Nat)} : ∀ (is : List AO) (fps : List (List Nat × List Nat)) (K : St → List (List Nat × List Nat) → Prop) (st : St), b4q V st → dCh P G N V is fps K st →
    ∃ (S : Nat → St) (fp : List (List Nat × List Nat)), S 0 = st ∧ fp.length = is.length ∧ K (S is.length) (fps ++ fp) ∧ (∀ i, b4q V (S i)) ∧ ∀ i io, is[i]? = some io → Loc P G N V (b60 P G N io) (S i) (S (i + 1)) (fp.getD i ([], [])).1 (fp.getD i ([], [])).2
  | [], fps, K, st, h0, h => ⟨fun _ => st, [], rfl, rfl, by simpa [dCh] using h, fun _ => h0, fun i io hi => by simp at hi⟩
  | io :: is, fps, K, st, h0, h => by
    simp only [dCh] at h
    obtain ⟨st', rd, wr, hL, hI, h1⟩ := h
    obtain ⟨S, fp, e1, e2, e3, e5, e4⟩ := d5i is (fps ++ [(rd, wr)]) K st' hI h1
    refine ⟨fun n => match n with | 0 => st | n + 1 => S n, (rd, wr) :: fp, rfl, by simp [e2], by simpa using e3, fun i => (by
      cases i with
      | zero => exact h0
      | succ i => exact e5 i), fun i io' hi => ?_⟩
    cases i with
    | zero =>
      simp only [List.getElem?_cons_zero, Option.some.injEq] at hi
      subst hi
      simp only [List.getD_cons_zero]
      rw [e1]; exact hL
    | succ i =>
      simp only [List.getD_cons_succ]
      exact e4 i io' (by simpa using hi)
section
variable {P : Program} {G : Nat → Option Value} {N n : Nat} {S : Nat → St} {rd wr : Nat → List Nat}
theorem a6j (hF : ∀ i, i < n → ∀ t, t < N → t ∉ wr i → agr (S i) (S (i + 1)) t) {t : Nat} (ht : t < N) : ∀ (m i : Nat), i ≤ m → m ≤ n → (∀ k, i ≤ k → k < m → t ∉ wr k) → agr (S i) (S m) t
  | 0, i, h1, _, _ => by obtain rfl : i = 0 := by omega
                         exact agr.refl _ _
  | m + 1, i, h1, h2, h3 => by
    by_cases hi : i = m + 1
    · subst hi; exact agr.refl _ _
    · exact (a6j hF ht m i (by omega) (by omega) (fun k hk hk2 => h3 k hk (by omega))).trans (hF m (by omega) t ht (h3 m (by omega) (by omega)))
def h3m (N : Nat) (S : Nat → St) (wr : Nat → List Nat) (L : Nat → Prop) (st : St) : Prop := ∀ t, t < N →
  (∀ j, L j → t ∈ wr j → (∀ k, L k → t ∈ wr k → k ≤ j) → agr (S (j + 1)) st t) ∧ ((∀ j, L j → t ∉ wr j) → agr (S 0) st t)
theorem c99 {p : Nat → Prop} : ∀ (m : Nat), (∃ k, k < m ∧ p k) → ∃ j, j < m ∧ p j ∧ ∀ k, k < m → p k → k ≤ j
  | 0, ⟨k, hk, _⟩ => by omega
  | m + 1, ⟨k, hk, hp⟩ => by
    by_cases hm : p m
    · exact ⟨m, by omega, hm, fun k hk _ => by omega⟩
    · have : k ≠ m := fun h => hm (h ▸ hp)
      obtain ⟨j, h1, h2, h3⟩ := c99 m ⟨k, by omega, hp⟩
      refine ⟨j, by omega, h2, fun k hk hp => ?_⟩
      have : k ≠ m := fun h => hm (h ▸ hp)
      exact h3 k (by omega) hp
theorem e6t (hF : ∀ i, i < n → ∀ t, t < N → t ∉ wr i → agr (S i) (S (i + 1)) t) {L : Nat → Prop} {st : St} (hInv : h3m N S wr L st) (hL : ∀ k, L k → k < n) {i : Nat} (hi : i < n) {t : Nat} (ht : t < N)
    (h1 : ∀ k, L k → t ∈ wr k → k < i) (h2 : ∀ k, k < i → t ∈ wr k → L k) : agr (S i) st t := by
  by_cases hex : ∃ k, k < i ∧ t ∈ wr k
  · obtain ⟨j, e1, e2, e3⟩ := c99 (p := fun k => t ∈ wr k) i hex
    have hj := (hInv t ht).1 j (h2 j e1 e2) e2 (fun k hk hw => e3 k (h1 k hk hw) hw)
    exact (a6j hF ht i (j + 1) (by omega) (by omega) (fun k hk hk2 hw => by have := e3 k hk2 hw; omega)).symm.trans hj
  · have hj := (hInv t ht).2 (fun j hj hw => hex ⟨j, h1 j hj hw, hw⟩)
    exact (a6j hF ht i 0 (by omega) (by omega) (fun k _ hk hw => hex ⟨k, hk, hw⟩)).symm.trans hj
end
theorem d7e {ops : Array Oper} {listed : Array Bool} {i : Nat} (h : i ∈ Region.ready .any ops listed) : i < ops.size ∧ listed.getD i true = false ∧ ∃ o, ops[i]? = some o ∧ ∀ k, k ∈ d5f o → listed.getD k false = true := by
  simp only [Region.ready, List.mem_filter, List.mem_range, Bool.and_eq_true, Bool.not_eq_true'] at h
  obtain ⟨h1, h2, h3⟩ := h
  refine ⟨h1, h2, ops[i], by simp [h1], fun k hk => ?_⟩
  simp only [h1, Array.getElem?_eq_getElem, Option.map_some, Option.getD_some, Array.all_eq_true] at h3
  simp only [d5f, List.mem_map, List.mem_filter] at hk
  obtain ⟨e, ⟨he, hb⟩, rfl⟩ := hk
  obtain ⟨m, hm, rfl⟩ := Array.mem_iff_getElem.1 (Array.mem_toList_iff.1 he)
  have := h3 m hm
  simp only [hb, Bool.not_true, Bool.false_or] at this
  exact this
theorem e6p {ops : Array Oper} {listed : Array Bool} {i : Nat} {o : Oper} (h1 : ops[i]? = some o) (h2 : listed.getD i true = false) (h3 : ∀ k, k ∈ d5f o → listed.getD k false = true) : i ∈ Region.ready .any ops listed := by
  have hlt := (Array.getElem?_eq_some_iff.1 h1).1
  simp only [Region.ready, List.mem_filter, List.mem_range, Bool.and_eq_true, Bool.not_eq_true']
  refine ⟨hlt, h2, ?_⟩
  simp only [h1, Option.map_some, Option.getD_some, Array.all_eq_true]
  intro m hm
  by_cases hb : Region.binds .any o.after[m] = true
  · have := h3 o.after[m].on (by
      simp only [d5f, List.mem_map, List.mem_filter]
      exact ⟨_, ⟨by simp, hb⟩, rfl⟩)
    simp [this]
  · simp [hb]
end Go.Ideal
end
section
set_option linter.unusedVariables false
set_option linter.unusedSimpArgs false
namespace Go.Ideal
open Classical
theorem e20 {x y : List Nat × List Nat} (h : f00 x y = true) : (∀ t, t ∈ x.2 → t ∉ y.1 ∧ t ∉ y.2) ∧ ∀ t, t ∈ y.2 → t ∉ x.1 := by
  simp only [f00, Bool.and_eq_true, List.all_eq_true, Bool.not_eq_true', List.contains_iff_mem] at h
  refine ⟨fun t ht => ?_, fun t ht => ?_⟩
  · have := h.1 t ht
    simpa using this
  · have := h.2 t ht
    simpa using this
theorem e3n {n : Nat} {listed : Array Bool} (hsz : listed.size = n) {i : Nat} (hi : i < n) (h : listed.getD i true = false) :
    ((List.range n).filter fun j => !(listed.setIfInBounds i true).getD j true).length + 1 = ((List.range n).filter fun j => !listed.getD j true).length := by
  have key : ∀ (l : List Nat), l.Nodup → (i ∈ l → ((l.filter fun j => !(listed.setIfInBounds i true).getD j true).length + 1 = (l.filter fun j => !listed.getD j true).length)) ∧ (i ∉ l → ((l.filter fun j => !(listed.setIfInBounds i true).getD j true) = (l.filter fun j => !listed.getD j true))) := by
    intro l
    induction l with
    | nil => intro _; exact ⟨fun h => by simp at h, fun _ => rfl⟩
    | cons x l ih =>
      intro hn
      obtain ⟨hx, hl⟩ := List.nodup_cons.1 hn
      obtain ⟨i1, i2⟩ := ih hl
      by_cases hxi : x = i
      · subst hxi
        refine ⟨fun _ => ?_, fun hc => by simp at hc⟩
        have h1 : (!(listed.setIfInBounds x true).getD x true) = false := by simp [Array.getD_eq_getD_getElem?, Array.getElem?_setIfInBounds, hsz, hi]
        have h2 : (!listed.getD x true) = true := by rw [h]; rfl
        rw [List.filter_cons, List.filter_cons, h1, h2, i2 hx]
        rfl
      · have h1 : (listed.setIfInBounds i true).getD x true = listed.getD x true := by
          simp [Array.getD_eq_getD_getElem?, Array.getElem?_setIfInBounds_ne (Ne.symm hxi)]
        rw [List.filter_cons, List.filter_cons, h1]
        refine ⟨fun hc => ?_, fun hc => ?_⟩
        · have hil : i ∈ l := by rcases List.mem_cons.1 hc with rfl | hc; exact absurd rfl hxi; exact hc
          have := i1 hil
          cases hb : listed.getD x true with
          | true => exact this
          | false => simp only [Bool.not_false, if_true, List.length_cons]; omega
        · have hil : i ∉ l := fun hc2 => hc (List.mem_cons_of_mem _ hc2)
          rw [i2 hil]
  exact (key _ List.nodup_range).1 (List.mem_range.2 hi)
theorem e35 {V : List (Nat × Nat)} {pins : List Nat} {a0 : Act} {E : Env} {P : Program} {G : Nat → Option Value} {N : Nat} {ops : Array Oper} {ios : List AO} {aft : List (List Nat)} {S : Nat → St} {fp : List (List Nat × List Nat)} {K : St → Prop} {Q : Exit → Act → World → Prop}
    (hm : ops.toList.map o3 = ios.map AO.e3) (ha : ops.toList.map d5f = aft) (hok : e3a P N ios = true) (hpin : ∀ io ∈ ios, ∀ t ∈ pins, io.dst ≠ some t) (hG : E.G = G) (hfp : fp.length = ios.length)
    (hVN : ∀ p ∈ V, p.1 < N) (hVS : ∀ i, b4q V (S i)) (hLoc : ∀ i io, ios[i]? = some io → Loc P G N V (b60 P G N io) (S i) (S (i + 1)) (fp.getD i ([], [])).1 (fp.getD i ([], [])).2) (hind : c9d aft fp = true)
    (hfin : ∀ st', (∀ t, t < N → agr (S ios.length) st' t) → K st') (hK : ∀ st' a' w' val' ow', K st' → (∀ t ∈ pins, a'.tmps.getD t undef = a0.tmps.getD t undef) → Sim E N st' a' w' val' ow' → Q .normal a' w') :
    ∀ (fuel : Nat) (listed : Array Bool) {st : St} {a : Act} {w : World} {val : Nat → Value} {ow : Nat → Option Nat}, listed.size = ops.size → ((List.range ops.size).filter fun i => !listed.getD i true).length = fuel →
      (∀ j, listed.getD j false = true → ∀ k, k ∈ aft.getD j [] → listed.getD k false = true) → h3m N S (fun i => (fp.getD i ([], [])).2) (fun j => listed.getD j false = true) st → (∀ t ∈ pins, a.tmps.getD t undef = a0.tmps.getD t undef) → Sim E N st a w val ow → wpAny P .any ops Q fuel listed a w := by
  have hsz : ops.size = ios.length := by have := congrArg List.length hm; simpa using this
  have hasz : aft.length = ios.length := by rw [← ha]; simp [hsz]
  have haft : ∀ i o, ops[i]? = some o → aft.getD i [] = d5f o := fun i o ho => by
    rw [← ha]
    have : ops.toList[i]? = some o := by simpa using ho
    simp [List.getD_eq_getElem?_getD, this]
  simp only [c9d, Bool.and_eq_true, List.all_eq_true, List.mem_range, Bool.or_eq_true] at hind
  obtain ⟨hanc, hpair⟩ := hind
  have hS := d8y hanc
  have hF : ∀ i, i < ios.length → ∀ t, t < N → t ∉ (fp.getD i ([], [])).2 → agr (S i) (S (i + 1)) t := fun i hi t ht hn => by
    exact (hLoc i ios[i] (by simp [hi])).frame t ht hn
  have hdep : ∀ i j, i < j → j < ios.length → (∃ t, (t ∈ (fp.getD i ([], [])).2 ∧ (t ∈ (fp.getD j ([], [])).1 ∨ t ∈ (fp.getD j ([], [])).2)) ∨ (t ∈ (fp.getD j ([], [])).2 ∧ t ∈ (fp.getD i ([], [])).1)) → Anc aft i j := fun i j hij hj ⟨t, ht⟩ => by
    rcases hpair j (by omega) i hij with h1 | h1
    · exact (hS j (by omega)).2 i (by simpa using h1)
    · obtain ⟨d1, d2⟩ := e20 h1
      rcases ht with ⟨h2, h3⟩ | ⟨h2, h3⟩
      · exact (h3.elim (d1 t h2).1 (d1 t h2).2).elim
      · exact (d2 t h2 h3).elim
  intro fuel
  induction fuel with
  | zero =>
    intro listed st a w val ow hls hcount hclosed hInv hp hs
    have hall : ∀ i, i < ops.size → listed.getD i true = true := fun i hi => by
      have h0 := List.eq_nil_of_length_eq_zero hcount
      rw [List.filter_eq_nil_iff] at h0
      have := h0 i (List.mem_range.2 hi)
      simpa using this
    have hlast : Q .normal a w := by
      refine hK st a w val ow (hfin st fun t ht => ?_) hp hs
      have hLi : ∀ i, i < ios.length → listed.getD i false = true := fun i hi => by
        have := hall i (by omega)
        simp only [Array.getD_eq_getD_getElem?] at this ⊢
        have hl : i < listed.size := by omega
        simpa [hl] using this
      by_cases hex : ∃ k, k < ios.length ∧ t ∈ (fp.getD k ([], [])).2
      · obtain ⟨j, e1, e2, e3⟩ := c99 (p := fun k => t ∈ (fp.getD k ([], [])).2) _ hex
        have hout : ∀ k, listed.getD k false = true → k < ios.length := fun k hk => by
          by_cases hkl : k < listed.size
          · omega
          · simp [Array.getD_eq_getD_getElem?, hkl] at hk
        have hj := (hInv t ht).1 j (hLi j e1) e2 (fun k hk hw => e3 k (hout k hk) hw)
        exact (a6j (n := ios.length) hF ht ios.length (j + 1) (by omega) (Nat.le_refl _) (fun k hk hk2 hw => by have := e3 k hk2 hw; omega)).symm.trans hj
      · have hout : ∀ k, listed.getD k false = true → k < ios.length := fun k hk => by
          by_cases hkl : k < listed.size
          · omega
          · simp [Array.getD_eq_getD_getElem?, hkl] at hk
        have hj := (hInv t ht).2 (fun j hj hw => hex ⟨j, hout j hj, hw⟩)
        exact (a6j (n := ios.length) hF ht ios.length 0 (by omega) (Nat.le_refl _) (fun k _ hk hw => hex ⟨k, hk, hw⟩)).symm.trans hj
    refine ⟨?_, hlast⟩
    cases hr : Region.ready .any ops listed with
    | nil => rfl
    | cons i l =>
      obtain ⟨h1, h2, _⟩ := d7e (by rw [hr]; simp : i ∈ Region.ready .any ops listed)
      rw [hall i h1] at h2; cases h2
  | succ fuel ih =>
    intro listed st a w val ow hls hcount hclosed hInv hp hs
    refine ⟨fun hr => ?_, fun i hi => ?_⟩
    · -- the first that isn't listed is ready
      exfalso
      have hex : ∃ i, i < ops.size ∧ listed.getD i true = false := by
        cases hf : (List.range ops.size).filter fun i => !listed.getD i true with
        | nil => rw [hf] at hcount; simp at hcount
        | cons x l =>
          have : x ∈ (List.range ops.size).filter fun i => !listed.getD i true := by rw [hf]; simp
          simp only [List.mem_filter, List.mem_range, Bool.not_eq_true'] at this
          exact ⟨x, this⟩
      have hmin : ∃ i, (i < ops.size ∧ listed.getD i true = false) ∧ ∀ k, k < i → ¬ (k < ops.size ∧ listed.getD k true = false) := by
        obtain ⟨i, hi⟩ := hex
        induction i using Nat.strongRecOn with
        | _ i ihm =>
          by_cases hx : ∃ k, k < i ∧ (k < ops.size ∧ listed.getD k true = false)
          · obtain ⟨k, h1, h2⟩ := hx; exact ihm k h1 h2
          · exact ⟨i, hi, fun k h1 h2 => hx ⟨k, h1, h2⟩⟩
      obtain ⟨i, ⟨h1, h2⟩, h3⟩ := hmin
      have : i ∈ Region.ready .any ops listed := e6p (o := ops[i]) (by simp [h1]) h2 (fun k hk => by
        have hk' : k ∈ aft.getD i [] := by rw [haft i ops[i] (by simp [h1])]; exact hk
        have hki := (hS i (by omega)).1 k hk'
        have := h3 k hki
        have hkl : k < listed.size := by omega
        simp only [Array.getD_eq_getD_getElem?] at this ⊢
        simp [hkl, show k < ops.size by omega] at this ⊢
        exact this)
      rw [hr] at this; simp at this
    · obtain ⟨h1, h2, o, ho, h3⟩ := d7e hi
      have hin : i < ios.length := by omega
      have hio : ios[i]? = some ios[i] := by simp [hin]
      have hmi : o3 o = ios[i].e3 := by
        have h4 : (ops.toList.map o3)[i]? = (ios.map AO.e3)[i]? := by rw [hm]
        have h5 : ops.toList[i]? = some o := by simpa using ho
        simp only [List.getElem?_map, h5, hio, Option.map_some, Option.some.injEq] at h4
        exact h4
      have hnL : ¬ listed.getD i false = true := by
        have hl : i < listed.size := by omega
        simp only [Array.getD_eq_getD_getElem?] at h2 ⊢
        simp [hl] at h2 ⊢
        exact h2
      have hLn : ∀ k, listed.getD k false = true → k < ios.length := fun k hk => by
        by_cases hkl : k < listed.size
        · omega
        · simp [Array.getD_eq_getD_getElem?, hkl] at hk
      have hancL : ∀ j k, Anc aft k j → (∀ m, m ∈ aft.getD j [] → listed.getD m false = true) → listed.getD k false = true := fun j k hA => by
        induction hA with
        | base hk => intro hc; exact hc _ hk
        | step hA hmem ihA => intro hc; exact ihA (fun m hm2 => hclosed _ (hc _ hmem) m hm2)
      have hai : ∀ m, m ∈ aft.getD i [] → listed.getD m false = true := fun m hm2 => h3 m (by rw [← haft i o ho]; exact hm2)
      have hL := hLoc i ios[i] hio
      have hbef : ∀ t, (t ∈ (fp.getD i ([], [])).1 ∨ t ∈ (fp.getD i ([], [])).2) → ∀ k, listed.getD k false = true → t ∈ (fp.getD k ([], [])).2 → k < i := fun t ht k hk hw => by
        rcases Nat.lt_trichotomy k i with h | h | h
        · exact h
        · subst h; exact absurd hk hnL
        · have hA := hdep i k h (hLn k hk) ⟨t, by
            rcases ht with ht | ht
            · exact .inr ⟨hw, ht⟩
            · exact .inl ⟨ht, .inr hw⟩⟩
          exact absurd (hancL k i hA (hclosed k hk)) hnL
      have hbef2 : ∀ t, (t ∈ (fp.getD i ([], [])).1 ∨ t ∈ (fp.getD i ([], [])).2) → ∀ k, k < i → t ∈ (fp.getD k ([], [])).2 → listed.getD k false = true := fun t ht k hk hw =>
        hancL i k (hdep k i hk hin ⟨t, .inl ⟨hw, ht⟩⟩) hai
      have hst : ∀ t, (t ∈ (fp.getD i ([], [])).1 ∨ t ∈ (fp.getD i ([], [])).2) → agr (S i) st t := fun t ht =>
        e6t (n := ios.length) hF hInv hLn hin (hL.lt t ht) (hbef t ht) (hbef2 t ht)
      have hIV : b4q V st := fun p hp => by
        have hag : ∃ m, agr (S m) st p.1 := by
          by_cases hex : ∃ k, k < ios.length ∧ listed.getD k false = true ∧ p.1 ∈ (fp.getD k ([], [])).2
          · obtain ⟨j, e1, e2, e3⟩ := c99 (p := fun k => listed.getD k false = true ∧ p.1 ∈ (fp.getD k ([], [])).2) _ hex
            exact ⟨j + 1, (hInv p.1 (hVN p hp)).1 j e2.1 e2.2 (fun k hk hw => e3 k (hLn k hk) ⟨hk, hw⟩)⟩
          · exact ⟨0, (hInv p.1 (hVN p hp)).2 (fun j hj hw => hex ⟨j, hLn j hj, hj, hw⟩)⟩
        obtain ⟨m, hm1, hm2⟩ := hag
        have := hVS m p hp
        rw [← hm1, ← hm2] at this
        exact this
      have hstep := hL.loc st hIV hst (fun st2 => h3m N S (fun i => (fp.getD i ([], [])).2) (fun j => (listed.setIfInBounds i true).getD j false = true) st2) (fun st2' g1 g2 => by
        have hL' : ∀ j, (listed.setIfInBounds i true).getD j false = true ↔ j = i ∨ listed.getD j false = true := fun j => by
          by_cases hj : j = i
          · subst hj
            have hl : j < listed.size := by omega
            simp [Array.getD_eq_getD_getElem?, Array.getElem?_setIfInBounds, hl]
          · simp [Array.getD_eq_getD_getElem?, Array.getElem?_setIfInBounds_ne (Ne.symm hj), hj]
        intro t ht
        by_cases hw : t ∈ (fp.getD i ([], [])).2
        · refine ⟨fun j hj hjw hmax => ?_, fun hn => absurd hw (hn i ((hL' i).2 (.inl rfl)))⟩
          have hij := hmax i ((hL' i).2 (.inl rfl)) hw
          rcases (hL' j).1 hj with rfl | hj2
          · exact g1 t hw
          · have := hbef t (.inr hw) j hj2 hjw; omega
        · refine ⟨fun j hj hjw hmax => ?_, fun hn => ?_⟩
          · rcases (hL' j).1 hj with rfl | hj2
            · exact absurd hjw hw
            · exact ((hInv t ht).1 j hj2 hjw (fun k hk hkw => hmax k ((hL' k).2 (.inr hk)) hkw)).trans (g2 t ht hw)
          · exact ((hInv t ht).2 (fun j hj => hn j ((hL' j).2 (.inr hj)))).trans (g2 t ht hw))
      have hokio := List.all_eq_true.1 hok ios[i] (by simp)
      have hcl' : ∀ j, (listed.setIfInBounds i true).getD j false = true → ∀ k, k ∈ aft.getD j [] → (listed.setIfInBounds i true).getD k false = true := fun j hj k hk => by
        have mono : listed.getD k false = true → (listed.setIfInBounds i true).getD k false = true := fun h => by
          by_cases hki : k = i
          · subst hki; exact absurd h hnL
          · simp only [Array.getD_eq_getD_getElem?, Array.getElem?_setIfInBounds_ne (Ne.symm hki)] at h ⊢
            exact h
        by_cases hji : j = i
        · subst hji; exact mono (hai k hk)
        · refine mono (hclosed j ?_ k hk)
          simpa [Array.getD_eq_getD_getElem?, Array.getElem?_setIfInBounds_ne (Ne.symm hji)] using hj
      have hcnt := e3n hls h1 h2
      have hrun := c9c (K' := fun a' w' => wpAny P .any ops Q fuel (listed.setIfInBounds i true) a' w') (Q := Q) hs hG hm hmi hokio hstep (fun st' a' w' val' ow' hk hkp hs' =>
        ih (listed.setIfInBounds i true) (by simpa using hls) (by omega) hcl' hk (fun t ht => (hkp t (by
          have e1 : o.dst = ios[i].dst := by have := hmi; simp only [o3, AO.e3, Prod.mk.injEq] at this; exact this.1
          rw [e1]; exact hpin _ (by simp) t ht)).trans (hp t ht)) hs')
      unfold wpOp
      rw [ho]
      simp only
      split
      · rename_i hw; rw [if_pos hw] at hrun; exact .inl hrun
      · rename_i hw; rw [if_neg hw] at hrun; exact hrun
theorem AWp.draw {pins : List Nat} {P : Program} {G : Nat → Option Value} {N : Nat} {id : Nat} {ops : Array Oper} {ios : List AO} {aft : List (List Nat)} {Q : Exit → St → Prop} {st : St} (hord : P.follows .mixedOrders = true) (hm : ops.toList.map o3 = ios.map AO.e3) (ha : ops.toList.map d5f = aft) (hok : e3a P N ios = true) (hpin : ∀ io ∈ ios, ∀ t ∈ pins, io.dst ≠ some t)
    (h : f8t P G N ios aft (Q .normal) st) : AWp P G N pins (.region id ops true) Q st := fun E a w val ow hG hs => by
  obtain ⟨V, hVN, hV0, h⟩ := h
  obtain ⟨S, fp, e1, e2, ⟨e3, e4⟩, e6, e5⟩ := d5i ios [] _ st hV0 h
  rw [List.nil_append] at e3
  refine wp_region_any hord ?_
  have hs2 : Sim E N st a { w with drawn := w.drawn + 1 } val ow := hs.world rfl rfl rfl rfl
  have hsz : ops.size = ios.length := by have := congrArg List.length hm; simpa using this
  have hrep : ∀ (j : Nat) (d : Bool), (Array.replicate ops.size false).getD j d = true → ¬ j < ops.size := fun j d h hj => by
    simp [Array.getD_eq_getD_getElem?, hj] at h
  refine e35 (a0 := a) hm ha hok hpin hG e2 hVN e6 e5 e3 (K := Q .normal) e4 (fun st' a' w' val' ow' hk hp hs' => ⟨hp, st', val', ow', hk, hs'⟩) ops.size _ (by simp) ?_ (fun j hj => ?_) (fun t ht => ⟨fun j hj => ?_, fun _ => by rw [e1]; exact agr.refl _ _⟩) (fun _ _ => rfl) hs2
  · rw [List.filter_eq_self.2 (fun i hi => by
      have hi' := List.mem_range.1 hi
      simp [Array.getD_eq_getD_getElem?, hi'])]
    simp
  · exfalso
    have h1 := hrep j false hj
    simp [Array.getD_eq_getD_getElem?, h1] at hj
  · exfalso
    have h1 := hrep j false hj
    simp [Array.getD_eq_getD_getElem?, h1] at hj
end Go.Ideal
end
section
set_option linter.unusedVariables false
set_option linter.unusedSimpArgs false
namespace Go.Ideal
inductive EC where
  | skip
  | reg (ops : List (Option Nat × Op × Option (Nat × Bool)))
  | draw (ops : List (Option Nat × Op × Option (Nat × Bool))) (aft : List (List Nat))
  | seq (a b : EC)
  | cond (c : Operand) (a b : EC)
  | block (id : Nat) (a : EC)
  | loop (a : EC)
  | scope (a : EC)
  | exit (id : Nat)
  | label (l : Nat)
  | ret
  | other
def b4y : Code → EC
  | .skip => .skip
  | .region _ ops false => .reg (ops.toList.map o3)
  | .region _ ops true => .draw (ops.toList.map o3) (ops.toList.map d5f)
  | .seq a b => .seq (b4y a) (b4y b)
  | .cond c a b => .cond c (b4y a) (b4y b)
  | .block id a => .block id (b4y a)
  | .loop a => .loop (b4y a)
  | .scope a => .scope (b4y a)
  | .exit id => .exit id
  | .label l => .label l
  | .ret => .ret
  | _ => .other
inductive IC where
  | skip
  | reg (ios : List AO)
  | draw (ios : List AO) (aft : List (List Nat))
  | seq (a b : IC)
  | cond (c : X) (a b : IC)
  | block (id : Nat) (a : IC)
  | loop (a : IC)
  | scope (a : IC)
  | exit (id : Nat)
  | label (l : Nat)
  | ret
def IC.ec : IC → EC
  | .skip => .skip
  | .reg ios => .reg (ios.map AO.e3)
  | .draw ios aft => .draw (ios.map AO.e3) aft
  | .seq a b => .seq a.ec b.ec
  | .cond c a b => .cond c.op a.ec b.ec
  | .block id a => .block id a.ec
  | .loop a => .loop a.ec
  | .scope a => .scope a.ec
  | .exit id => .exit id
  | .label l => .label l
  | .ret => .ret
def IC.ok (P : Program) (N : Nat) : IC → Bool
  | .reg ios => e3a P N ios
  | .draw ios _ => e3a P N ios
  | .seq a b => a.ok P N && b.ok P N
  | .cond _ a b => a.ok P N && b.ok P N
  | .block _ a => a.ok P N
  | .loop a => a.ok P N
  | .scope a => a.ok P N
  | _ => true
def g4r (pins : List Nat) (ios : List AO) : Bool := ios.all fun io => match io.dst with
  | some d => !pins.contains d
  | none => true
def IC.pin (pins : List Nat) : IC → Bool
  | .reg ios => g4r pins ios
  | .draw ios _ => g4r pins ios
  | .seq a b => a.pin pins && b.pin pins
  | .cond _ a b => a.pin pins && b.pin pins
  | .block _ a => a.pin pins
  | .loop a => a.pin pins
  | .scope a => a.pin pins
  | _ => true
theorem c87 {pins : List Nat} {ios : List AO} (h : g4r pins ios = true) : ∀ io ∈ ios, ∀ t ∈ pins, io.dst ≠ some t := fun io hi t ht he => by
  have := List.all_eq_true.1 h io hi
  rw [he] at this
  simp only [Bool.not_eq_true', List.contains_iff_mem] at this
  simp [ht] at this
theorem IC.pin_nil : ∀ ic : IC, ic.pin [] = true
  | .reg ios | .draw ios _ => by
    simp only [IC.pin, g4r, List.all_eq_true]
    intro io _
    cases io.dst <;> simp
  | .seq a b | .cond _ a b => by simp [IC.pin, pin_nil a, pin_nil b]
  | .block _ a | .loop a | .scope a => by simp [IC.pin, pin_nil a]
  | .skip | .exit _ | .label _ | .ret => rfl
def b2y (Q : Exit → St → Prop) : Exit → St → Prop
  | .goto _, _ => False
  | e, st => Q e st
theorem AWp.scope {pins : List Nat} {P : Program} {G : Nat → Option Value} {N : Nat} {st : St} {c : Code} {Q : Exit → St → Prop} (h : AWp P G N pins c (b2y Q) st) : AWp P G N pins (.scope c) Q st := fun E a w val ow hG hs =>
  wp_scope_straight (wp_mono (h E a w val ow hG hs) fun e a' w' ⟨hp, st', val', ow', hq, hs'⟩ => by
    cases e <;> first | exact hq.elim | exact ⟨hp, st', val', ow', hq, hs'⟩)
def AW (P : Program) (G : Nat → Option Value) (N : Nat) : IC → (Exit → St → Prop) → St → Prop
  | .skip, Q, st => Q .normal st
  | .reg ios, Q, st => b6q P G N ios (Q .normal) st
  | .draw ios aft, Q, st => f8t P G N ios aft (Q .normal) st
  | .seq a b, Q, st => AW P G N a (c50 (AW P G N b Q) Q) st
  | .cond c a b, Q, st => match e4z st N c with
    | some true => AW P G N a Q st
    | some false => AW P G N b Q st
    | none => False
  | .block id a, Q, st => AW P G N a (b99 id Q) st
  | .loop a, Q, st => ∃ (ι : Type) (I : ι → St → Prop) (μ : ι → Nat) (i0 : ι), I i0 st ∧ ∀ i st, I i st → AW P G N a (c50 (fun st' => ∃ i', I i' st' ∧ μ i' < μ i) Q) st
  | .scope a, Q, st => AW P G N a (b2y Q) st
  | .exit id, Q, st => Q (.exit id) st
  | .label _, Q, st => Q .normal st
  | .ret, Q, st => Q .ret st
theorem e1n {pins : List Nat} {P : Program} {G : Nat → Option Value} {N : Nat} (hord : P.follows .mixedOrders = true) : ∀ (ic : IC) (c : Code) (Q : Exit → St → Prop) (st : St), b4y c = ic.ec → ic.ok P N = true → ic.pin pins = true → AW P G N ic Q st → AWp P G N pins c Q st := by
  intro ic
  induction ic with
  | skip =>
    intro c Q st he hok hpn h
    cases c <;> simp only [b4y, IC.ec, reduceCtorEq] at he
    · exact AWp.skip h
    · rename_i id ops d; cases d <;> simp [b4y] at he
  | reg ios =>
    intro c Q st he hok hpn h
    cases c <;> simp only [b4y, IC.ec, reduceCtorEq] at he
    rename_i id ops d
    cases d <;> simp only [b4y, EC.reg.injEq, reduceCtorEq] at he
    exact AWp.region (l := ops.toList) he hok (c87 hpn) h
  | draw ios aft =>
    intro c Q st he hok hpn h
    cases c <;> simp only [b4y, IC.ec, reduceCtorEq] at he
    rename_i id ops d
    cases d <;> simp only [b4y, EC.draw.injEq, reduceCtorEq] at he
    exact AWp.draw hord he.1 he.2 hok (c87 hpn) h
  | seq a b iha ihb =>
    intro c Q st he hok hpn h
    cases c <;> simp only [b4y, IC.ec, reduceCtorEq] at he
    · rename_i id ops d; cases d <;> simp [b4y] at he
    · rename_i x y
      simp only [EC.seq.injEq] at he
      simp only [IC.ok, IC.pin, Bool.and_eq_true] at hok hpn
      exact AWp.seq ((iha x _ st he.1 hok.1 hpn.1 h).mono fun e st' hq => by
        cases e <;> first | exact ihb y _ st' he.2 hok.2 hpn.2 hq | exact hq)
  | cond cx a b iha ihb =>
    intro c Q st he hok hpn h
    cases c <;> simp only [b4y, IC.ec, reduceCtorEq] at he
    · rename_i id ops d; cases d <;> simp [b4y] at he
    · rename_i c' x y
      simp only [EC.cond.injEq] at he
      obtain ⟨rfl, h1, h2⟩ := he
      simp only [IC.ok, IC.pin, Bool.and_eq_true] at hok hpn
      simp only [AW] at h
      split at h
      · rename_i hc; exact AWp.cond hc (iha x _ st h1 hok.1 hpn.1 h)
      · rename_i hc; exact AWp.cond hc (ihb y _ st h2 hok.2 hpn.2 h)
      · exact h.elim
  | block id a iha =>
    intro c Q st he hok hpn h
    cases c <;> simp only [b4y, IC.ec, reduceCtorEq] at he
    · rename_i id ops d; cases d <;> simp [b4y] at he
    · rename_i id' x
      simp only [EC.block.injEq] at he
      obtain ⟨rfl, h1⟩ := he
      exact AWp.block (iha x _ st h1 hok hpn h)
  | loop a iha =>
    intro c Q st he hok hpn h
    cases c <;> simp only [b4y, IC.ec, reduceCtorEq] at he
    · rename_i id ops d; cases d <;> simp [b4y] at he
    · rename_i x
      simp only [EC.loop.injEq] at he
      obtain ⟨ι, I, μ, i0, h0, hround⟩ := h
      exact AWp.loop I μ i0 h0 fun i st' hI => iha x _ st' he hok hpn (hround i st' hI)
  | scope a iha =>
    intro c Q st he hok hpn h
    cases c <;> simp only [b4y, IC.ec, reduceCtorEq] at he
    · rename_i id ops d; cases d <;> simp [b4y] at he
    · rename_i x
      simp only [EC.scope.injEq] at he
      exact AWp.scope (iha x _ st he hok hpn h)
  | exit id =>
    intro c Q st he hok hpn h
    cases c <;> simp only [b4y, IC.ec, reduceCtorEq] at he
    · rename_i id ops d; cases d <;> simp [b4y] at he
    · simp only [EC.exit.injEq] at he; subst he; exact AWp.exit h
  | label l =>
    intro c Q st he hok hpn h
    cases c <;> simp only [b4y, IC.ec, reduceCtorEq] at he
    · rename_i id ops d; cases d <;> simp [b4y] at he
    · exact AWp.label h
  | ret =>
    intro c Q st he hok hpn h
    cases c <;> simp only [b4y, IC.ec, reduceCtorEq] at he
    · rename_i id ops d; cases d <;> simp [b4y] at he
    · exact AWp.ret h
end Go.Ideal
end
