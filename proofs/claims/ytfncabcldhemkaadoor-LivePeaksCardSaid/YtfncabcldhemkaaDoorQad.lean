/- Part Qad of the proof: a machine with trees for values, its soundness, and walks on it. -/
import Derived.Test.YtfncabcldhemkaaDoorQac
import Derived.Scope
set_option linter.unusedVariables false
set_option linter.unusedSimpArgs false
section
namespace Go.Ideal
open Classical
def d7p (P : Program) (G : GG) (N : Nat) (d : Option Nat) (act : IAct) (K : St -> List Nat -> List Nat -> Prop) (st : St) : Prop := match act with
 | .op i => match (a07 G N d i).runF N st [] with
  | some r => K r.st r.rd r.wr
  | none => False
 | .call f args _ => ∃ r1 r2 r3 res, (a4z N (N + 2) args).runF N st [] = some r1 /\ (a3e N (N + 2) args).runF N r1.st r1.sw = some r2 /\ ACalls P G f (a4q N args.length r2.st) res /\ a0r res = true /\
   (b9b N d res).runF N ((if a0x res then r1.st else r2.st).clear N) [] = some r3 /\ (∀ i, i < args.length -> N + 2 + i ∈ r2.sw) /\
   K r3.st (r1.rd ++ r2.rd ++ r2.wr ++ r3.rd) (if a0x res then r1.wr ++ r3.wr else r1.wr ++ r2.wr ++ r3.wr)
 | .callx _ _ _ _ => False
 | .nilq _ _ _ => False
 | .bad _ => False
def b7v : AV -> Bool
 | .var _ => true
 | _ => false
def a6v (V : List (Nat × Nat)) (st : St) : Prop := ∀ p ∈ V, b7v (st.s p.1) = true /\ st.ep p.1 = p.2
structure Loc (P : Program) (G : GG) (N : Nat) (V : List (Nat × Nat)) (step : (St -> Prop) -> St -> Prop) (st st' : St) (rd wr : List Nat) : Prop where
 lt : ∀ t, t ∈ rd \/ t ∈ wr -> t < N
 frame : ∀ t, t < N -> t ∉ wr -> agr st st' t
 loc : ∀ st2, a6v V st2 -> (∀ t, t ∈ rd \/ t ∈ wr -> agr st st2 t) -> ∀ K : St -> Prop, (∀ st2', (∀ t, t ∈ wr -> agr st' st2' t) -> (∀ t, t < N -> t ∉ wr -> agr st2 st2' t) -> K st2') -> step K st2
theorem a2l {N : Nat} (st : St) {t : Nat} (h : t < N) : agr st (st.clear N) t := by simp [agr, St.clear, h]
theorem b5j {V : List (Nat × Nat)} {P : Program} {G : GG} {N : Nat} {d : Option Nat} {act : IAct} {K : St -> List Nat -> List Nat -> Prop} {st : St} (h : d7p P G N d act K st) : ∃ st' rd wr, K st' rd wr /\ Loc P G N V (b30 P G N d act) st st' rd wr := by
 cases act with
 | op i =>
  simp only [d7p] at h
  split at h
  ·rename_i r hr
   obtain ⟨e1, e2, e3, e4⟩ := a3n _ _ _ r hr
   refine ⟨_, _, _, h, e1, e2, fun st2 _ g1 K2 hK => ?_⟩
   obtain ⟨st2', q1, q2, q3, _⟩ := e4 st2 g1 (fun t ht => by simp at ht)
   simp only [b30, q1]
   exact hK st2' q2 q3
  ·exact h.elim
 | call f args tys =>
  simp only [d7p] at h
  obtain ⟨r1, r2, r3, res, h1, h2, hA, hn, h3, hsw, hK⟩ := h
  obtain ⟨a1, a2, a3, a4⟩ := a3n _ _ _ r1 h1
  obtain ⟨b1, b2, b3, b4⟩ := a3n _ _ _ r2 h2
  obtain ⟨c1, c2, c3, c4⟩ := a3n _ _ _ r3 h3
  have hlt : ∀ t, t ∈ r1.rd ++ r2.rd ++ r2.wr ++ r3.rd \/ t ∈ (if a0x res then r1.wr ++ r3.wr else r1.wr ++ r2.wr ++ r3.wr) -> t < N := fun t ht => by
   have : t ∈ r1.rd \/ t ∈ r2.rd \/ t ∈ r2.wr \/ t ∈ r3.rd \/ t ∈ r1.wr \/ t ∈ r3.wr := by
    rcases ht with ht | ht
    ·simp only [List.mem_append] at ht; rcases ht with ((ht | ht) | ht) | ht <;> simp [ht]
    ·split at ht <;> simp only [List.mem_append] at ht
     ·rcases ht with ht | ht <;> simp [ht]
     ·rcases ht with (ht | ht) | ht <;> simp [ht]
   rcases this with ht | ht | ht | ht | ht | ht
   ·exact a1 t (.inl ht)
   ·exact b1 t (.inl ht)
   ·exact b1 t (.inr ht)
   ·exact c1 t (.inl ht)
   ·exact a1 t (.inr ht)
   ·exact c1 t (.inr ht)
  refine ⟨_, _, _, hK, hlt, fun t ht hnw => ?_, fun st2 _ g K2 hK2 => ?_⟩
  ·by_cases hni : a0x res = true
   ·rw [if_pos hni] at hnw c2
    simp only [List.mem_append, not_or] at hnw
    exact ((a2 t ht hnw.1).trans (a2l _ ht)).trans (c2 t ht hnw.2)
   ·rw [if_neg hni] at hnw c2
    simp only [List.mem_append, not_or] at hnw
    exact (((a2 t ht hnw.1.1).trans (b2 t ht hnw.1.2)).trans (a2l _ ht)).trans (c2 t ht hnw.2)
  ·have w1 : ∀ t, t ∈ r1.wr -> agr st st2 t := fun t ht => g t (.inr (by split <;> simp [ht]))
   have w3 : ∀ t, t ∈ r3.wr -> agr st st2 t := fun t ht => g t (.inr (by split <;> simp [ht]))
   have gr : ∀ t, (t ∈ r1.rd \/ t ∈ r2.rd \/ t ∈ r2.wr \/ t ∈ r3.rd) -> agr st st2 t := fun t ht => g t (.inl (by simp only [List.mem_append]; rcases ht with ht | ht | ht | ht <;> simp [ht]))
   obtain ⟨s1, p1, p2, p3, p4⟩ := a4 st2 (fun t ht => ht.elim (fun ht => gr t (.inl ht)) (w1 t)) (fun t ht => by simp at ht)
   have k1 : ∀ t, t < N -> agr st st2 t -> agr r1.st s1 t := fun t ht hg => by
    by_cases hw : t ∈ r1.wr
    ·exact p2 t hw
    ·exact ((a2 t ht hw).symm.trans hg).trans (p3 t ht hw)
   obtain ⟨s2, q1, q2, q3, q4⟩ := b4 s1 (fun t ht => k1 t (b1 t ht) (gr t (ht.elim (fun h => .inr (.inl h)) fun h => .inr (.inr (.inl h))))) p4
   have k2 : ∀ t, t < N -> agr st st2 t -> agr r2.st s2 t := fun t ht hg => by
    by_cases hw : t ∈ r2.wr
    ·exact q2 t hw
    ·exact ((b2 t ht hw).symm.trans (k1 t ht hg)).trans (q3 t ht hw)
   have hpre : a4q N args.length s2 = a4q N args.length r2.st := by
    unfold a4q
    apply List.map_congr_left
    intro i hi
    exact q4 _ (hsw i (by simpa using hi))
   by_cases hni : a0x res = true
   ·rw [if_pos hni] at c2 c4 h3 hK2
    obtain ⟨s3, t1, t2, t3, _⟩ := c4 (s1.clear N) (fun t ht => by
     have htN := c1 t ht
     have := ht.elim (fun h => gr t (.inr (.inr (.inr h)))) (w3 t)
     exact ((a2l _ htN).symm.trans (k1 t htN this)).trans (a2l _ htN)) (fun t ht => by simp at ht)
    refine ⟨s1, s2, res, s3, p1, q1, by rw [hpre]; exact hA, hn, by rw [if_pos hni]; exact t1, hK2 s3 (fun t ht => ?_) fun t ht hnw => ?_⟩
    ·by_cases hw : t ∈ r3.wr
     ·exact t2 t hw
     ·have hw1 : t ∈ r1.wr := by simpa [hw] using ht
      have htN := a1 t (.inr hw1)
      exact ((c2 t htN hw).symm.trans (((a2l _ htN).symm.trans (p2 t hw1)).trans (a2l _ htN))).trans (t3 t htN hw)
    ·simp only [List.mem_append, not_or] at hnw
     exact ((p3 t ht hnw.1).trans (a2l _ ht)).trans (t3 t ht hnw.2)
   ·rw [if_neg hni] at c2 c4 h3 hK2
    obtain ⟨s3, t1, t2, t3, _⟩ := c4 (s2.clear N) (fun t ht => by
     have htN := c1 t ht
     have := ht.elim (fun h => gr t (.inr (.inr (.inr h)))) (w3 t)
     exact ((a2l _ htN).symm.trans (k2 t htN this)).trans (a2l _ htN)) (fun t ht => by simp at ht)
    refine ⟨s1, s2, res, s3, p1, q1, by rw [hpre]; exact hA, hn, by rw [if_neg hni]; exact t1, hK2 s3 (fun t ht => ?_) fun t ht hnw => ?_⟩
    ·by_cases hw : t ∈ r3.wr
     ·exact t2 t hw
     ·have hg : agr st st2 t := by
       rcases (by simpa [hw] using ht : t ∈ r1.wr \/ t ∈ r2.wr) with h | h
       ·exact w1 t h
       ·exact gr t (.inr (.inr (.inl h)))
      have htN : t < N := by
       rcases (by simpa [hw] using ht : t ∈ r1.wr \/ t ∈ r2.wr) with h | h
       ·exact a1 t (.inr h)
       ·exact b1 t (.inr h)
      exact ((c2 t htN hw).symm.trans (((a2l _ htN).symm.trans (k2 t htN hg)).trans (a2l _ htN))).trans (t3 t htN hw)
    ·simp only [List.mem_append, not_or] at hnw
     exact (((p3 t ht hnw.1.1).trans (q3 t ht hnw.1.2)).trans (a2l _ ht)).trans (t3 t ht hnw.2)
 | callx cv args lay tys => exact h.elim
 | nilq T x yT => exact h.elim
 | bad o => exact h.elim
end Go.Ideal
end
section
namespace Go.Ideal
open Classical
def b7a (o : Oper) : List Nat := (o.after.toList.filter (Region.binds .any)).map (·.on)
def c98 : List (List Nat) -> List (List Nat) -> List (List Nat)
 | [], acc => acc
 | a :: rest, acc => c98 rest (acc ++ [a ++ a.flatMap fun k => acc.getD k []])
def d04 (aft anc : List (List Nat)) : Bool := decide (aft.length = anc.length) && (List.range aft.length).all fun j =>
 (aft.getD j []).all (fun k => decide (k < j)) && (anc.getD j []).all fun k => (aft.getD j []).contains k || (aft.getD j []).any fun m => (anc.getD m []).contains k
def d1u (x y : List Nat × List Nat) : Bool := (x.2.all fun t => !(y.1.contains t) && !(y.2.contains t)) && y.2.all fun t => !(x.1.contains t)
def b4n (aft : List (List Nat)) (fps : List (List Nat × List Nat)) : Bool :=
 let anc := c98 aft []
 d04 aft anc && (List.range fps.length).all fun j => (List.range j).all fun i => (anc.getD j []).contains i || d1u (fps.getD i ([], [])) (fps.getD j ([], []))
inductive Anc (aft : List (List Nat)) : Nat -> Nat -> Prop where
 | base {k i : Nat} : k ∈ aft.getD i [] -> Anc aft k i
 | step {k m i : Nat} : Anc aft k m -> m ∈ aft.getD i [] -> Anc aft k i
theorem b9r {aft anc : List (List Nat)} (h : d04 aft anc = true) : ∀ j, j < aft.length -> (∀ k, k ∈ aft.getD j [] -> k < j) /\ ∀ k, k ∈ anc.getD j [] -> Anc aft k j := by
 simp only [d04, Bool.and_eq_true, List.all_eq_true, decide_eq_true_eq, Bool.or_eq_true, List.any_eq_true, List.mem_range] at h
 intro j
 induction j using Nat.strongRecOn with
 | _ j ih =>
  intro hj
  obtain ⟨h1, h2⟩ := h.2 j hj
  refine ⟨h1, fun k hk => ?_⟩
  rcases h2 k hk with h3 | ⟨m, hm, h3⟩
  ·exact .base (by simpa using h3)
  ·exact .step ((ih m (h1 m hm) (Nat.lt_trans (h1 m hm) hj)).2 k (by simpa using h3)) hm
def dCh (P : Program) (G : GG) (N : Nat) (V : List (Nat × Nat)) : List AO -> List (List Nat × List Nat) -> (St -> List (List Nat × List Nat) -> Prop) -> St -> Prop
 | [], fps, K, st => K st fps
 | io :: rest, fps, K, st => ∃ st' rd wr, Loc P G N V (a82 P G N io) st st' rd wr /\ a6v V st' /\ dCh P G N V rest (fps ++ [(rd, wr)]) K st'
def d7l (P : Program) (G : GG) (N : Nat) (ios : List AO) (aft : List (List Nat)) (K : St -> Prop) (st : St) : Prop :=
 ∃ V : List (Nat × Nat), (∀ p ∈ V, p.1 < N) /\ a6v V st /\ dCh P G N V ios [] (fun stn fps => b4n aft fps = true /\ ∀ st', (∀ t, t < N -> agr stn st' t) -> K st') st
theorem b7l {P : Program} {G : GG} {N : Nat} {V : List (Nat × Nat)} : ∀ (is : List AO) (fps : List (List Nat × List Nat)) (K : St -> List (List Nat × List Nat) -> Prop) (st : St), a6v V st -> dCh P G N V is fps K st ->
  ∃ (S : Nat -> St) (fp : List (List Nat × List Nat)), S 0 = st /\ fp.length = is.length /\ K (S is.length) (fps ++ fp) /\ (∀ i, a6v V (S i)) /\ ∀ i io, is[i]? = some io -> Loc P G N V (a82 P G N io) (S i) (S (i + 1)) (fp.getD i ([], [])).1 (fp.getD i ([], [])).2
 | [], fps, K, st, h0, h => ⟨fun _ => st, [], rfl, rfl, by simpa [dCh] using h, fun _ => h0, fun i io hi => by simp at hi⟩
 | io :: is, fps, K, st, h0, h => by
  simp only [dCh] at h
  obtain ⟨st', rd, wr, hL, hI, h1⟩ := h
  obtain ⟨S, fp, e1, e2, e3, e5, e4⟩ := b7l is (fps ++ [(rd, wr)]) K st' hI h1
  refine ⟨fun n => match n with | 0 => st | n + 1 => S n, (rd, wr) :: fp, rfl, by simp [e2], by simpa using e3, fun i => (by
   cases i with
   | zero => exact h0
   | succ i => exact e5 i), fun i io' hi => ?_⟩
  cases i with
  | zero =>
   simp only [List.getElem?_cons_zero, Option.some.injEq] at hi
   subst hi
   simp only [List.getD_cons_zero]
   rw [e1]; exact hL
  | succ i =>
   simp only [List.getD_cons_succ]
   exact e4 i io' (by simpa using hi)
section
variable {P : Program} {G : GG} {N n : Nat} {S : Nat -> St} {rd wr : Nat -> List Nat}
theorem a5i (hF : ∀ i, i < n -> ∀ t, t < N -> t ∉ wr i -> agr (S i) (S (i + 1)) t) {t : Nat} (ht : t < N) : ∀ (m i : Nat), i <= m -> m <= n -> (∀ k, i <= k -> k < m -> t ∉ wr k) -> agr (S i) (S m) t
 | 0, i, h1, _, _ => by obtain rfl : i = 0 := by omega
                        exact agr.refl _ _
 | m + 1, i, h1, h2, h3 => by
  by_cases hi : i = m + 1
  ·subst hi; exact agr.refl _ _
  ·exact (a5i hF ht m i (by omega) (by omega) (fun k hk hk2 => h3 k hk (by omega))).trans (hF m (by omega) t ht (h3 m (by omega) (by omega)))
def e9k (N : Nat) (S : Nat -> St) (wr : Nat -> List Nat) (L : Nat -> Prop) (st : St) : Prop := ∀ t, t < N ->
 (∀ j, L j -> t ∈ wr j -> (∀ k, L k -> t ∈ wr k -> k <= j) -> agr (S (j + 1)) st t) /\ ((∀ j, L j -> t ∉ wr j) -> agr (S 0) st t)
theorem b5w {p : Nat -> Prop} : ∀ (m : Nat), (∃ k, k < m /\ p k) -> ∃ j, j < m /\ p j /\ ∀ k, k < m -> p k -> k <= j
 | 0, ⟨k, hk, _⟩ => by omega
 | m + 1, ⟨k, hk, hp⟩ => by
  by_cases hm : p m
  ·exact ⟨m, by omega, hm, fun k hk _ => by omega⟩
  ·have : k ≠ m := fun h => hm (h ▸ hp)
   obtain ⟨j, h1, h2, h3⟩ := b5w m ⟨k, by omega, hp⟩
   refine ⟨j, by omega, h2, fun k hk hp => ?_⟩
   have : k ≠ m := fun h => hm (h ▸ hp)
   exact h3 k (by omega) hp
theorem c7w (hF : ∀ i, i < n -> ∀ t, t < N -> t ∉ wr i -> agr (S i) (S (i + 1)) t) {L : Nat -> Prop} {st : St} (hInv : e9k N S wr L st) (hL : ∀ k, L k -> k < n) {i : Nat} (hi : i < n) {t : Nat} (ht : t < N)
  (h1 : ∀ k, L k -> t ∈ wr k -> k < i) (h2 : ∀ k, k < i -> t ∈ wr k -> L k) : agr (S i) st t := by
 by_cases hex : ∃ k, k < i /\ t ∈ wr k
 ·obtain ⟨j, e1, e2, e3⟩ := b5w (p := fun k => t ∈ wr k) i hex
  have hj := (hInv t ht).1 j (h2 j e1 e2) e2 (fun k hk hw => e3 k (h1 k hk hw) hw)
  exact (a5i hF ht i (j + 1) (by omega) (by omega) (fun k hk hk2 hw => by have := e3 k hk2 hw; omega)).symm.trans hj
 ·have hj := (hInv t ht).2 (fun j hj hw => hex ⟨j, h1 j hj hw, hw⟩)
  exact (a5i hF ht i 0 (by omega) (by omega) (fun k _ hk hw => hex ⟨k, hk, hw⟩)).symm.trans hj
end
theorem b79 {ops : Array Oper} {listed : Array Bool} {i : Nat} (h : i ∈ Region.ready .any ops listed) : i < ops.size /\ listed.getD i true = false /\ ∃ o, ops[i]? = some o /\ ∀ k, k ∈ b7a o -> listed.getD k false = true := by
 simp only [Region.ready, List.mem_filter, List.mem_range, Bool.and_eq_true, Bool.not_eq_true'] at h
 obtain ⟨h1, h2, h3⟩ := h
 refine ⟨h1, h2, ops[i], by simp [h1], fun k hk => ?_⟩
 simp only [h1, Array.getElem?_eq_getElem, Option.map_some, Option.getD_some, Array.all_eq_true] at h3
 simp only [b7a, List.mem_map, List.mem_filter] at hk
 obtain ⟨e, ⟨he, hb⟩, rfl⟩ := hk
 obtain ⟨m, hm, rfl⟩ := Array.mem_iff_getElem.1 (Array.mem_toList_iff.1 he)
 have := h3 m hm
 simp only [hb, Bool.not_true, Bool.false_or] at this
 exact this
theorem c9q {ops : Array Oper} {listed : Array Bool} {i : Nat} {o : Oper} (h1 : ops[i]? = some o) (h2 : listed.getD i true = false) (h3 : ∀ k, k ∈ b7a o -> listed.getD k false = true) : i ∈ Region.ready .any ops listed := by
 have hlt := (Array.getElem?_eq_some_iff.1 h1).1
 simp only [Region.ready, List.mem_filter, List.mem_range, Bool.and_eq_true, Bool.not_eq_true']
 refine ⟨hlt, h2, ?_⟩
 simp only [h1, Option.map_some, Option.getD_some, Array.all_eq_true]
 intro m hm
 by_cases hb : Region.binds .any o.after[m] = true
 ·have := h3 o.after[m].on (by
   simp only [b7a, List.mem_map, List.mem_filter]
   exact ⟨_, ⟨by simp, hb⟩, rfl⟩)
  simp [this]
 ·simp [hb]
end Go.Ideal
end
section
namespace Go.Ideal
open Classical
theorem c2x {x y : List Nat × List Nat} (h : d1u x y = true) : (∀ t, t ∈ x.2 -> t ∉ y.1 /\ t ∉ y.2) /\ ∀ t, t ∈ y.2 -> t ∉ x.1 := by
 simp only [d1u, Bool.and_eq_true, List.all_eq_true, Bool.not_eq_true', List.contains_iff_mem] at h
 refine ⟨fun t ht => ?_, fun t ht => ?_⟩
 ·have := h.1 t ht
  simpa using this
 ·have := h.2 t ht
  simpa using this
theorem c4n {n : Nat} {listed : Array Bool} (hsz : listed.size = n) {i : Nat} (hi : i < n) (h : listed.getD i true = false) :
  ((List.range n).filter fun j => !(listed.setIfInBounds i true).getD j true).length + 1 = ((List.range n).filter fun j => !listed.getD j true).length := by
 have key : ∀ (l : List Nat), l.Nodup -> (i ∈ l -> ((l.filter fun j => !(listed.setIfInBounds i true).getD j true).length + 1 = (l.filter fun j => !listed.getD j true).length)) /\ (i ∉ l -> ((l.filter fun j => !(listed.setIfInBounds i true).getD j true) = (l.filter fun j => !listed.getD j true))) := by
  intro l
  induction l with
  | nil => intro _; exact ⟨fun h => by simp at h, fun _ => rfl⟩
  | cons x l ih =>
   intro hn
   obtain ⟨hx, hl⟩ := List.nodup_cons.1 hn
   obtain ⟨i1, i2⟩ := ih hl
   by_cases hxi : x = i
   ·subst hxi
    refine ⟨fun _ => ?_, fun hc => by simp at hc⟩
    have h1 : (!(listed.setIfInBounds x true).getD x true) = false := by simp [Array.getD_eq_getD_getElem?, Array.getElem?_setIfInBounds, hsz, hi]
    have h2 : (!listed.getD x true) = true := by rw [h]; rfl
    rw [List.filter_cons, List.filter_cons, h1, h2, i2 hx]
    rfl
   ·have h1 : (listed.setIfInBounds i true).getD x true = listed.getD x true := by
     simp [Array.getD_eq_getD_getElem?, Array.getElem?_setIfInBounds_ne (Ne.symm hxi)]
    rw [List.filter_cons, List.filter_cons, h1]
    refine ⟨fun hc => ?_, fun hc => ?_⟩
    ·have hil : i ∈ l := by rcases List.mem_cons.1 hc with rfl | hc; exact absurd rfl hxi; exact hc
     have := i1 hil
     cases hb : listed.getD x true with
     | true => exact this
     | false => simp only [Bool.not_false, if_true, List.length_cons]; omega
    ·have hil : i ∉ l := fun hc2 => hc (List.mem_cons_of_mem _ hc2)
     rw [i2 hil]
 exact (key _ List.nodup_range).1 (List.mem_range.2 hi)
theorem c4r {V : List (Nat × Nat)} {pins : List Nat} {a0 : Act} {E : Env} {P : Program} {G : GG} {N : Nat} {ops : Array Oper} {ios : List AO} {aft : List (List Nat)} {S : Nat -> St} {fp : List (List Nat × List Nat)} {K : St -> Prop} {Q : Exit -> Act -> World -> Prop}
  (hm : ops.toList.map o3 = ios.map AO.e3) (ha : ops.toList.map b7a = aft) (hok : c3n P N ios = true) (hpin : ∀ io ∈ ios, ∀ t ∈ pins, io.dst ≠ some t) (hG : E.G = G) (hfp : fp.length = ios.length)
  (hVN : ∀ p ∈ V, p.1 < N) (hVS : ∀ i, a6v V (S i)) (hLoc : ∀ i io, ios[i]? = some io -> Loc P G N V (a82 P G N io) (S i) (S (i + 1)) (fp.getD i ([], [])).1 (fp.getD i ([], [])).2) (hind : b4n aft fp = true)
  (hfin : ∀ st', (∀ t, t < N -> agr (S ios.length) st' t) -> K st') (hK : ∀ st' a' w' val' ow', K st' -> (∀ t ∈ pins, a'.tmps.getD t undef = a0.tmps.getD t undef) -> Sim E N st' a' w' val' ow' -> Q .normal a' w') :
  ∀ (fuel : Nat) (listed : Array Bool) {st : St} {a : Act} {w : World} {val : Nat -> Value} {ow : Nat -> Option Nat}, listed.size = ops.size -> ((List.range ops.size).filter fun i => !listed.getD i true).length = fuel ->
   (∀ j, listed.getD j false = true -> ∀ k, k ∈ aft.getD j [] -> listed.getD k false = true) -> e9k N S (fun i => (fp.getD i ([], [])).2) (fun j => listed.getD j false = true) st -> (∀ t ∈ pins, a.tmps.getD t undef = a0.tmps.getD t undef) -> Sim E N st a w val ow -> wpAny P .any ops Q fuel listed a w := by
 have hsz : ops.size = ios.length := by have := congrArg List.length hm; simpa using this
 have hasz : aft.length = ios.length := by rw [<- ha]; simp [hsz]
 have haft : ∀ i o, ops[i]? = some o -> aft.getD i [] = b7a o := fun i o ho => by
  rw [<- ha]
  have : ops.toList[i]? = some o := by simpa using ho
  simp [List.getD_eq_getElem?_getD, this]
 simp only [b4n, Bool.and_eq_true, List.all_eq_true, List.mem_range, Bool.or_eq_true] at hind
 obtain ⟨hanc, hpair⟩ := hind
 have hS := b9r hanc
 have hF : ∀ i, i < ios.length -> ∀ t, t < N -> t ∉ (fp.getD i ([], [])).2 -> agr (S i) (S (i + 1)) t := fun i hi t ht hn => by
  exact (hLoc i ios[i] (by simp [hi])).frame t ht hn
 have hdep : ∀ i j, i < j -> j < ios.length -> (∃ t, (t ∈ (fp.getD i ([], [])).2 /\ (t ∈ (fp.getD j ([], [])).1 \/ t ∈ (fp.getD j ([], [])).2)) \/ (t ∈ (fp.getD j ([], [])).2 /\ t ∈ (fp.getD i ([], [])).1)) -> Anc aft i j := fun i j hij hj ⟨t, ht⟩ => by
  rcases hpair j (by omega) i hij with h1 | h1
  ·exact (hS j (by omega)).2 i (by simpa using h1)
  ·obtain ⟨d1, d2⟩ := c2x h1
   rcases ht with ⟨h2, h3⟩ | ⟨h2, h3⟩
   ·exact (h3.elim (d1 t h2).1 (d1 t h2).2).elim
   ·exact (d2 t h2 h3).elim
 intro fuel
 induction fuel with
 | zero =>
  intro listed st a w val ow hls hcount hclosed hInv hp hs
  have hall : ∀ i, i < ops.size -> listed.getD i true = true := fun i hi => by
   have h0 := List.eq_nil_of_length_eq_zero hcount
   rw [List.filter_eq_nil_iff] at h0
   have := h0 i (List.mem_range.2 hi)
   simpa using this
  have hlast : Q .normal a w := by
   refine hK st a w val ow (hfin st fun t ht => ?_) hp hs
   have hLi : ∀ i, i < ios.length -> listed.getD i false = true := fun i hi => by
    have := hall i (by omega)
    simp only [Array.getD_eq_getD_getElem?] at this ⊢
    have hl : i < listed.size := by omega
    simpa [hl] using this
   by_cases hex : ∃ k, k < ios.length /\ t ∈ (fp.getD k ([], [])).2
   ·obtain ⟨j, e1, e2, e3⟩ := b5w (p := fun k => t ∈ (fp.getD k ([], [])).2) _ hex
    have hout : ∀ k, listed.getD k false = true -> k < ios.length := fun k hk => by
     by_cases hkl : k < listed.size
     ·omega
     ·simp [Array.getD_eq_getD_getElem?, hkl] at hk
    have hj := (hInv t ht).1 j (hLi j e1) e2 (fun k hk hw => e3 k (hout k hk) hw)
    exact (a5i (n := ios.length) hF ht ios.length (j + 1) (by omega) (Nat.le_refl _) (fun k hk hk2 hw => by have := e3 k hk2 hw; omega)).symm.trans hj
   ·have hout : ∀ k, listed.getD k false = true -> k < ios.length := fun k hk => by
     by_cases hkl : k < listed.size
     ·omega
     ·simp [Array.getD_eq_getD_getElem?, hkl] at hk
    have hj := (hInv t ht).2 (fun j hj hw => hex ⟨j, hout j hj, hw⟩)
    exact (a5i (n := ios.length) hF ht ios.length 0 (by omega) (Nat.le_refl _) (fun k _ hk hw => hex ⟨k, hk, hw⟩)).symm.trans hj
  refine ⟨?_, hlast⟩
  cases hr : Region.ready .any ops listed with
  | nil => rfl
  | cons i l =>
   obtain ⟨h1, h2, _⟩ := b79 (by rw [hr]; simp : i ∈ Region.ready .any ops listed)
   rw [hall i h1] at h2; cases h2
 | succ fuel ih =>
  intro listed st a w val ow hls hcount hclosed hInv hp hs
  refine ⟨fun hr => ?_, fun i hi => ?_⟩
  ·-- the first that isn't listed is ready
   exfalso
   have hex : ∃ i, i < ops.size /\ listed.getD i true = false := by
    cases hf : (List.range ops.size).filter fun i => !listed.getD i true with
    | nil => rw [hf] at hcount; simp at hcount
    | cons x l =>
     have : x ∈ (List.range ops.size).filter fun i => !listed.getD i true := by rw [hf]; simp
     simp only [List.mem_filter, List.mem_range, Bool.not_eq_true'] at this
     exact ⟨x, this⟩
   have hmin : ∃ i, (i < ops.size /\ listed.getD i true = false) /\ ∀ k, k < i -> ¬ (k < ops.size /\ listed.getD k true = false) := by
    obtain ⟨i, hi⟩ := hex
    induction i using Nat.strongRecOn with
    | _ i ihm =>
     by_cases hx : ∃ k, k < i /\ (k < ops.size /\ listed.getD k true = false)
     ·obtain ⟨k, h1, h2⟩ := hx; exact ihm k h1 h2
     ·exact ⟨i, hi, fun k h1 h2 => hx ⟨k, h1, h2⟩⟩
   obtain ⟨i, ⟨h1, h2⟩, h3⟩ := hmin
   have : i ∈ Region.ready .any ops listed := c9q (o := ops[i]) (by simp [h1]) h2 (fun k hk => by
    have hk' : k ∈ aft.getD i [] := by rw [haft i ops[i] (by simp [h1])]; exact hk
    have hki := (hS i (by omega)).1 k hk'
    have := h3 k hki
    have hkl : k < listed.size := by omega
    simp only [Array.getD_eq_getD_getElem?] at this ⊢
    simp [hkl, show k < ops.size by omega] at this ⊢
    exact this)
   rw [hr] at this; simp at this
  ·obtain ⟨h1, h2, o, ho, h3⟩ := b79 hi
   have hin : i < ios.length := by omega
   have hio : ios[i]? = some ios[i] := by simp [hin]
   have hmi : o3 o = ios[i].e3 := by
    have h4 : (ops.toList.map o3)[i]? = (ios.map AO.e3)[i]? := by rw [hm]
    have h5 : ops.toList[i]? = some o := by simpa using ho
    simp only [List.getElem?_map, h5, hio, Option.map_some, Option.some.injEq] at h4
    exact h4
   have hnL : ¬ listed.getD i false = true := by
    have hl : i < listed.size := by omega
    simp only [Array.getD_eq_getD_getElem?] at h2 ⊢
    simp [hl] at h2 ⊢
    exact h2
   have hLn : ∀ k, listed.getD k false = true -> k < ios.length := fun k hk => by
    by_cases hkl : k < listed.size
    ·omega
    ·simp [Array.getD_eq_getD_getElem?, hkl] at hk
   have hancL : ∀ j k, Anc aft k j -> (∀ m, m ∈ aft.getD j [] -> listed.getD m false = true) -> listed.getD k false = true := fun j k hA => by
    induction hA with
    | base hk => intro hc; exact hc _ hk
    | step hA hmem ihA => intro hc; exact ihA (fun m hm2 => hclosed _ (hc _ hmem) m hm2)
   have hai : ∀ m, m ∈ aft.getD i [] -> listed.getD m false = true := fun m hm2 => h3 m (by rw [<- haft i o ho]; exact hm2)
   have hL := hLoc i ios[i] hio
   have hbef : ∀ t, (t ∈ (fp.getD i ([], [])).1 \/ t ∈ (fp.getD i ([], [])).2) -> ∀ k, listed.getD k false = true -> t ∈ (fp.getD k ([], [])).2 -> k < i := fun t ht k hk hw => by
    rcases Nat.lt_trichotomy k i with h | h | h
    ·exact h
    ·subst h; exact absurd hk hnL
    ·have hA := hdep i k h (hLn k hk) ⟨t, by
      rcases ht with ht | ht
      ·exact .inr ⟨hw, ht⟩
      ·exact .inl ⟨ht, .inr hw⟩⟩
     exact absurd (hancL k i hA (hclosed k hk)) hnL
   have hbef2 : ∀ t, (t ∈ (fp.getD i ([], [])).1 \/ t ∈ (fp.getD i ([], [])).2) -> ∀ k, k < i -> t ∈ (fp.getD k ([], [])).2 -> listed.getD k false = true := fun t ht k hk hw =>
    hancL i k (hdep k i hk hin ⟨t, .inl ⟨hw, ht⟩⟩) hai
   have hst : ∀ t, (t ∈ (fp.getD i ([], [])).1 \/ t ∈ (fp.getD i ([], [])).2) -> agr (S i) st t := fun t ht =>
    c7w (n := ios.length) hF hInv hLn hin (hL.lt t ht) (hbef t ht) (hbef2 t ht)
   have hIV : a6v V st := fun p hp => by
    have hag : ∃ m, agr (S m) st p.1 := by
     by_cases hex : ∃ k, k < ios.length /\ listed.getD k false = true /\ p.1 ∈ (fp.getD k ([], [])).2
     ·obtain ⟨j, e1, e2, e3⟩ := b5w (p := fun k => listed.getD k false = true /\ p.1 ∈ (fp.getD k ([], [])).2) _ hex
      exact ⟨j + 1, (hInv p.1 (hVN p hp)).1 j e2.1 e2.2 (fun k hk hw => e3 k (hLn k hk) ⟨hk, hw⟩)⟩
     ·exact ⟨0, (hInv p.1 (hVN p hp)).2 (fun j hj hw => hex ⟨j, hLn j hj, hj, hw⟩)⟩
    obtain ⟨m, hm1, hm2⟩ := hag
    have := hVS m p hp
    rw [<- hm1, <- hm2] at this
    exact this
   have hstep := hL.loc st hIV hst (fun st2 => e9k N S (fun i => (fp.getD i ([], [])).2) (fun j => (listed.setIfInBounds i true).getD j false = true) st2) (fun st2' g1 g2 => by
    have hL' : ∀ j, (listed.setIfInBounds i true).getD j false = true ↔ j = i \/ listed.getD j false = true := fun j => by
     by_cases hj : j = i
     ·subst hj
      have hl : j < listed.size := by omega
      simp [Array.getD_eq_getD_getElem?, Array.getElem?_setIfInBounds, hl]
     ·simp [Array.getD_eq_getD_getElem?, Array.getElem?_setIfInBounds_ne (Ne.symm hj), hj]
    intro t ht
    by_cases hw : t ∈ (fp.getD i ([], [])).2
    ·refine ⟨fun j hj hjw hmax => ?_, fun hn => absurd hw (hn i ((hL' i).2 (.inl rfl)))⟩
     have hij := hmax i ((hL' i).2 (.inl rfl)) hw
     rcases (hL' j).1 hj with rfl | hj2
     ·exact g1 t hw
     ·have := hbef t (.inr hw) j hj2 hjw; omega
    ·refine ⟨fun j hj hjw hmax => ?_, fun hn => ?_⟩
     ·rcases (hL' j).1 hj with rfl | hj2
      ·exact absurd hjw hw
      ·exact ((hInv t ht).1 j hj2 hjw (fun k hk hkw => hmax k ((hL' k).2 (.inr hk)) hkw)).trans (g2 t ht hw)
     ·exact ((hInv t ht).2 (fun j hj => hn j ((hL' j).2 (.inr hj)))).trans (g2 t ht hw))
   have hokio := List.all_eq_true.1 hok ios[i] (by simp)
   have hcl' : ∀ j, (listed.setIfInBounds i true).getD j false = true -> ∀ k, k ∈ aft.getD j [] -> (listed.setIfInBounds i true).getD k false = true := fun j hj k hk => by
    have mono : listed.getD k false = true -> (listed.setIfInBounds i true).getD k false = true := fun h => by
     by_cases hki : k = i
     ·subst hki; exact absurd h hnL
     ·simp only [Array.getD_eq_getD_getElem?, Array.getElem?_setIfInBounds_ne (Ne.symm hki)] at h ⊢
      exact h
    by_cases hji : j = i
    ·subst hji; exact mono (hai k hk)
    ·refine mono (hclosed j ?_ k hk)
     simpa [Array.getD_eq_getD_getElem?, Array.getElem?_setIfInBounds_ne (Ne.symm hji)] using hj
   have hcnt := c4n hls h1 h2
   have hrun := b47 (K' := fun a' w' => wpAny P .any ops Q fuel (listed.setIfInBounds i true) a' w') (Q := Q) hs hG hm hmi hokio hstep (fun st' a' w' val' ow' hk hkp hs' =>
    ih (listed.setIfInBounds i true) (by simpa using hls) (by omega) hcl' hk (fun t ht => (hkp t (by
     have e1 : o.dst = ios[i].dst := by have := hmi; simp only [o3, AO.e3, Prod.mk.injEq] at this; exact this.1
     rw [e1]; exact hpin _ (by simp) t ht)).trans (hp t ht)) hs')
   unfold wpOp
   rw [ho]
   simp only
   split
   ·rename_i hw; rw [if_pos hw] at hrun; exact .inl hrun
   ·rename_i hw; rw [if_neg hw] at hrun; exact hrun
theorem AWp.draw {pins : List Nat} {P : Program} {G : GG} {N : Nat} {id : Nat} {ops : Array Oper} {ios : List AO} {aft : List (List Nat)} {Q : Exit -> St -> Prop} {st : St} (hord : P.follows .mixedOrders = true) (hm : ops.toList.map o3 = ios.map AO.e3) (ha : ops.toList.map b7a = aft) (hok : c3n P N ios = true) (hpin : ∀ io ∈ ios, ∀ t ∈ pins, io.dst ≠ some t)
  (h : d7l P G N ios aft (Q .normal) st) : AWp P G N pins (.region id ops true) Q st := fun E a w val ow hG hs => by
 obtain ⟨V, hVN, hV0, h⟩ := h
 obtain ⟨S, fp, e1, e2, ⟨e3, e4⟩, e6, e5⟩ := b7l ios [] _ st hV0 h
 rw [List.nil_append] at e3
 refine wp_region_any hord ?_
 have hs2 : Sim E N st a { w with drawn := w.drawn + 1 } val ow := hs.world rfl rfl rfl rfl
 have hsz : ops.size = ios.length := by have := congrArg List.length hm; simpa using this
 have hrep : ∀ (j : Nat) (d : Bool), (Array.replicate ops.size false).getD j d = true -> ¬ j < ops.size := fun j d h hj => by
  simp [Array.getD_eq_getD_getElem?, hj] at h
 refine c4r (a0 := a) hm ha hok hpin hG e2 hVN e6 e5 e3 (K := Q .normal) e4 (fun st' a' w' val' ow' hk hp hs' => ⟨hp, st', val', ow', hk, hs'⟩) ops.size _ (by simp) ?_ (fun j hj => ?_) (fun t ht => ⟨fun j hj => ?_, fun _ => by rw [e1]; exact agr.refl _ _⟩) (fun _ _ => rfl) hs2
 ·rw [List.filter_eq_self.2 (fun i hi => by
   have hi' := List.mem_range.1 hi
   simp [Array.getD_eq_getD_getElem?, hi'])]
  simp
 ·exfalso
  have h1 := hrep j false hj
  simp [Array.getD_eq_getD_getElem?, h1] at hj
 ·exfalso
  have h1 := hrep j false hj
  simp [Array.getD_eq_getD_getElem?, h1] at hj
end Go.Ideal
end
section
namespace Go.Ideal
inductive EC where
 | skip
 | reg (ops : List (Option Nat × Op × Option (Nat × Bool)))
 | draw (ops : List (Option Nat × Op × Option (Nat × Bool))) (aft : List (List Nat))
 | seq (a b : EC)
 | cond (c : Operand) (a b : EC)
 | block (id : Nat) (a : EC)
 | loop (a : EC)
 | scope (a : EC)
 | exit (id : Nat)
 | label (l : Nat)
 | ret
 | other
def a8l : Code -> EC
 | .skip => .skip
 | .region _ ops false => .reg (ops.toList.map o3)
 | .region _ ops true => .draw (ops.toList.map o3) (ops.toList.map b7a)
 | .seq a b => .seq (a8l a) (a8l b)
 | .cond c a b => .cond c (a8l a) (a8l b)
 | .block id a => .block id (a8l a)
 | .loop a => .loop (a8l a)
 | .scope a => .scope (a8l a)
 | .exit id => .exit id
 | .label l => .label l
 | .ret => .ret
 | _ => .other
inductive IC where
 | skip
 | reg (ios : List AO)
 | draw (ios : List AO) (aft : List (List Nat))
 | seq (a b : IC)
 | cond (c : X) (a b : IC)
 | block (id : Nat) (a : IC)
 | loop (a : IC)
 | scope (a : IC)
 | exit (id : Nat)
 | label (l : Nat)
 | ret
def IC.ec : IC -> EC
 | .skip => .skip
 | .reg ios => .reg (ios.map AO.e3)
 | .draw ios aft => .draw (ios.map AO.e3) aft
 | .seq a b => .seq a.ec b.ec
 | .cond c a b => .cond c.op a.ec b.ec
 | .block id a => .block id a.ec
 | .loop a => .loop a.ec
 | .scope a => .scope a.ec
 | .exit id => .exit id
 | .label l => .label l
 | .ret => .ret
def IC.ok (P : Program) (N : Nat) : IC -> Bool
 | .reg ios => c3n P N ios
 | .draw ios _ => c3n P N ios
 | .seq a b => a.ok P N && b.ok P N
 | .cond _ a b => a.ok P N && b.ok P N
 | .block _ a => a.ok P N
 | .loop a => a.ok P N
 | .scope a => a.ok P N
 | _ => true
def e8a (pins : List Nat) (ios : List AO) : Bool := ios.all fun io => match io.dst with
 | some d => !pins.contains d
 | none => true
def IC.pin (pins : List Nat) : IC -> Bool
 | .reg ios => e8a pins ios
 | .draw ios _ => e8a pins ios
 | .seq a b => a.pin pins && b.pin pins
 | .cond _ a b => a.pin pins && b.pin pins
 | .block _ a => a.pin pins
 | .loop a => a.pin pins
 | .scope a => a.pin pins
 | _ => true
theorem b4z {pins : List Nat} {ios : List AO} (h : e8a pins ios = true) : ∀ io ∈ ios, ∀ t ∈ pins, io.dst ≠ some t := fun io hi t ht he => by
 have := List.all_eq_true.1 h io hi
 rw [he] at this
 simp only [Bool.not_eq_true', List.contains_iff_mem] at this
 simp [ht] at this
theorem IC.pin_nil : ∀ ic : IC, ic.pin [] = true
 | .reg ios | .draw ios _ => by
  simp only [IC.pin, e8a, List.all_eq_true]
  intro io _
  cases io.dst <;> simp
 | .seq a b | .cond _ a b => by simp [IC.pin, pin_nil a, pin_nil b]
 | .block _ a | .loop a | .scope a => by simp [IC.pin, pin_nil a]
 | .skip | .exit _ | .label _ | .ret => rfl
def a7w (Q : Exit -> St -> Prop) : Exit -> St -> Prop
 | .goto _, _ => False
 | e, st => Q e st
theorem AWp.scope {pins : List Nat} {P : Program} {G : GG} {N : Nat} {st : St} {c : Code} {Q : Exit -> St -> Prop} (h : AWp P G N pins c (a7w Q) st) : AWp P G N pins (.scope c) Q st := fun E a w val ow hG hs =>
 wp_scope_straight (wp_mono (h E a w val ow hG hs) fun e a' w' ⟨hp, st', val', ow', hq, hs'⟩ => by
  cases e <;> first | exact hq.elim | exact ⟨hp, st', val', ow', hq, hs'⟩)
def AW (P : Program) (G : GG) (N : Nat) : IC -> (Exit -> St -> Prop) -> St -> Prop
 | .skip, Q, st => Q .normal st
 | .reg ios, Q, st => a9d P G N ios (Q .normal) st
 | .draw ios aft, Q, st => d7l P G N ios aft (Q .normal) st
 | .seq a b, Q, st => AW P G N a (b01 (AW P G N b Q) Q) st
 | .cond c a b, Q, st => match c4l st N c with
  | some true => AW P G N a Q st
  | some false => AW P G N b Q st
  | none => False
 | .block id a, Q, st => AW P G N a (a9n id Q) st
 | .loop a, Q, st => ∃ (ι : Type) (I : ι -> St -> Prop) (μ : ι -> Nat) (i0 : ι), I i0 st /\ ∀ i st, I i st -> AW P G N a (b01 (fun st' => ∃ i', I i' st' /\ μ i' < μ i) Q) st
 | .scope a, Q, st => AW P G N a (a7w Q) st
 | .exit id, Q, st => Q (.exit id) st
 | .label _, Q, st => Q .normal st
 | .ret, Q, st => Q .ret st
theorem c1f {pins : List Nat} {P : Program} {G : GG} {N : Nat} (hord : P.follows .mixedOrders = true) : ∀ (ic : IC) (c : Code) (Q : Exit -> St -> Prop) (st : St), a8l c = ic.ec -> ic.ok P N = true -> ic.pin pins = true -> AW P G N ic Q st -> AWp P G N pins c Q st := by
 intro ic
 induction ic with
 | skip =>
  intro c Q st he hok hpn h
  cases c <;> simp only [a8l, IC.ec, reduceCtorEq] at he
  ·exact AWp.skip h
  ·rename_i id ops d; cases d <;> simp [a8l] at he
 | reg ios =>
  intro c Q st he hok hpn h
  cases c <;> simp only [a8l, IC.ec, reduceCtorEq] at he
  rename_i id ops d
  cases d <;> simp only [a8l, EC.reg.injEq, reduceCtorEq] at he
  exact AWp.region (l := ops.toList) he hok (b4z hpn) h
 | draw ios aft =>
  intro c Q st he hok hpn h
  cases c <;> simp only [a8l, IC.ec, reduceCtorEq] at he
  rename_i id ops d
  cases d <;> simp only [a8l, EC.draw.injEq, reduceCtorEq] at he
  exact AWp.draw hord he.1 he.2 hok (b4z hpn) h
 | seq a b iha ihb =>
  intro c Q st he hok hpn h
  cases c <;> simp only [a8l, IC.ec, reduceCtorEq] at he
  ·rename_i id ops d; cases d <;> simp [a8l] at he
  ·rename_i x y
   simp only [EC.seq.injEq] at he
   simp only [IC.ok, IC.pin, Bool.and_eq_true] at hok hpn
   exact AWp.seq ((iha x _ st he.1 hok.1 hpn.1 h).mono fun e st' hq => by
    cases e <;> first | exact ihb y _ st' he.2 hok.2 hpn.2 hq | exact hq)
 | cond cx a b iha ihb =>
  intro c Q st he hok hpn h
  cases c <;> simp only [a8l, IC.ec, reduceCtorEq] at he
  ·rename_i id ops d; cases d <;> simp [a8l] at he
  ·rename_i c' x y
   simp only [EC.cond.injEq] at he
   obtain ⟨rfl, h1, h2⟩ := he
   simp only [IC.ok, IC.pin, Bool.and_eq_true] at hok hpn
   simp only [AW] at h
   split at h
   ·rename_i hc; exact AWp.cond hc (iha x _ st h1 hok.1 hpn.1 h)
   ·rename_i hc; exact AWp.cond hc (ihb y _ st h2 hok.2 hpn.2 h)
   ·exact h.elim
 | block id a iha =>
  intro c Q st he hok hpn h
  cases c <;> simp only [a8l, IC.ec, reduceCtorEq] at he
  ·rename_i id ops d; cases d <;> simp [a8l] at he
  ·rename_i id' x
   simp only [EC.block.injEq] at he
   obtain ⟨rfl, h1⟩ := he
   exact AWp.block (iha x _ st h1 hok hpn h)
 | loop a iha =>
  intro c Q st he hok hpn h
  cases c <;> simp only [a8l, IC.ec, reduceCtorEq] at he
  ·rename_i id ops d; cases d <;> simp [a8l] at he
  ·rename_i x
   simp only [EC.loop.injEq] at he
   obtain ⟨ι, I, μ, i0, h0, hround⟩ := h
   exact AWp.loop I μ i0 h0 fun i st' hI => iha x _ st' he hok hpn (hround i st' hI)
 | scope a iha =>
  intro c Q st he hok hpn h
  cases c <;> simp only [a8l, IC.ec, reduceCtorEq] at he
  ·rename_i id ops d; cases d <;> simp [a8l] at he
  ·rename_i x
   simp only [EC.scope.injEq] at he
   exact AWp.scope (iha x _ st he hok hpn h)
 | exit id =>
  intro c Q st he hok hpn h
  cases c <;> simp only [a8l, IC.ec, reduceCtorEq] at he
  ·rename_i id ops d; cases d <;> simp [a8l] at he
  ·simp only [EC.exit.injEq] at he; subst he; exact AWp.exit h
 | label l =>
  intro c Q st he hok hpn h
  cases c <;> simp only [a8l, IC.ec, reduceCtorEq] at he
  ·rename_i id ops d; cases d <;> simp [a8l] at he
  ·exact AWp.label h
 | ret =>
  intro c Q st he hok hpn h
  cases c <;> simp only [a8l, IC.ec, reduceCtorEq] at he
  ·rename_i id ops d; cases d <;> simp [a8l] at he
  ·exact AWp.ret h
end Go.Ideal
end
section
namespace Go.Ideal
def rdv (st : St) : X -> AV
 | .t n => st.s n
 | .c v => .lit v
 | .nl sz => .own sz 0 []
 | .g n => .lit (.pointer (some ⟨n, 0, none⟩))
 | .f n => .fn n [] []
def rde (st : St) : X -> Nat
 | .t n => st.ep n
 | _ => 0
theorem a0u (x : X) (st : St) : (a16 x).run st = some ((rdv st x, rde st x), st) := by cases x <;> rfl
section
variable {st : St}
@[go_sem] theorem g0s (n : Nat) : rdv st (.t n) = st.s n := (rfl)
@[go_sem] theorem g0p (v : Value) : rdv st (.c v) = .lit v := (rfl)
@[go_sem] theorem f8s (n : Nat) : rdv st (.nl n) = .own n 0 [] := (rfl)
@[go_sem] theorem g0r (n : Nat) : rdv st (.g n) = .lit (.pointer (some ⟨n, 0, none⟩)) := (rfl)
@[go_sem] theorem g0q (n : Nat) : rdv st (.f n) = .fn n [] [] := (rfl)
end
def St.thru (st : St) (N d : Nat) (v : AV) : St := ((st.put N v).put N .dead).put d v
def St.sc (st : St) (N a b : Nat) : St := ⟨fun u => if u = N then .dead else if u = N + 1 then .dead else st.s u, fun u => if u = N then st.ep u + a else if u = N + 1 then st.ep u + b else st.ep u⟩
section
variable {st : St} {N d u t : Nat} {v : AV}
@[go_sem] theorem f8v : (st.put t v).s u = if u = t then v else st.s u := (rfl)
@[go_sem] theorem f4g : (st.put t v).ep u = if u = t then (if nm v then st.ep t + 1 else st.ep u) else st.ep u := by
 simp only [St.put_ep]; by_cases h : u = t <;> simp [h]
@[go_sem] theorem f8z : (st.set t v).s u = if u = t then v else st.s u := (rfl)
@[go_sem] theorem f4k : (st.set t v).ep u = st.ep u := (rfl)
@[go_sem] theorem f4l : (st.thru N d v).s u = if u = d then v else if u = N then .dead else st.s u := by
 simp only [St.thru, St.put_s]; by_cases h : u = d <;> by_cases h2 : u = N <;> simp [h, h2]
@[go_sem] theorem e9d : (st.thru N d v).ep u = if u = d then (if nm v then (if d = N then st.ep N + 1 else st.ep d) + 1 else st.ep u) else if u = N then (if nm v then st.ep N + 1 else st.ep N) else st.ep u := by
 have hd : nm AV.dead = false := rfl
 simp only [St.thru, St.put_ep, hd]
 by_cases h1 : u = d
 ·subst h1
  by_cases h2 : nm v <;> by_cases h3 : u = N <;> simp [h2, h3]
 ·by_cases h2 : nm v <;> by_cases h3 : u = N <;> simp [h1, h2, h3]
@[go_sem] theorem g0t {a b : Nat} : (st.sc N a b).s u = if u = N then .dead else if u = N + 1 then .dead else st.s u := (rfl)
@[go_sem] theorem f8y {a b : Nat} : (st.sc N a b).ep u = if u = N then st.ep u + a else if u = N + 1 then st.ep u + b else st.ep u := (rfl)
@[go_sem] theorem e85 : (st.clear N).s u = if u < N then st.s u else .dead := (rfl)
@[go_sem] theorem e3z : (st.clear N).ep u = st.ep u := (rfl)
@[go_sem] theorem f4b {q : List Nat} {o m : Nat} : (st.kill t q o m).s u = a05 (b07 t q o m) (st.s u) := (rfl)
@[go_sem] theorem e87 {q : List Nat} {o m : Nat} : (st.kill t q o m).ep u = st.ep u := (rfl)
theorem St.ext' {a b : St} (h1 : ∀ u, a.s u = b.s u) (h2 : ∀ u, a.ep u = b.ep u) : a = b := by
 cases a; cases b; simp only [St.mk.injEq]; exact ⟨funext h1, funext h2⟩
end
@[go_sem] theorem e3t (sz n : Nat) (ks : List AV) : a0p (.own sz n ks) = some ks := (rfl)
@[go_sem] theorem e3w (ks : List AV) : a0p (.var ks) = some ks := (rfl)
@[go_sem] theorem e3s (v : Value) : a0p (.lit v) = none := (rfl)
@[go_sem] theorem d60 : a0p .dead = none := (rfl)
@[go_sem] theorem e82 (n : Nat) (ks : List AV) : a0p (.sl n ks) = none := (rfl)
@[go_sem] theorem e80 (n : Nat) (ks : List AV) : a0p (.ip ks n) = none := (rfl)
@[go_sem] theorem e3p (ks : List AV) : a0p (.agg ks) = none := (rfl)
@[go_sem] theorem e3v (ks : List AV) : a0p (.tup ks) = none := (rfl)
@[go_sem] theorem e3r (T : TypeId) (k : AV) : a0p (.ifc T k) = none := (rfl)
@[go_sem] theorem e8z (f : FuncId) (a b : List AV) : a0p (.fn f a b) = none := (rfl)
@[go_sem] theorem e3u (t : Nat) (q : List Nat) (o e : Nat) : a0p (.ref t q o e) = none := (rfl)
attribute [go_sem] e1q e1t f2z d2w e1p f20 f2y e1m e1s e1o f2x e1r e1n d2x
@[go_sem] theorem e81 (ks : List Int) (vs : List AV) : a0p (.mp ks vs) = none := (rfl)
@[go_sem] theorem d62 (ks : List AV) : a0p (.loan ks) = none := (rfl)
@[go_sem] theorem e3q (t : Nat) (q : List Nat) (lo n e : Nat) : a0p (.bor t q lo n e) = none := (rfl)
attribute [go_sem] Option.isSome_some Option.isSome_none b1s b07 List.isPrefixOf a0n a1n a04 a3v.noRefL Bool.and_true Bool.true_and Bool.and_false Bool.false_and Bool.false_eq_true Bool.not_true Bool.not_false
section
variable {P : Program} {G : GG} {N : Nat} {K : St -> Prop} {Q : Exit -> St -> Prop} {st : St} {d : Option Nat} {i : IOp} {rest : List AO}
def evS (G : GG) (N : Nat) (d : Option Nat) (i : IOp) (st : St) : Option St := ((a07 G N d i).run st).map (·.2)
@[congr] theorem d9d {st' : St} (h : st = st') : evS G N d i st = evS G N d i st' := by rw [h]
def oK (o : Option St) (K : St -> Prop) : Prop := match o with
 | some st => K st
 | none => False
@[congr] theorem e74 {o o' : Option St} (h : o = o') : oK o K = oK o' K := by rw [h]
@[go_sem] theorem f3a : oK (some st) K = K st := (rfl)
@[go_sem] theorem f29 : oK none K = False := (rfl)
@[congr] theorem d36 {a a' : List AO} {st' : St} (h : a = a') (h2 : st = st') : a9d P G N a K st = a9d P G N a' K st' := by rw [h, h2]
@[congr] theorem e41 {ic : IC} {st' : St} (h2 : st = st') : AW P G N ic Q st = AW P G N ic Q st' := by rw [h2]
@[congr] theorem d30 {e : Exit} {st' : St} (h2 : st = st') : b01 K Q e st = b01 K Q e st' := by rw [h2]
@[congr] theorem d0b {id : Nat} {e : Exit} {st' : St} (h2 : st = st') : a9n id Q e st = a9n id Q e st' := by rw [h2]
@[congr] theorem c9b {e : Exit} {st' : St} (h2 : st = st') : a7w Q e st = a7w Q e st' := by rw [h2]
@[congr] theorem d5c {rs : List ResultVar} {res : AV} {e : Exit} {st' : St} (h2 : st = st') : d5b P N rs res e st = d5b P N rs res e st' := by rw [h2]
@[go_sem] theorem e45 : a9d P G N [] K st = K st := (rfl)
@[go_sem] theorem e9m : a9d P G N (⟨d, .op i, none⟩ :: rest) K st = oK (evS G N d i st) (a9d P G N rest K) := by
 simp only [a9d, a82, b30, evS]
 cases (a07 G N d i).run st <;> rfl
@[congr] theorem e2s {v v' : AV} (h : v = v') : nqK v d K st = nqK v' d K st := by rw [h]
@[go_sem] theorem d7n {T t yT : Nat} : a9d P G N (⟨d, .nilq T (.t t) yT, none⟩ :: rest) K st = nqK (st.s t) d (a9d P G N rest K) st := (rfl)
theorem f22 {d n : Nat} {ks : List AV} (h : ∀ b : Bool, (b = true -> ks = []) -> K (st.put d (.lit (.bool b)))) : nqK (.sl n ks) (some d) K st := h
def gOp (P : Program) (G : GG) (N : Nat) (v : AV) (want : Bool) (d : Option Nat) (act : IAct) (rest : List AO) (K : St -> Prop) (st : St) : Prop := match v with
 | .lit (.bool b) => if b = want then a9d P G N (⟨d, act, none⟩ :: rest) K st else a9d P G N rest K (a2s d st)
 | .lit _ => a9d P G N rest K (a2s d st)
 | _ => False
section
variable {act : IAct}
@[congr] theorem e0b {v v' : AV} {w : Bool} (h : v = v') : gOp P G N v w d act rest K st = gOp P G N v' w d act rest K st := by rw [h]
@[go_sem] theorem f7a : gOp P G N (.lit (.bool true)) true d act rest K st = a9d P G N (⟨d, act, none⟩ :: rest) K st := (rfl)
@[go_sem] theorem f64 : gOp P G N (.lit (.bool true)) false d act rest K st = a9d P G N rest K (a2s d st) := (rfl)
@[go_sem] theorem f63 : gOp P G N (.lit (.bool false)) true d act rest K st = a9d P G N rest K (a2s d st) := (rfl)
@[go_sem] theorem f62 : gOp P G N (.lit (.bool false)) false d act rest K st = a9d P G N (⟨d, act, none⟩ :: rest) K st := (rfl)
@[go_sem] theorem f9x {w : Bool} : gOp P G N (.lit undef) w d act rest K st = a9d P G N rest K (a2s d st) := (rfl)
@[go_sem] theorem f5d {j t : Nat} {want : Bool} : a9d P G N (⟨d, act, some (j, t, want)⟩ :: rest) K st = gOp P G N (st.s t) want d act rest K st := by
 simp only [a9d, a82, gOp]
 cases st.s t <;> try rfl
 rename_i v
 cases v <;> simp [b4a, a9d, a82]
end
@[go_sem] theorem d68 {t : Nat} : a2s (some t) st = st.put t (.lit undef) := (rfl)
@[go_sem] theorem d67 : a2s none st = st := (rfl)
@[go_sem] theorem e9j : AW P G N .skip Q st = Q .normal st := (rfl)
@[go_sem] theorem f45 {ios : List AO} : AW P G N (.reg ios) Q st = a9d P G N ios (Q .normal) st := (rfl)
@[go_sem] theorem f5b {a b : IC} : AW P G N (.seq a b) Q st = AW P G N a (b01 (AW P G N b Q) Q) st := (rfl)
@[go_sem] theorem e4z {id : Nat} {a : IC} : AW P G N (.block id a) Q st = AW P G N a (a9n id Q) st := (rfl)
@[go_sem] theorem e43 {a : IC} : AW P G N (.scope a) Q st = AW P G N a (a7w Q) st := (rfl)
@[go_sem] theorem e9i {id : Nat} : AW P G N (.exit id) Q st = Q (.exit id) st := (rfl)
@[go_sem] theorem e42 {id : Nat} : AW P G N (.label id) Q st = Q .normal st := (rfl)
@[go_sem] theorem f5a : AW P G N .ret Q st = Q .ret st := (rfl)
def cAW (P : Program) (G : GG) (N : Nat) (v : AV) (x y : IC) (Q : Exit -> St -> Prop) (st : St) : Prop := match v with
 | .lit (.bool b) => if b = true then AW P G N x Q st else AW P G N y Q st
 | _ => False
section
variable {x y : IC}
@[congr] theorem d8h {v v' : AV} (h : v = v') : cAW P G N v x y Q st = cAW P G N v' x y Q st := by rw [h]
@[go_sem] theorem f9g : cAW P G N (.lit (.bool true)) x y Q st = AW P G N x Q st := (rfl)
@[go_sem] theorem f9f : cAW P G N (.lit (.bool false)) x y Q st = AW P G N y Q st := (rfl)
@[go_sem] theorem e9h {t : Nat} : AW P G N (.cond (.t t) x y) Q st = cAW P G N (if t < N then st.s t else .dead) x y Q st := by
 simp only [AW, c4l]
 by_cases h : t < N
 ·simp only [h, if_true]
  cases hs : st.s t <;> simp only [cAW]
  rename_i v
  cases v <;> simp only [cAW]
  rename_i b
  cases b <;> simp
 ·simp [h, cAW]
@[go_sem] theorem e40 {b : Bool} : AW P G N (.cond (.c (.bool b)) x y) Q st = cAW P G N (.lit (.bool b)) x y Q st := by
 cases b <;> simp [AW, c4l, cAW]
end
@[go_sem] theorem f4r : b01 K Q .normal st = K st := (rfl)
@[go_sem] theorem f4q {id : Nat} : b01 K Q (.exit id) st = Q (.exit id) st := (rfl)
@[go_sem] theorem f4s : b01 K Q .ret st = Q .ret st := (rfl)
@[go_sem] theorem e5o {id : Nat} : a9n id Q .normal st = Q .normal st := (rfl)
@[go_sem] theorem e5p {id : Nat} : a9n id Q .ret st = Q .ret st := (rfl)
@[go_sem] theorem e5n {id id' : Nat} : a9n id Q (.exit id') st = if id' = id then Q .normal st else Q (.exit id') st := (rfl)
@[go_sem] theorem e1v : a7w Q .normal st = Q .normal st := (rfl)
@[go_sem] theorem e1w : a7w Q .ret st = Q .ret st := (rfl)
@[go_sem] theorem e1u {id : Nat} : a7w Q (.exit id) st = Q (.exit id) st := (rfl)
@[go_sem] theorem f6q {rs : List ResultVar} {res : AV} : d5b P N rs res .normal st = (b27 P N st rs = some res) := (rfl)
@[go_sem] theorem f6r {rs : List ResultVar} {res : AV} : d5b P N rs res .ret st = (b27 P N st rs = some res) := (rfl)
end
end Go.Ideal
end
section
namespace Go.Ideal
def gO {α : Type} (p : Prop) [Decidable p] (o : Option α) : Option α := if p then o else none
theorem e0a {α : Type} {p : Prop} [Decidable p] {o : Option α} (h : p) : gO p o = o := by simp [gO, h]
@[congr] theorem e6r {α : Type} {p p' : Prop} [Decidable p] [Decidable p'] {o : Option α} (h : p = p') : gO p o = gO p' o := by subst h; simp only [gO]; split <;> rfl
@[go_sem] theorem f1f {α : Type} [Decidable True] {o : Option α} : gO True o = o := by simp [gO]
def b3b (st : St) (d : Nat) (o : Option AV) : Option St := match o with
 | some v => some (st.put d v)
 | none => none
@[congr] theorem d6n {st : St} {d : Nat} {o o' : Option AV} (h : o = o') : b3b st d o = b3b st d o' := by rw [h]
@[go_sem] theorem e25 {st : St} {d : Nat} {v : AV} : b3b st d (some v) = some (st.put d v) := (rfl)
section
variable {G : GG} {N d : Nat} {st : St}
def mvS (st : St) (d : Nat) (x : X) (v : AV) : Option St := match v with
 | .own _ n _ => match x with
  | .t t => some (st.put d (.bor t [] 0 n (st.ep t)))
  | _ => some (st.put d (.sl 0 []))
 | .var _ => match x with
  | .t t => some (st.put d (.ref t [] 0 (st.ep t)))
  | _ => none
 | .dead => none
 | v => if a0l v then some (st.put d v) else match x with
  | .t t => some ((st.set t (frz v)).put d (frz v))
  | _ => none
@[congr] theorem e1k {x : X} {v v' : AV} (h : v = v') : mvS st d x v = mvS st d x v' := by rw [h]
@[go_sem] theorem d9j (x : X) : evS G N (some d) (.mv x) st = mvS st d x (rdv st x) := by
 simp only [evS, a07, mvE, Ev.run_bind, a0u, Option.bind]
 cases x <;> simp only [rdv, rde, mvS, Ev.run_bind, Ev.run, setD, a2u, Option.map, a0l, if_true]
 rename_i t
 cases h : st.s t <;> simp only [mvS, Ev.run, Ev.run_bind, setD, a2u, b02, b16, Option.bind] <;> (try rfl)
 all_goals (generalize a0l _ = b; cases b <;> rfl)
@[go_sem] theorem f2q {t n sz : Nat} {ks : List AV} : mvS st d (.t t) (.own sz n ks) = some (st.put d (.bor t [] 0 n (st.ep t))) := (rfl)
@[go_sem] theorem f75 {n sz : Nat} {ks : List AV} {k : Nat} : mvS st d (.nl k) (.own sz n ks) = some (st.put d (.sl 0 [])) := (rfl)
@[go_sem] theorem f2t {t : Nat} {ks : List AV} : mvS st d (.t t) (.var ks) = some (st.put d (.ref t [] 0 (st.ep t))) := (rfl)
@[go_sem] theorem f2p {x : X} {v : Value} : mvS st d x (.lit v) = some (st.put d (.lit v)) := (rfl)
@[go_sem] theorem f76 {x : X} {n : Nat} {ks : List AV} : mvS st d x (.sl n ks) = some (st.put d (.sl n ks)) := (rfl)
@[go_sem] theorem f74 {x : X} {n : Nat} {ks : List AV} : mvS st d x (.ip ks n) = some (st.put d (.ip ks n)) := (rfl)
@[go_sem] theorem f73 {x : X} {f : FuncId} {a b : List AV} : mvS st d x (.fn f a b) = some (st.put d (.fn f a b)) := (rfl)
@[go_sem] theorem f2r {x : X} {t : Nat} {q : List Nat} {o e : Nat} : mvS st d x (.ref t q o e) = some (st.put d (.ref t q o e)) := (rfl)
@[go_sem] theorem f2n {x : X} {t : Nat} {q : List Nat} {lo n e : Nat} : mvS st d x (.bor t q lo n e) = some (st.put d (.bor t q lo n e)) := (rfl)
def iO (b : Bool) (x y : Option St) : Option St := if b then x else y
@[congr] theorem e6x {b b' : Bool} {x y : Option St} (h : b = b') : iO b x y = iO b' x y := by rw [h]
@[go_sem] theorem g1d {x y : Option St} : iO true x y = x := (rfl)
@[go_sem] theorem g1c {x y : Option St} : iO false x y = y := (rfl)
@[go_sem] theorem f2m {t : Nat} {ks : List AV} : mvS st d (.t t) (.agg ks) = iO (a0n ks) (some (st.put d (.agg ks))) (some ((st.set t (.agg (a1n ks))).put d (.agg (a1n ks)))) := (rfl)
@[go_sem] theorem f2s {t : Nat} {ks : List AV} : mvS st d (.t t) (.tup ks) = iO (a0n ks) (some (st.put d (.tup ks))) (some ((st.set t (.tup (a1n ks))).put d (.tup (a1n ks)))) := (rfl)
@[go_sem] theorem f2o {t : Nat} {T : TypeId} {k : AV} : mvS st d (.t t) (.ifc T k) = iO (a0l k) (some (st.put d (.ifc T k))) (some ((st.set t (.ifc T (frz k))).put d (.ifc T (frz k)))) := (rfl)
def d0a (st : St) (N d t : Nat) (q : List Nat) (lo n : Nat) (k : Option AV) : Option St := match k with
 | some (.own sz n0 ks) => gO (t < N /\ lo + n <= n0) (iO (q.isEmpty && lo == 0) (some ((st.put t .dead).thru N d (.own sz n (ks.take (n * sz))))) (some ((st.set t (a0o (st.s t) q (frz (.own sz n0 ks)))).put d (.sl n (((a1n ks).drop (lo * sz)).take (n * sz))))))
 | _ => none
@[congr] theorem d37 {t : Nat} {q : List Nat} {lo n : Nat} {k k' : Option AV} (h : k = k') : d0a st N d t q lo n k = d0a st N d t q lo n k' := by rw [h]
@[go_sem] theorem e49 {t : Nat} {q : List Nat} {lo n sz n0 : Nat} {ks : List AV} : d0a st N d t q lo n (some (.own sz n0 ks)) = gO (t < N /\ lo + n <= n0) (iO (q.isEmpty && lo == 0) (some ((st.put t .dead).thru N d (.own sz n (ks.take (n * sz))))) (some ((st.set t (a0o (st.s t) q (frz (.own sz n0 ks)))).put d (.sl n (((a1n ks).drop (lo * sz)).take (n * sz)))))) := (rfl)
def a2b (st : St) (t : Nat) (q : List Nat) (e : Nat) : Option AV := if e = st.ep t then a0e (st.s t) q else none
def eN (b : Bool) (k : Option AV) : Option AV := if b then k else none
@[go_sem] theorem g09 (k : Option AV) : eN true k = k := (rfl)
@[go_sem] theorem e5q {t : Nat} {q : List Nat} {e : Nat} : a2b st t q e = eN (e == st.ep t) (a0e (st.s t) q) := by
 simp only [a2b, eN]; by_cases h : e = st.ep t <;> simp [h]
@[congr] theorem e51 {b b' : Bool} {k k' : Option AV} (h : b = b') (h2 : k = k') : eN b k = eN b' k' := by rw [h, h2]
@[go_sem] theorem d6c {v : AV} : a0e v [] = some v := (rfl)
def c51 (k : Option AV) (q : List Nat) : Option AV := match k with
 | some k => a0e k q
 | none => none
@[go_sem] theorem d6f {k : AV} {q : List Nat} : c51 (some k) q = a0e k q := (rfl)
@[go_sem] theorem d6d {sz n i : Nat} {ks : List AV} {q : List Nat} : a0e (.own sz n ks) (i :: q) = c51 ks[i]? q := by
 simp only [a0e, a0p, c51]
 cases ks[i]? <;> rfl
@[go_sem] theorem d6e {i : Nat} {ks : List AV} {q : List Nat} : a0e (.var ks) (i :: q) = c51 ks[i]? q := by
 simp only [a0e, a0p, c51]
 cases ks[i]? <;> rfl
@[go_sem] theorem d3l {v k : AV} : a0o v [] k = k := (rfl)
def e34 (k : Option AV) (q : List Nat) (k' : AV) : AV := match k with
 | some k => a0o k q k'
 | none => .dead
@[go_sem] theorem e35 {k k' : AV} {q : List Nat} : e34 (some k) q k' = a0o k q k' := (rfl)
theorem b6g {ks : List AV} {i : Nat} {v : AV} (h : ks[i]? = none) : ks.set i v = ks := by
 apply List.set_eq_of_length_le; simpa using h
@[go_sem] theorem d3m {sz n i : Nat} {ks : List AV} {q : List Nat} {k' : AV} : a0o (.own sz n ks) (i :: q) k' = .own sz n (ks.set i (e34 ks[i]? q k')) := by
 simp only [a0o, a0p, e34]
 cases h : ks[i]? with
 | none => simp [b6g h]
 | some k => rfl
@[go_sem] theorem d3n {i : Nat} {ks : List AV} {q : List Nat} {k' : AV} : a0o (.var ks) (i :: q) k' = .var (ks.set i (e34 ks[i]? q k')) := by
 simp only [a0o, a0p, e34]
 cases h : ks[i]? with
 | none => simp [b6g h]
 | some k => rfl
def e9s (st : St) (N d : Nat) (x : X) (v : AV) : Option St := if a0l v then some (st.put d v) else match x with
  | .t t => some ((st.put t .dead).thru N d v)
  | _ => some (st.thru N d v)
def b5k (st : St) (N d : Nat) (x : X) (v : AV) : Option St := match v with
 | .dead => none
 | .bor t q lo n e => d0a st N d t q lo n (a2b st t q e)
 | v => e9s st N d x v
@[congr] theorem d39 {x : X} {v v' : AV} (h : v = v') : b5k st N d x v = b5k st N d x v' := by rw [h]
theorem a6t {v : AV} : (a3s N (some d) v).run st = some ((), st.thru N d v) := rfl
@[go_sem] theorem d12 (x : X) : evS G N (some d) (.asg x) st = b5k st N d x (rdv st x) := by
 have key : ∀ (v : AV) (e : Nat), ((match v with
   | .dead => Ev.fail
   | .bor t q lo n e => do
    let r2 <- b0m t
    a0i (e == r2.2 && decide (t < N))
    let k <- a3p (a0e r2.1 q)
    match k with
    | .own sz n0 ks => do
     a0i (decide (lo + n <= n0))
     if q.isEmpty && lo == 0 then do
      a2u t .dead
      a3s N (some d) (.own sz n (ks.take (n * sz)))
     else do
      b02 t (a0o r2.1 q (frz k))
      setD (some d) (.sl n (((a1n ks).drop (lo * sz)).take (n * sz)))
    | _ => .fail
   | v => a7p N (some d) x v : Ev Unit).run st).map (·.2) = b5k st N d x v := by
  intro v e
  have tail : ∀ v : AV, (∀ t q lo n e, v ≠ .bor t q lo n e) -> v ≠ .dead -> ((a7p N (some d) x v).run st).map (·.2) = e9s st N d x v := by
   intro v _ _
   cases x <;> simp only [a7p, e9s] <;> (split <;> rfl)
  cases v <;> (try (exact tail _ (by simp) (by simp)))
  ·rfl
  ·rename_i t q lo n e'
   simp only [b5k, a2b, Ev.run_bind, a1l, Option.bind]
   by_cases he : e' = st.ep t
   ·subst he
    by_cases ht : t < N
    ·simp only [beq_self_eq_true, ht, decide_true, Bool.and_self, a0i, if_true, Ev.run, a0z]
     cases hk : a0e (st.s t) q with
     | none => rfl
     | some k =>
      simp only [Option.map]
      cases k <;> try rfl
      rename_i sz n0 ks
      simp only [d0a, gO, iO, ht, true_and, Ev.run_bind, a0f, Option.bind]
      by_cases hl : lo + n <= n0
      ·simp only [hl, decide_true, if_true]
       generalize (q.isEmpty && lo == 0) = b
       cases b <;> rfl
      ·simp only [hl, decide_false, Bool.false_eq_true, if_false]
       rfl
    ·simp only [ht, decide_false, Bool.and_false, a0i, Bool.false_eq_true, if_false, Ev.run, if_true]
     cases a0e (st.s t) q with
     | none => rfl
     | some k => cases k <;> simp [d0a, gO, ht]
   ·have : (e' == st.ep t) = false := by simpa using he
    simp only [this, Bool.false_and, a0i, Bool.false_eq_true, if_false, Ev.run, he, d0a, Option.map]
 simp only [evS, a07, d38, Ev.run_bind, a0u, Option.bind]
 exact key _ 0
@[go_sem] theorem f00 (x : X) : evS G N (some d) (.mvf x) st = mvS st d x (rdv st x) := d9j (G := G) (N := N) x
@[go_sem] theorem f0z (x : X) : evS G N (some d) (.mva x) st = b5k st N d x (rdv st x) := d12 (G := G) x
@[go_sem] theorem e5e {x : X} {v : Value} : b5k st N d x (.lit v) = some (st.put d (.lit v)) := (rfl)
@[go_sem] theorem e9r {x : X} {n : Nat} {ks : List AV} : b5k st N d x (.sl n ks) = some (st.put d (.sl n ks)) := (rfl)
@[go_sem] theorem e9p {x : X} {n : Nat} {ks : List AV} : b5k st N d x (.ip ks n) = some (st.put d (.ip ks n)) := (rfl)
@[go_sem] theorem e9o {x : X} {f : FuncId} {a b : List AV} : b5k st N d x (.fn f a b) = some (st.put d (.fn f a b)) := (rfl)
@[go_sem] theorem e5g {x : X} {t : Nat} {q : List Nat} {o e : Nat} : b5k st N d x (.ref t q o e) = some (st.put d (.ref t q o e)) := (rfl)
@[go_sem] theorem e5b {x : X} {t : Nat} {q : List Nat} {lo n e : Nat} : b5k st N d x (.bor t q lo n e) = d0a st N d t q lo n (a2b st t q e) := (rfl)
@[go_sem] theorem e5f {t sz n : Nat} {ks : List AV} : b5k st N d (.t t) (.own sz n ks) = some ((st.put t .dead).thru N d (.own sz n ks)) := (rfl)
@[go_sem] theorem e9q {k sz n : Nat} {ks : List AV} : b5k st N d (.nl k) (.own sz n ks) = some (st.thru N d (.own sz n ks)) := (rfl)
@[go_sem] theorem e5i {t : Nat} {ks : List AV} : b5k st N d (.t t) (.var ks) = some ((st.put t .dead).thru N d (.var ks)) := (rfl)
@[go_sem] theorem e5a {t : Nat} {ks : List AV} : b5k st N d (.t t) (.agg ks) = iO (a0n ks) (some (st.put d (.agg ks))) (some ((st.put t .dead).thru N d (.agg ks))) := (rfl)
@[go_sem] theorem e5h {t : Nat} {ks : List AV} : b5k st N d (.t t) (.tup ks) = iO (a0n ks) (some (st.put d (.tup ks))) (some ((st.put t .dead).thru N d (.tup ks))) := (rfl)
@[go_sem] theorem e5d {t : Nat} {T : TypeId} {k : AV} : b5k st N d (.t t) (.ifc T k) = iO (a0l k) (some (st.put d (.ifc T k))) (some ((st.put t .dead).thru N d (.ifc T k))) := (rfl)
end
end Go.Ideal
end
section
namespace Go.Ideal
section
variable {G : GG} {N d : Nat} {st : St}
@[go_sem] theorem f0p {b : BinOp} {T kd : Nat} {x y : X} {yT : TypeId} : evS G N (some d) (.bin b T kd x y yT) st = b3b st d (a3b b kd (rdv st x) (rdv st y)) := by
 simp only [evS, a07, Ev.run_bind, a0u, Option.bind, a0z]
 cases a3b b kd (rdv st x) (rdv st y) <;> rfl
theorem a48 (x : X) : (b6r x).run st = match rdv st x with | .lit v => some (v, st) | _ => none := by
 simp only [b6r, Ev.run_bind, a0u, Option.bind]
 cases rdv st x <;> rfl
def d54 (v : AV) : Option Value := match v with | .lit v => some v | _ => none
@[go_sem] theorem e7b {v : Value} : d54 (.lit v) = some v := (rfl)
theorem b8v (x : X) : (b6r x).run st = (d54 (rdv st x)).map fun v => (v, st) := by
 rw [a48]; cases rdv st x <;> rfl
def unO (u : UnOp) (v : AV) : Option AV := match v with
 | .lit v => (a7f (Op.unary u v)).map .lit
 | _ => none
@[congr] theorem e4v {u : UnOp} {v v' : AV} (h : v = v') : unO u v = unO u v' := by rw [h]
@[go_sem] theorem f6w {u : UnOp} {T : TypeId} {x : X} : evS G N (some d) (.un u T x) st = b3b st d (unO u (rdv st x)) := by
 simp only [evS, a07, Ev.run_bind, a48, Option.bind]
 cases rdv st x <;> try rfl
 rename_i v
 simp only [unO, a0z]
 cases a7f (Op.unary u v) <;> rfl
@[go_sem] theorem f41 {b : Bool} : unO .not (.lit (.bool b)) = some (.lit (.bool !b)) := (rfl)
def c9i (c x y : AV) : Option AV := match c with
 | .lit c => c16 c x y
 | _ => none
@[go_sem] theorem e6j {c x y : X} : evS G N (some d) (.pick c x y) st = b3b st d (c9i (rdv st c) (rdv st x) (rdv st y)) := by
 simp only [evS, a07, Ev.run_bind, a48, Option.bind, a0u]
 cases rdv st c <;> try rfl
 simp only [a0u, c9i, a0z]
 rename_i v
 cases c16 v (rdv st x) (rdv st y) <;> rfl
@[go_sem] theorem f3i {u : Value} {y : AV} : c9i (.lit (.bool true)) (.lit u) y = some (.lit u) := by cases y <;> rfl
@[go_sem] theorem f3h {u : Value} {x : AV} : c9i (.lit (.bool false)) x (.lit u) = some (.lit u) := by cases x <;> rfl
@[go_sem] theorem d9b {T : TypeId} {zs : List AV} : evS G N (some d) (.alloc T zs) st = some (st.thru N d (.var zs)) := (rfl)
def d5z (lo n : Nat) (k : Option AV) : Option AV := match k with
 | some (.own _ n0 _) => gO (lo + n <= n0) (some (.lit (.int .i64 n)))
 | _ => none
@[congr] theorem d50 {lo n : Nat} {k k' : Option AV} (h : k = k') : d5z lo n k = d5z lo n k' := by rw [h]
@[go_sem] theorem e66 {lo n sz n0 : Nat} {ks : List AV} : d5z lo n (some (.own sz n0 ks)) = gO (lo + n <= n0) (some (.lit (.int .i64 n))) := (rfl)
def d2i (st : St) (x : X) (v : AV) : Option AV := match v with
 | .sl n _ => some (.lit (.int .i64 n))
 | .own _ n _ => some (.lit (.int .i64 n))
 | .bor t q lo n e => d5z lo n (a2b st t q e)
 | _ => none
@[congr] theorem d51 {x : X} {v v' : AV} (h : v = v') : d2i st x v = d2i st x v' := by rw [h]
theorem b7i {t : Nat} {q : List Nat} {e : Nat} (h : e = st.ep t) : a2b st t q e = a0e (st.s t) q := by simp [a2b, h]
theorem b7h {t : Nat} {q : List Nat} {e : Nat} (h : ¬ e = st.ep t) : a2b st t q e = none := by simp [a2b, h]
@[go_sem] theorem f0u {T : TypeId} {x : X} : evS G N (some d) (.len T false x) st = b3b st d (d2i st x (rdv st x)) := by
 simp only [evS, a07, Ev.run_bind, a0u, Option.bind]
 cases hv : rdv st x <;> simp only [a6d, Ev.run_bind, a0u, hv, Option.bind, Ev.run] <;> try rfl
 rename_i t q lo n e
 simp only [d2i, a1l]
 by_cases he : e = st.ep t
 ·simp only [he, beq_self_eq_true, a0i, if_true, Ev.run, Ev.run_pure, c50, Ev.run_bind, a1l, Option.bind, a0z, b7i]
  cases hk : a0e (st.s t) q with
  | none => rfl
  | some k =>
   cases k <;> try rfl
   rename_i sz n0 ks
   simp only [d5z, gO, Option.map, Ev.run_bind, a0f, Option.bind]
   by_cases hl : lo + n <= n0
   ·simp only [hl, decide_true, if_true]; rfl
   ·simp only [hl, decide_false, Bool.false_eq_true, if_false]; rfl
 ·have : (e == st.ep t) = false := by simpa using he
  simp only [this, a0i, Bool.false_eq_true, if_false, Ev.run, b7h he]
  rfl
@[go_sem] theorem f2b {x : X} {n : Nat} {ks : List AV} : d2i st x (.sl n ks) = some (.lit (.int .i64 n)) := (rfl)
@[go_sem] theorem e68 {x : X} {sz n : Nat} {ks : List AV} : d2i st x (.own sz n ks) = some (.lit (.int .i64 n)) := (rfl)
@[go_sem] theorem e67 {x : X} {t : Nat} {q : List Nat} {lo n e : Nat} : d2i st x (.bor t q lo n e) = d5z lo n (a2b st t q e) := (rfl)
def f81 (v : AV) : Option AV := match v with
 | .lit (.string s) => some (.lit (.int .i64 s.size))
 | _ => none
@[go_sem] theorem f82 {s : ByteArray} : f81 (.lit (.string s)) = some (.lit (.int .i64 s.size)) := (rfl)
@[go_sem] theorem d5i {T : TypeId} {x : X} : evS G N (some d) (.len T true x) st = b3b st d (f81 (rdv st x)) := by
 simp only [evS, a07, Ev.run_bind, a48, Option.bind]
 cases rdv st x <;> try rfl
 rename_i v
 cases v <;> rfl
@[go_sem] theorem e3k {v : AV} : a3g v [] = a0p v := by cases v <;> rfl
def e3n (k : Option AV) (q : List Nat) : Option (List AV) := match k with
 | some k => a3g k q
 | none => none
@[go_sem] theorem e3o {k : AV} {q : List Nat} : e3n (some k) q = a3g k q := (rfl)
@[go_sem] theorem e3l {sz n i : Nat} {ks : List AV} {q : List Nat} : a3g (.own sz n ks) (i :: q) = e3n ks[i]? q := by
 simp only [a3g, a0p, e3n]; cases ks[i]? <;> rfl
@[go_sem] theorem e3m {i : Nat} {ks : List AV} {q : List Nat} : a3g (.var ks) (i :: q) = e3n ks[i]? q := by
 simp only [a3g, a0p, e3n]; cases ks[i]? <;> rfl
@[go_sem] theorem d65 {sz n : Nat} {ks ks' : List AV} : setRow (.own sz n ks) [] ks' = .own sz n ks' := (rfl)
@[go_sem] theorem d66 {ks ks' : List AV} : setRow (.var ks) [] ks' = .var ks' := (rfl)
def c6l (k : Option AV) (q : List Nat) (ks' : List AV) : AV := match k with
 | some k => setRow k q ks'
 | none => .dead
@[go_sem] theorem d64 {k : AV} {q : List Nat} {ks' : List AV} : c6l (some k) q ks' = setRow k q ks' := (rfl)
@[go_sem] theorem d3o {sz n i : Nat} {ks : List AV} {q : List Nat} {ks' : List AV} : setRow (.own sz n ks) (i :: q) ks' = .own sz n (ks.set i (c6l ks[i]? q ks')) := by
 simp only [setRow, a0p, c6l]
 cases h : ks[i]? with
 | none => simp [b6g h]
 | some k => rfl
@[go_sem] theorem d3p {i : Nat} {ks : List AV} {q : List Nat} {ks' : List AV} : setRow (.var ks) (i :: q) ks' = .var (ks.set i (c6l ks[i]? q ks')) := by
 simp only [setRow, a0p, c6l]
 cases h : ks[i]? with
 | none => simp [b6g h]
 | some k => rfl
def eR (b : Bool) (k : Option (List AV)) : Option (List AV) := if b then k else none
@[congr] theorem e52 {b b' : Bool} {k k' : Option (List AV)} (h : b = b') (h2 : k = k') : eR b k = eR b' k' := by rw [h, h2]
@[go_sem] theorem g1a (k : Option (List AV)) : eR true k = k := (rfl)
def ptO (t : Nat) (q : List Nat) (o : Nat) (r : Option (List AV)) : Option (Nat × List Nat × Nat × List AV) := match r with
 | some ks => gO (o < ks.length) (some (t, q, o, ks))
 | none => none
@[go_sem] theorem e8f {t : Nat} {q : List Nat} {o : Nat} {ks : List AV} : ptO t q o (some ks) = gO (o < ks.length) (some (t, q, o, ks)) := (rfl)
def a6x (st : St) (x : X) (v : AV) : Option (Nat × List Nat × Nat × List AV) := match v with
 | .var ks => match x with
  | .t t => ptO t [] 0 (some ks)
  | _ => none
 | .ref t q o e => ptO t q o (eR (e == st.ep t) (a3g (st.s t) q))
 | _ => none
@[congr] theorem d6w {x : X} {v v' : AV} (h : v = v') : a6x st x v = a6x st x v' := by rw [h]
@[go_sem] theorem e8x {t : Nat} {ks : List AV} : a6x st (.t t) (.var ks) = gO (0 < ks.length) (some (t, [], 0, ks)) := (rfl)
@[go_sem] theorem e8w {x : X} {t : Nat} {q : List Nat} {o e : Nat} : a6x st x (.ref t q o e) = ptO t q o (eR (e == st.ep t) (a3g (st.s t) q)) := (rfl)
theorem a8g (x : X) : (c30 x).run st = (a6x st x (rdv st x)).map fun r => ((r.1, r.2.1, r.2.2.1, st.s r.1, st.ep r.1, r.2.2.2), st) := by
 simp only [c30, b9t, Ev.run_bind, a0u, Option.bind]
 cases x with
 | t n =>
  simp only [rdv]
  cases hv : st.s n <;> simp only [b16, Ev.run, Ev.run_bind, Ev.run_pure, Option.bind, a1l, a6x, a0z, Option.map] <;> try rfl
  ·rename_i ks
   have h2 : a3g (AV.var ks) [] = some ks := rfl
   simp only [hv, h2, ptO, gO, a0f]
   by_cases hl : 0 < ks.length
   ·simp only [hl, decide_true, if_true, hv]
   ·simp only [hl, decide_false, Bool.false_eq_true, if_false]
  ·rename_i t q o e
   by_cases he : e = st.ep t
   ·simp only [he, beq_self_eq_true, a0i, if_true, Ev.run, Ev.run_pure, eR]
    cases hk : a3g (st.s t) q with
    | none => rfl
    | some ks =>
     simp only [ptO, gO]
     by_cases hl : o < ks.length
     ·simp only [hl, decide_true, if_true, Ev.run]
     ·simp only [hl, decide_false, Bool.false_eq_true, if_false, Ev.run]
   ·have : (e == st.ep t) = false := by simpa using he
    simp only [this, a0i, Bool.false_eq_true, if_false, Ev.run, eR, ptO]
 | c v => rfl
 | nl n => rfl
 | g n => rfl
 | f n => rfl
def ldK (st : St) (t : Nat) (q : List Nat) (o : Nat) (k : Option AV) : Option AV := match k with
 | some (.own _ n _) => some (.bor t (q ++ [o]) 0 n (st.ep t))
 | some (.mp _ _) => some (.bor t (q ++ [o]) 0 0 (st.ep t))
 | some k => if a0l k then some k else none
 | none => none
@[congr] theorem e0v {t : Nat} {q : List Nat} {o : Nat} {k k' : Option AV} (h : k = k') : ldK st t q o k = ldK st t q o k' := by rw [h]
section
variable {t : Nat} {q : List Nat} {o : Nat}
@[go_sem] theorem f2a {sz n : Nat} {ks : List AV} : ldK st t q o (some (.own sz n ks)) = some (.bor t (q ++ [o]) 0 n (st.ep t)) := (rfl)
@[go_sem] theorem f7t {a : List Int} {b : List AV} : ldK st t q o (some (.mp a b)) = some (.bor t (q ++ [o]) 0 0 (st.ep t)) := (rfl)
@[go_sem] theorem f19 {v : Value} : ldK st t q o (some (.lit v)) = some (.lit v) := (rfl)
@[go_sem] theorem f7u {n : Nat} {ks : List AV} : ldK st t q o (some (.sl n ks)) = some (.sl n ks) := (rfl)
@[go_sem] theorem f7s {n : Nat} {ks : List AV} : ldK st t q o (some (.ip ks n)) = some (.ip ks n) := (rfl)
@[go_sem] theorem f7r {f : FuncId} {a b : List AV} : ldK st t q o (some (.fn f a b)) = some (.fn f a b) := (rfl)
@[go_sem] theorem e0w {T : TypeId} {n : Nat} {ks : List AV} : ldK st t q o (some (.ifc T (.ip ks n))) = some (.ifc T (.ip ks n)) := (rfl)
end
def ldS (st : St) (d : Nat) (r : Option (Nat × List Nat × Nat × List AV)) : Option St := match r with
 | some (t, q, o, ks) => b3b st d (ldK st t q o ks[o]?)
 | none => none
@[congr] theorem e0x {r r' : Option (Nat × List Nat × Nat × List AV)} (h : r = r') : ldS st d r = ldS st d r' := by rw [h]
@[go_sem] theorem e64 {t : Nat} {q : List Nat} {o : Nat} {ks : List AV} : ldS st d (some (t, q, o, ks)) = b3b st d (ldK st t q o ks[o]?) := (rfl)
def ipK (k : Option AV) : Option AV := match k with
 | some k => if a0l k then some k else none
 | none => none
@[go_sem] theorem f16 {v : Value} : ipK (some (.lit v)) = some (.lit v) := (rfl)
@[go_sem] theorem f7o {n : Nat} {ks : List AV} : ipK (some (.sl n ks)) = some (.sl n ks) := (rfl)
@[go_sem] theorem f7n {n : Nat} {ks : List AV} : ipK (some (.ip ks n)) = some (.ip ks n) := (rfl)
@[go_sem] theorem f7m {f : FuncId} {a b : List AV} : ipK (some (.fn f a b)) = some (.fn f a b) := (rfl)
@[go_sem] theorem e0k {T : TypeId} {n : Nat} {ks : List AV} : ipK (some (.ifc T (.ip ks n))) = some (.ifc T (.ip ks n)) := (rfl)
def b5z (G : GG) (st : St) (d : Nat) (x : X) (v : AV) : Option St := match v with
 | .lit (.pointer (some ⟨g, 0, none⟩)) => b3b st d ((G g).map .lit)
 | .ip ks off => b3b st d (ipK ks[off]?)
 | v => ldS st d (a6x st x v)
@[congr] theorem d2o {x : X} {v v' : AV} (h : v = v') : b5z G st d x v = b5z G st d x v' := by rw [h]
theorem c6i (x : X) : ((b73 (some d) none x).run st).map (·.2) = ldS st d (a6x st x (rdv st x)) := by
 simp only [b73, Ev.run_bind, a8g, Option.bind, ldS]
 cases a6x st x (rdv st x) with
 | none => rfl
 | some r =>
  obtain ⟨t, q, o, ks⟩ := r
  simp only [Option.map, a0z]
  cases ks[o]? with
  | none => rfl
  | some k =>
   simp only
   cases k <;> simp only [a9u, ldK, Ev.run_bind, a0f, Option.bind] <;> first | rfl | (generalize a0l _ = b; cases b <;> rfl)
@[go_sem] theorem e6g {T : TypeId} {x : X} : evS G N (some d) (.load T none x) st = b5z G st d x (rdv st x) := by
 simp only [evS, a07, Ev.run_bind, a0u, Option.bind]
 have h := c6i (d := d) (st := st) x
 cases hv : rdv st x <;> rw [hv] at h <;> try exact h
 ·rename_i v
  unfold b5z
  split <;> split <;> simp_all
  generalize G _ = r
  cases r <;> rfl
 ·rename_i ks off
  simp only [b5z, Ev.run_bind, a0z, Option.bind, Option.map]
  cases ks[off]? with
  | none => rfl
  | some k =>
   simp only [Ev.run_bind, a0f, Option.bind, ipK]
   generalize a0l k = b
   cases b <;> rfl
@[go_sem] theorem f2h {x : X} {g : Nat} : b5z G st d x (.lit (.pointer (some ⟨g, 0, none⟩))) = b3b st d ((G g).map .lit) := (rfl)
@[go_sem] theorem e7h {x : X} {ks : List AV} {off : Nat} : b5z G st d x (.ip ks off) = b3b st d (ipK ks[off]?) := (rfl)
@[go_sem] theorem e04 {x : X} {ks : List AV} : b5z G st d x (.var ks) = ldS st d (a6x st x (.var ks)) := (rfl)
@[go_sem] theorem e03 {x : X} {t : Nat} {q : List Nat} {o e : Nat} : b5z G st d x (.ref t q o e) = ldS st d (a6x st x (.ref t q o e)) := (rfl)
def lmS (st : St) (d s : Nat) (r : Option (Nat × List Nat × Nat × List AV)) : Option St := match r with
 | some (t, q, o, ks) => gO (o + s <= ks.length) (iO (a0n ((ks.drop o).take s)) (some (st.put d (.agg ((ks.drop o).take s)))) (some ((st.set t (setRow (st.s t) q (a0g ks o (a1n ((ks.drop o).take s))))).put d (.agg (a1n ((ks.drop o).take s))))))
 | none => none
@[congr] theorem e0z {s : Nat} {r r' : Option (Nat × List Nat × Nat × List AV)} (h : r = r') : lmS st d s r = lmS st d s r' := by rw [h]
@[go_sem] theorem e7c {s t : Nat} {q : List Nat} {o : Nat} {ks : List AV} : lmS st d s (some (t, q, o, ks)) = gO (o + s <= ks.length) (iO (a0n ((ks.drop o).take s)) (some (st.put d (.agg ((ks.drop o).take s)))) (some ((st.set t (setRow (st.s t) q (a0g ks o (a1n ((ks.drop o).take s))))).put d (.agg (a1n ((ks.drop o).take s)))))) := (rfl)
def lmX (st : St) (d s : Nat) (x : X) (v : AV) : Option St := match v with
 | .ip ks off => gO (off + s <= ks.length /\ a0n ((ks.drop off).take s) = true) (some (st.put d (.agg ((ks.drop off).take s))))
 | v => lmS st d s (a6x st x v)
@[congr] theorem e00 {s : Nat} {x : X} {v v' : AV} (h : v = v') : lmX st d s x v = lmX st d s x v' := by rw [h]
@[go_sem] theorem f7y {s : Nat} {x : X} {ks : List AV} {off : Nat} : lmX st d s x (.ip ks off) = gO (off + s <= ks.length /\ a0n ((ks.drop off).take s) = true) (some (st.put d (.agg ((ks.drop off).take s)))) := (rfl)
@[go_sem] theorem f2g {s : Nat} {x : X} {ks : List AV} : lmX st d s x (.var ks) = lmS st d s (a6x st x (.var ks)) := (rfl)
@[go_sem] theorem f2f {s : Nat} {x : X} {t : Nat} {q : List Nat} {o e : Nat} : lmX st d s x (.ref t q o e) = lmS st d s (a6x st x (.ref t q o e)) := (rfl)
theorem c3s (x : X) (s : Nat) : ((b73 (some d) (some s) x).run st).map (·.2) = lmS st d s (a6x st x (rdv st x)) := by
 simp only [b73, Ev.run_bind, a8g, Option.bind, lmS]
 cases a6x st x (rdv st x) with
 | none => rfl
 | some r =>
  obtain ⟨t, q, o, ks⟩ := r
  simp only [Option.map, Ev.run_bind, a0f, Option.bind, gO]
  by_cases hl : o + s <= ks.length
  ·simp only [hl, decide_true, if_true, iO]
   generalize a0n _ = b
   cases b <;> rfl
  ·simp only [hl, decide_false, Bool.false_eq_true, if_false]
@[go_sem] theorem d9h {T : TypeId} {x : X} {s : Nat} : evS G N (some d) (.load T (some s) x) st = lmX st d s x (rdv st x) := by
 simp only [evS, a07, Ev.run_bind, a0u, Option.bind]
 have h := c3s (d := d) (st := st) x s
 cases hv : rdv st x <;> rw [hv] at h <;> try exact h
 ·split <;> simp_all <;> rfl
 rename_i ks off
 simp only [lmX, Ev.run_bind, a0f, Option.bind, Option.map, gO]
 by_cases hl : off + s <= ks.length
 ·simp only [hl, decide_true, Bool.true_and, true_and]
  generalize a0n _ = b
  cases b <;> rfl
 ·simp only [hl, decide_false, Bool.false_and, Bool.false_eq_true, if_false, false_and]
def c7i (st : St) (d : Nat) (x : X) (v : AV) : Option St := match v with
 | .ip ks o => some (st.put d (.ip ks o))
 | .fn f a b => some (st.put d (.fn f a b))
 | v => match a6x st x v with
  | some (t, q, o, ks) => some (st.put d (.ref t q o (st.ep t)))
  | none => none
def c5v (st : St) (d off : Nat) (r : Option (Nat × List Nat × Nat × List AV)) : Option St := match r with
 | some (t, q, o, ks) => some (st.put d (.ref t q (o + off) (st.ep t)))
 | none => none
@[congr] theorem d59 {off : Nat} {r r' : Option (Nat × List Nat × Nat × List AV)} (h : r = r') : c5v st d off r = c5v st d off r' := by rw [h]
@[go_sem] theorem e1l {off t : Nat} {q : List Nat} {o : Nat} {ks : List AV} : c5v st d off (some (t, q, o, ks)) = some (st.put d (.ref t q (o + off) (st.ep t))) := (rfl)
@[congr] theorem d6a {x : X} {v v' : AV} (h : v = v') : c7i st d x v = c7i st d x v' := by rw [h]
@[go_sem] theorem d9k {x : X} : evS G N (some d) (.nilck x) st = c7i st d x (rdv st x) := by
 simp only [evS, a07, Ev.run_bind, a0u, Option.bind]
 cases hv : rdv st x <;> simp only [c7i, Ev.run_bind, a8g, Option.bind, hv] <;> try rfl
 ·generalize a6x st x _ = r; cases r <;> rfl
 ·generalize a6x st x _ = r; cases r <;> rfl
@[go_sem] theorem f2v {x : X} {ks : List AV} {o : Nat} : c7i st d x (.ip ks o) = some (st.put d (.ip ks o)) := (rfl)
@[go_sem] theorem f2u {x : X} {f : FuncId} {a b : List AV} : c7i st d x (.fn f a b) = some (st.put d (.fn f a b)) := (rfl)
@[go_sem] theorem e7r {x : X} {ks : List AV} : c7i st d x (.var ks) = c5v st d 0 (a6x st x (.var ks)) := by
 simp only [c7i, c5v]; cases a6x st x (.var ks) <;> rfl
@[go_sem] theorem e7q {x : X} {t : Nat} {q : List Nat} {o e : Nat} : c7i st d x (.ref t q o e) = c5v st d 0 (a6x st x (.ref t q o e)) := by
 simp only [c7i, c5v]; cases a6x st x (.ref t q o e) <;> rfl
def d14 (st : St) (d off : Nat) (x : X) (v : AV) : Option St := match v with
 | .ip ks o => some (st.put d (.ip ks (o + off)))
 | v => c5v st d off (a6x st x v)
@[congr] theorem d5l {off : Nat} {x : X} {v v' : AV} (h : v = v') : d14 st d off x v = d14 st d off x v' := by rw [h]
@[go_sem] theorem d9f {T : TypeId} {off f : Nat} {x : X} : evS G N (some d) (.faddr T off x f) st = d14 st d off x (rdv st x) := by
 simp only [evS, a07, Ev.run_bind, a0u, Option.bind]
 cases hv : rdv st x <;> simp only [d14, Ev.run_bind, a8g, Option.bind, hv, c5v] <;> try rfl
 ·generalize a6x st x _ = r; cases r <;> rfl
 ·generalize a6x st x _ = r; cases r <;> rfl
@[go_sem] theorem f03 {off : Nat} {x : X} {ks : List AV} {o : Nat} : d14 st d off x (.ip ks o) = some (st.put d (.ip ks (o + off))) := (rfl)
@[go_sem] theorem e6m {off : Nat} {x : X} {ks : List AV} : d14 st d off x (.var ks) = c5v st d off (a6x st x (.var ks)) := (rfl)
@[go_sem] theorem e6l {off : Nat} {x : X} {t : Nat} {q : List Nat} {o e : Nat} : d14 st d off x (.ref t q o e) = c5v st d off (a6x st x (.ref t q o e)) := (rfl)
end
end Go.Ideal
end
section
namespace Go.Ideal
section
variable {G : GG} {N d : Nat} {st : St}
def d2e (st : St) (N t : Nat) (q : List Nat) (lo n : Nat) (k : Option AV) : Option (St × List AV) := match k with
 | some (.own sz n0 ks) => gO (lo + n <= n0 /\ t < N) (some (st.set t (a0o (st.s t) q (frz (.own sz n0 ks))), [.sl n (((a1n ks).drop (lo * sz)).take (n * sz))]))
 | _ => none
@[congr] theorem d5o {t : Nat} {q : List Nat} {lo n : Nat} {k k' : Option AV} (h : k = k') : d2e st N t q lo n k = d2e st N t q lo n k' := by rw [h]
@[go_sem] theorem e6s {t : Nat} {q : List Nat} {lo n sz n0 : Nat} {ks : List AV} : d2e st N t q lo n (some (.own sz n0 ks)) = gO (lo + n <= n0 /\ t < N) (some (st.set t (a0o (st.s t) q (frz (.own sz n0 ks))), [.sl n (((a1n ks).drop (lo * sz)).take (n * sz))])) := (rfl)
def c7a (st : St) (x : X) (ks : List AV) : Option (St × List AV) := match x with
 | .t t => some (st.put t .dead, ks)
 | _ => none
@[go_sem] theorem f7c {t : Nat} {ks : List AV} : c7a st (.t t) ks = some (st.put t .dead, ks) := (rfl)
def e6t (st : St) (x : X) (ks : List AV) : Option (St × List AV) := match x with
 | .t t => some (st.put t .dead, ks)
 | _ => some (st, ks)
@[go_sem] theorem f7b {t : Nat} {ks : List AV} : e6t st (.t t) ks = some (st.put t .dead, ks) := (rfl)
@[go_sem] theorem f1g {t : Nat} {ks : List AV} : e6t st (.nl t) ks = some (st, ks) := (rfl)
def giv (st : St) (N : Nat) (x : X) (v : AV) : Option (St × List AV) := match v with
 | .dead => none
 | .tup _ => none
 | .ref _ _ _ _ => none
 | .bor t q lo n e => d2e st N t q lo n (a2b st t q e)
 | .agg ks => c7a st x ks
 | .own sz n ks => e6t st x [.own sz n ks]
 | .var ks => c7a st x [frz (.var ks)]
 | .ifc T k => c7a st x [frz (.ifc T k)]
 | .mp a b => c7a st x [.mp a b]
 | .fn f a b => if a3v.noRefL a && a3v.noRefL b then some (st, [.fn f a b]) else none
 | v => if a3v.oneAV v then some (st, [v]) else none
@[congr] theorem e0c {x : X} {v v' : AV} (h : v = v') : giv st N x v = giv st N x v' := by rw [h]
theorem a95 (x : X) : (a3v x N).run st = (giv st N x (rdv st x)).map fun r => ((), r.1.put N (.agg r.2)) := by
 have hbor : ∀ (t : Nat) (q : List Nat) (lo n e : Nat), (do
    let r2 <- b0m t
    a0i (e == r2.2)
    let k <- a3p (a0e r2.1 q)
    match k with
    | .own sz n0 ks => do
     a0i (decide (lo + n <= n0) && decide (t < N))
     b02 t (a0o r2.1 q (frz k))
     a2u N (.agg [.sl n (((a1n ks).drop (lo * sz)).take (n * sz))])
    | _ => .fail : Ev Unit).run st = (d2e st N t q lo n (a2b st t q e)).map fun r => ((), r.1.put N (.agg r.2)) := by
  intro t q lo n e
  simp only [a2b, Ev.run_bind, a1l, Option.bind]
  by_cases he : e = st.ep t
  ·subst he
   simp only [beq_self_eq_true, a0i, if_true, Ev.run, a0z]
   cases hk : a0e (st.s t) q with
   | none => rfl
   | some k =>
    simp only [Option.map]
    cases k <;> try rfl
    rename_i sz n0 ks
    simp only [d2e, gO, Ev.run_bind, Option.bind]
    by_cases h1 : lo + n <= n0
    ·by_cases h2 : t < N
     ·simp only [h1, h2, decide_true, Bool.and_self, if_true, and_self]; rfl
     ·simp only [h1, h2, decide_true, decide_false, Bool.and_false, Bool.false_eq_true, if_false, and_false]; rfl
    ·simp only [h1, decide_false, Bool.false_and, Bool.false_eq_true, if_false, false_and]; rfl
  ·have : (e == st.ep t) = false := by simpa using he
   simp only [this, a0i, Bool.false_eq_true, if_false, Ev.run, he]
   rfl
 simp only [a3v, Ev.run_bind, a0u, Option.bind]
 cases x with
 | t n =>
  simp only [rdv]
  cases hv : st.s n <;> simp only [giv] <;> first | exact hbor _ _ _ _ _ | rfl | (simp only [Ev.run_bind, a0f, Option.bind, Option.map]; generalize (a3v.noRefL _ && a3v.noRefL _) = b; cases b <;> rfl) | (simp only [Ev.run_bind, a0f, Option.bind, Option.map]; generalize a3v.oneAV _ = b; cases b <;> rfl)
 | c v => simp only [rdv, giv, Ev.run_bind, a0f, Option.bind, Option.map]; generalize a3v.oneAV _ = b; cases b <;> rfl
 | nl n => rfl
 | g n => rfl
 | f n => rfl
def one (b : Bool) (r : Option (St × List AV)) : Option (St × List AV) := if b then r else none
@[congr] theorem e2u {b b' : Bool} {r : Option (St × List AV)} (h : b = b') : one b r = one b' r := by rw [h]
@[go_sem] theorem g0g {r : Option (St × List AV)} : one true r = r := (rfl)
@[go_sem] theorem f1k {x : X} {v : Value} : giv st N x (.lit v) = one v.oneCell' (some (st, [.lit v])) := (rfl)
@[go_sem] theorem f7g {x : X} {n : Nat} {ks : List AV} : giv st N x (.sl n ks) = some (st, [.sl n ks]) := (rfl)
@[go_sem] theorem f7e {x : X} {n : Nat} {ks : List AV} : giv st N x (.ip ks n) = some (st, [.ip ks n]) := (rfl)
@[go_sem] theorem f7d {x : X} {f : FuncId} {a b : List AV} : giv st N x (.fn f a b) = one (a3v.noRefL a && a3v.noRefL b) (some (st, [.fn f a b])) := (rfl)
@[go_sem] theorem f1i {x : X} {t : Nat} {q : List Nat} {lo n e : Nat} : giv st N x (.bor t q lo n e) = d2e st N t q lo n (a2b st t q e) := (rfl)
@[go_sem] theorem f1h {x : X} {ks : List AV} : giv st N x (.agg ks) = c7a st x ks := (rfl)
@[go_sem] theorem f1l {x : X} {sz n : Nat} {ks : List AV} : giv st N x (.own sz n ks) = e6t st x [.own sz n ks] := (rfl)
@[go_sem] theorem f1m {x : X} {ks : List AV} : giv st N x (.var ks) = c7a st x [.ip (a1n ks) 0] := (rfl)
@[go_sem] theorem f7f {x : X} {a : List Int} {b : List AV} : giv st N x (.mp a b) = c7a st x [.mp a b] := (rfl)
@[go_sem] theorem f1j {x : X} {T : TypeId} {k : AV} : giv st N x (.ifc T k) = c7a st x [.ifc T (frz k)] := (rfl)
attribute [go_sem] Value.oneCell'
def e7d (G : GG) (st : St) (N d T s t : Nat) (v : AV) : Option St := match v with
 | .var ks => gO (t < N /\ ks.length = s /\ 0 < s) (some ((st.set t .dead).thru N d (.agg ks)))
 | _ => evS G N (some d) (.lmv T s (.t t)) st
@[congr] theorem d55 {T s t : Nat} {v v' : AV} (h : v = v') : e7d G st N d T s t v = e7d G st N d T s t v' := by rw [h]
theorem d3k {T s t : Nat} {ks : List AV} (h : st.s t = .var ks) : evS G N (some d) (.lmv T s (.t t)) st = gO (t < N /\ ks.length = s /\ 0 < s) (some ((st.set t .dead).thru N d (.agg ks))) := by
 simp only [evS, a07, b9t, Ev.run_bind, a0u, rdv, h, Option.bind, b16, Ev.run, Ev.run_pure, a1l, a0f, gO]
 by_cases h1 : t < N
 ·by_cases h2 : ks.length = s
  ·by_cases h3 : 0 < s
   ·simp only [h1, h2, h3, List.isEmpty_nil, BEq.rfl, decide_true, Bool.and_self, if_true, and_self, b6d, a6t, Option.map]
   ·simp [h1, h2, h3]
  ·simp [h1, h2]
 ·simp [h1]
@[go_sem] theorem f0v {T s t : Nat} : evS G N (some d) (.lmv T s (.t t)) st = e7d G st N d T s t (st.s t) := by
 cases h : st.s t <;> first | rfl | exact d3k h
@[go_sem] theorem e7e {T s t : Nat} {ks : List AV} : e7d G st N d T s t (.var ks) = gO (t < N /\ ks.length = s /\ 0 < s) (some ((st.set t .dead).thru N d (.agg ks))) := (rfl)
theorem b1l {v : AV} (h : nm v = false) : (st.put N v).put N .dead = st.put N .dead := by
 refine St.ext' (fun u => ?_) (fun u => ?_)
 ·simp only [St.put_s]; split <;> rfl
 ·have hd : nm AV.dead = false := rfl
  simp only [St.put_ep, h, hd, Bool.false_eq_true, and_false, if_false]
def c6t (st : St) (N s : Nat) (cs : List AV) (r : Option (Nat × List Nat × Nat × List AV)) : Option St := match r with
 | some (t, q, o, ks) => gO (cs.length = s /\ 0 < s /\ t < N /\ o + s <= ks.length) (iO (a0n cs) (some (st.set t (setRow (st.s t) q (a0g ks o cs)))) (some ((st.kill t q o s).set t (setRow (st.s t) q (a0g ks o cs)))))
 | none => none
@[congr] theorem d7c {s : Nat} {cs : List AV} {r r' : Option (Nat × List Nat × Nat × List AV)} (h : r = r') : c6t st N s cs r = c6t st N s cs r' := by rw [h]
@[go_sem] theorem e4l {s t : Nat} {q : List Nat} {o : Nat} {cs ks : List AV} : c6t st N s cs (some (t, q, o, ks)) = gO (cs.length = s /\ 0 < s /\ t < N /\ o + s <= ks.length) (iO (a0n cs) (some (st.set t (setRow (st.s t) q (a0g ks o cs)))) (some ((st.kill t q o s).set t (setRow (st.s t) q (a0g ks o cs))))) := (rfl)
def d7e (st : St) (N s : Nat) (x : X) (cs : List AV) : Option St := c6t st N s cs (a6x st x (rdv st x))
@[congr] theorem d7f {s : Nat} {x : X} {cs : List AV} {st' : St} (h : st = st') : d7e st N s x cs = d7e st' N s x cs := by rw [h]
@[go_sem] theorem f4n {s : Nat} {x : X} {cs : List AV} : d7e st N s x cs = c6t st N s cs (a6x st x (rdv st x)) := (rfl)
def e4m (N s : Nat) (x : X) (r : Option (St × List AV)) : Option St := match r with
 | some (st1, cs) => d7e (st1.put N .dead) N s x cs
 | none => none
@[congr] theorem d7d {s : Nat} {x : X} {r r' : Option (St × List AV)} (h : r = r') : e4m N s x r = e4m N s x r' := by rw [h]
@[go_sem] theorem e4n {s : Nat} {x : X} {cs : List AV} : e4m N s x (some (st, cs)) = d7e (st.put N .dead) N s x cs := (rfl)
theorem c6u {s : Nat} {cs : List AV} {r : Option (Nat × List Nat × Nat × List AV)} (h : ∀ p, r = some p -> ¬ p.1 < N) : c6t st N s cs r = none := by
 cases r with
 | none => rfl
 | some p =>
  obtain ⟨t, q, o, ks⟩ := p
  have := h _ rfl
  simp only [c6t, gO]
  rw [if_neg]
  rintro ⟨_, _, h1, _⟩
  exact this h1
def f4m (N s t : Nat) (q : List Nat) (o : Nat) (v : AV) (ks : List AV) : Ev Unit := do
  let cs <- b89 N
  a0i (decide (cs.length = s) && decide (0 < s) && decide (t < N) && decide (o + s <= ks.length))
  a2u N .dead
  if a0n cs then b02 t (setRow v q (a0g ks o cs)) else do
   c25 t q o s
   b02 t (setRow v q (a0g ks o cs))
theorem c9t {s t : Nat} {q : List Nat} {o : Nat} {cs ks : List AV} : ((f4m N s t q o ((st.put N (.agg cs)).s t) ks).run (st.put N (.agg cs))).map (·.2) = c6t (st.put N .dead) N s cs (some (t, q, o, ks)) := by
 have hN : (st.put N (.agg cs)).s N = .agg cs := by simp
 simp only [f4m, b89, Ev.run_bind, a4r, hN, Option.bind, Ev.run_pure, a0f, c6t, gO]
 by_cases h3 : cs.length = s /\ 0 < s /\ t < N /\ o + s <= ks.length
 ·obtain ⟨g1, g2, g3, g4⟩ := h3
  have htN : t ≠ N := Nat.ne_of_lt g3
  simp only [g1, g2, g3, g4, decide_true, Bool.and_self, if_true, and_self, a5y, b1l (show nm (AV.agg cs) = false from rfl), iO, htN, if_false, St.put_s]
  generalize a0n cs = b
  cases b <;> rfl
 ·have : (decide (cs.length = s) && decide (0 < s) && decide (t < N) && decide (o + s <= ks.length)) = false := by
   simp only [Bool.and_eq_false_iff, decide_eq_false_iff_not]
   simp only [not_and] at h3
   by_cases g1 : cs.length = s
   ·by_cases g2 : 0 < s
    ·by_cases g3 : t < N
     ·exact .inr (h3 g1 g2 g3)
     ·exact .inl (.inr g3)
    ·exact .inl (.inl (.inr g2))
   ·exact .inl (.inl (.inl g1))
  simp only [this, Bool.false_eq_true, if_false, h3]
  rfl
@[go_sem] theorem d9m {T : TypeId} {s : Nat} {x y : X} : evS G N none (.store T s x y) st = e4m N s x (giv st N y (rdv st y)) := by
 have e : a07 G N none (.store T s x y) = (a3v y N >>= fun _ => c30 x >>= fun p => f4m N s p.1 p.2.1 p.2.2.1 p.2.2.2.1 p.2.2.2.2.2) := rfl
 simp only [evS, e, Ev.run_bind, a95, Option.bind, Ev.run]
 cases giv st N y (rdv st y) with
 | none => rfl
 | some r =>
  obtain ⟨st1, cs⟩ := r
  simp only [Option.map, a8g, e4m, d7e]
  have hd : nm AV.dead = false := rfl
  have ha : nm (AV.agg cs) = false := rfl
  have hep : ∀ t, (st1.put N (.agg cs)).ep t = (st1.put N .dead).ep t := fun t => by simp only [St.put_ep, hd, ha, Bool.false_eq_true, and_false, if_false]
  have hpt : ∀ (z : AV) t q o e p, a6x (st1.put N z) x (.ref t q o e) = some p -> p.1 = t := by
   intro z t q o e p hp
   simp only [a6x] at hp
   cases hr : eR (e == (st1.put N z).ep t) (a3g ((st1.put N z).s t) q) with
   | none => rw [hr] at hp; cases hp
   | some ks =>
    rw [hr] at hp
    simp only [ptO, gO] at hp
    split at hp
    ·injection hp with hp; rw [<- hp]
    ·cases hp
  suffices hq : c6t (st1.put N .dead) N s cs (a6x (st1.put N (.agg cs)) x (rdv (st1.put N (.agg cs)) x)) = c6t (st1.put N .dead) N s cs (a6x (st1.put N .dead) x (rdv (st1.put N .dead) x)) by
   rw [<- hq]
   cases a6x (st1.put N (.agg cs)) x (rdv (st1.put N (.agg cs)) x) with
   | none => rfl
   | some p => obtain ⟨t, q, o, ks⟩ := p; exact c9t
  have hrd : rdv (st1.put N (.agg cs)) x = rdv (st1.put N .dead) x \/ (rdv (st1.put N (.agg cs)) x = .agg cs /\ rdv (st1.put N .dead) x = .dead) := by
   cases x with
   | t t =>
    by_cases ht : t = N
    ·exact .inr (by simp [rdv, ht])
    ·exact .inl (by simp [rdv, ht])
   | _ => exact .inl rfl
  rcases hrd with h | ⟨h1, h2⟩
  ·rw [h]
   cases hv : rdv (st1.put N .dead) x with
   | ref t q o e =>
    by_cases ht : t < N
    ·have htN : t ≠ N := Nat.ne_of_lt ht
     have : a6x (st1.put N (.agg cs)) x (.ref t q o e) = a6x (st1.put N .dead) x (.ref t q o e) := by
      simp only [a6x, hep, St.put_s, htN, if_false]
     rw [this]
    ·rw [c6u (fun p hp => by rw [hpt _ _ _ _ _ _ hp]; exact ht), c6u (fun p hp => by rw [hpt _ _ _ _ _ _ hp]; exact ht)]
   | _ => rfl
  ·rw [h1, h2]; rfl
end
end Go.Ideal
end
section
namespace Go.Ideal
section
variable {G : GG} {N d : Nat} {st : St}
def c7c (v : AV) : Option Int := match v with
 | .lit (.int _ n) => some n
 | _ => none
@[go_sem] theorem e6z {k : IntKind} {n : Int} : c7c (.lit (.int k n)) = some n := (rfl)
theorem b15 (x : X) : (c24 x).run st = (c7c (rdv st x)).map fun n => (n, st) := by
 simp only [c24, Ev.run_bind, a48, Option.bind]
 cases rdv st x <;> try rfl
 rename_i v; cases v <;> rfl
def iaB (st : St) (sz : Nat) (n : Int) (t : Nat) (q : List Nat) (lo m : Nat) (k : Option AV) : Option AV := match k with
 | some (.own sz' n0 _) => gO (n < (m : Int) /\ sz' = sz /\ lo + m <= n0) (some (.ref t q ((lo + n.toNat) * sz) (st.ep t)))
 | _ => none
@[congr] theorem e0g {sz : Nat} {n : Int} {t : Nat} {q : List Nat} {lo m : Nat} {k k' : Option AV} (h : k = k') : iaB st sz n t q lo m k = iaB st sz n t q lo m k' := by rw [h]
@[go_sem] theorem f11 {sz : Nat} {n : Int} {t : Nat} {q : List Nat} {lo m sz' n0 : Nat} {ks : List AV} : iaB st sz n t q lo m (some (.own sz' n0 ks)) = gO (n < (m : Int) /\ sz' = sz /\ lo + m <= n0) (some (.ref t q ((lo + n.toNat) * sz) (st.ep t))) := (rfl)
def iaV (st : St) (sz : Nat) (n : Int) (x : X) (v : AV) : Option AV := match v with
 | .sl m ks => gO (n < (m : Int) /\ n.toNat * sz < ks.length) (some (.ip ks (n.toNat * sz)))
 | .own sz' m ks => match x with
  | .t t => iaB st sz n t [] 0 m (some (.own sz' m ks))
  | _ => none
 | .bor t q lo m e => iaB st sz n t q lo m (a2b st t q e)
 | _ => none
@[congr] theorem e0i {sz : Nat} {n : Int} {x : X} {v v' : AV} (h : v = v') : iaV st sz n x v = iaV st sz n x v' := by rw [h]
@[go_sem] theorem f7l {sz : Nat} {n : Int} {x : X} {m : Nat} {ks : List AV} : iaV st sz n x (.sl m ks) = gO (n < (m : Int) /\ n.toNat * sz < ks.length) (some (.ip ks (n.toNat * sz))) := (rfl)
@[go_sem] theorem f14 {sz : Nat} {n : Int} {t sz' m : Nat} {ks : List AV} : iaV st sz n (.t t) (.own sz' m ks) = iaB st sz n t [] 0 m (some (.own sz' m ks)) := (rfl)
@[go_sem] theorem f13 {sz : Nat} {n : Int} {x : X} {t : Nat} {q : List Nat} {lo m e : Nat} : iaV st sz n x (.bor t q lo m e) = iaB st sz n t q lo m (a2b st t q e) := (rfl)
def iaO (st : St) (sz : Nat) (x : X) (v : AV) (i : Option Int) : Option AV := match i with
 | some n => gO (0 <= n) (iaV st sz n x v)
 | none => none
@[congr] theorem e0h {sz : Nat} {x : X} {v v' : AV} {i i' : Option Int} (h : i = i') (h2 : v = v') : iaO st sz x v i = iaO st sz x v' i' := by rw [h, h2]
@[go_sem] theorem e6y {sz : Nat} {x : X} {v : AV} {n : Int} : iaO st sz x v (some n) = gO (0 <= n) (iaV st sz n x v) := (rfl)
theorem a93 {x : X} {t : Nat} {q : List Nat} {lo n e : Nat} (h : rdv st x = .bor t q lo n e) : (a6d x).run st = if e = st.ep t then some ((t, q, lo, n), st) else none := by
 simp only [a6d, Ev.run_bind, a0u, h, Option.bind, a1l]
 by_cases he : e = st.ep t
 ·simp only [he, beq_self_eq_true, a0i, if_true]; rfl
 ·have : (e == st.ep t) = false := by simpa using he
  simp only [this, a0i, Bool.false_eq_true, if_false, he]; rfl
theorem a94 {t sz n : Nat} {ks : List AV} (h : st.s t = .own sz n ks) : (a6d (.t t)).run st = some ((t, [], 0, n), st) := by
 simp only [a6d, Ev.run_bind, a0u, rdv, h, Option.bind, b16, Ev.run]; rfl
theorem b1m {x : X} (h1 : ∀ t q lo n e, rdv st x ≠ .bor t q lo n e) (h2 : ∀ sz n ks t, x = .t t -> rdv st x ≠ .own sz n ks) : (a6d x).run st = none := by
 simp only [a6d, Ev.run_bind, a0u, Option.bind]
 cases hv : rdv st x <;> try rfl
 ·cases x <;> try rfl
  exact (h2 _ _ _ _ rfl hv).elim
 ·exact (h1 _ _ _ _ _ hv).elim
@[go_sem] theorem d9g {T : TypeId} {sz : Nat} {x i : X} : evS G N (some d) (.iaddr T sz x i) st = b3b st d (iaO st sz x (rdv st x) (c7c (rdv st i))) := by
 simp only [evS, a07, Ev.run_bind, b15, Option.bind]
 cases c7c (rdv st i) with
 | none => rfl
 | some n =>
  simp only [Option.map, Ev.run_bind, a0f, Option.bind, iaO, gO]
  by_cases h0 : 0 <= n
  ·simp only [h0, decide_true, if_true, Ev.run_bind, a0u, Option.bind]
   cases hv : rdv st x with
   | sl m ks =>
    simp only [iaV, gO, Ev.run_bind, a0f, Option.bind]
    by_cases h1 : n < (m : Int)
    ·by_cases h2 : n.toNat * sz < ks.length
     ·simp only [h1, h2, decide_true, Bool.and_self, and_self, if_true]; rfl
     ·simp only [h2, decide_false, Bool.and_false, and_false, Bool.false_eq_true, if_false]; rfl
    ·simp only [h1, decide_false, Bool.false_and, false_and, Bool.false_eq_true, if_false]; rfl
   | bor t q lo m e =>
    simp only [Ev.run_bind, a93 hv, Option.bind, iaV]
    by_cases he : e = st.ep t
    ·simp only [he, if_true, Ev.run_bind, a0f, Option.bind, a1l, a2b]
     by_cases h1 : n < (m : Int)
     ·simp only [h1, decide_true, if_true, Ev.run_bind, a1l, Option.bind, a0z]
      cases a0e (st.s t) q with
      | none => rfl
      | some k =>
       cases k <;> try rfl
       rename_i sz' n0 ks
       simp only [Option.map, iaB, gO, Ev.run_bind, a0f, Option.bind, h1, true_and]
       by_cases h2 : sz' = sz
       ·by_cases h3 : lo + m <= n0
        ·simp only [h2, h3, beq_self_eq_true, decide_true, Bool.and_self, if_true, and_self]; rfl
        ·simp only [h3, decide_false, Bool.and_false, and_false, Bool.false_eq_true, if_false]; rfl
       ·have : (sz' == sz) = false := by simpa using h2
        simp only [this, h2, Bool.false_and, false_and, Bool.false_eq_true, if_false]; rfl
     ·simp only [h1, decide_false, Bool.false_eq_true, if_false]
      cases a0e (st.s t) q with
      | none => rfl
      | some k => cases k <;> try rfl
                  simp only [iaB, gO, h1, false_and, if_false]; rfl
    ·simp only [he, if_false, a2b]; rfl
   | own sz' m ks =>
    cases x with
    | t t =>
     simp only [rdv] at hv
     simp only [Ev.run_bind, a94 hv, Option.bind, iaV, iaB, gO, a0f]
     by_cases h1 : n < (m : Int)
     ·simp only [h1, decide_true, if_true, Ev.run_bind, a1l, Option.bind, a0z, hv, a0e, Option.map, a0f, true_and]
      by_cases h2 : sz' = sz
      ·simp only [h2, beq_self_eq_true, Nat.zero_add, Nat.le_refl, decide_true, Bool.and_self, if_true, and_self]; rfl
      ·have : (sz' == sz) = false := by simpa using h2
       simp only [this, h2, Bool.false_and, false_and, Bool.false_eq_true, if_false]; rfl
     ·simp only [h1, decide_false, Bool.false_eq_true, if_false, false_and]; rfl
    | _ => rfl
   | _ => simp only [Ev.run_bind, b1m (st := st) (x := x) (by simp [hv]) (by simp [hv]), Option.bind]; rfl
  ·simp only [h0, decide_false, Bool.false_eq_true, if_false]; rfl
def oiK (st : St) (x : Option X) (dflt : Int) : Option Int := match x with
 | some x => c7c (rdv st x)
 | none => some dflt
@[go_sem] theorem e77 {z : Int} : oiK st none z = some z := (rfl)
@[go_sem] theorem e78 {x : X} {z : Int} : oiK st (some x) z = c7c (rdv st x) := (rfl)
theorem a4d {x : Option X} {z : Int} : (a2z x z).run st = (oiK st x z).map fun n => (n, st) := by
 cases x with
 | none => rfl
 | some x => exact b15 x
def slA (sz n : Nat) (ks : List AV) (lo hi : Option Int) : Option AV := match lo, hi with
 | some l, some h => gO (0 <= l /\ l <= h /\ h <= (n : Int) /\ ks.length = n * sz) (some (.sl (h - l).toNat ((ks.drop (l.toNat * sz)).take ((h - l).toNat * sz))))
 | _, _ => none
@[congr] theorem e36 {sz n : Nat} {ks : List AV} {lo hi lo' hi' : Option Int} (h : lo = lo') (h2 : hi = hi') : slA sz n ks lo hi = slA sz n ks lo' hi' := by rw [h, h2]
@[go_sem] theorem e88 {sz n : Nat} {ks : List AV} {l h : Int} : slA sz n ks (some l) (some h) = gO (0 <= l /\ l <= h /\ h <= (n : Int) /\ ks.length = n * sz) (some (.sl (h - l).toNat ((ks.drop (l.toNat * sz)).take ((h - l).toNat * sz)))) := (rfl)
def slC (st : St) (sz t : Nat) (q : List Nat) (lo0 n sz' n0 : Nat) (lo hi : Option Int) : Option AV := match lo, hi with
 | some l, some h => gO (0 <= l /\ l <= h /\ h <= (n : Int) /\ lo0 + n <= n0 /\ sz' = sz /\ (lo0 = 0 \/ l = 0 \/ l < h)) (some (.bor t q (lo0 + l.toNat) (h - l).toNat (st.ep t)))
 | _, _ => none
@[congr] theorem e38 {sz t : Nat} {q : List Nat} {lo0 n sz' n0 : Nat} {lo hi lo' hi' : Option Int} (h : lo = lo') (h2 : hi = hi') : slC st sz t q lo0 n sz' n0 lo hi = slC st sz t q lo0 n sz' n0 lo' hi' := by rw [h, h2]
@[go_sem] theorem e89 {sz t : Nat} {q : List Nat} {lo0 n sz' n0 : Nat} {l h : Int} : slC st sz t q lo0 n sz' n0 (some l) (some h) = gO (0 <= l /\ l <= h /\ h <= (n : Int) /\ lo0 + n <= n0 /\ sz' = sz /\ (lo0 = 0 \/ l = 0 \/ l < h)) (some (.bor t q (lo0 + l.toNat) (h - l).toNat (st.ep t))) := (rfl)
def slB (st : St) (sz t : Nat) (q : List Nat) (lo0 n : Nat) (lo hi : Option X) (k : Option AV) : Option AV := match k with
 | some (.own sz' n0 _) => slC st sz t q lo0 n sz' n0 (oiK st lo 0) (oiK st hi n)
 | _ => none
@[congr] theorem e37 {sz t : Nat} {q : List Nat} {lo0 n : Nat} {lo hi : Option X} {k k' : Option AV} (h : k = k') : slB st sz t q lo0 n lo hi k = slB st sz t q lo0 n lo hi k' := by rw [h]
@[go_sem] theorem f4c {sz t : Nat} {q : List Nat} {lo0 n : Nat} {lo hi : Option X} {sz' n0 : Nat} {ks : List AV} : slB st sz t q lo0 n lo hi (some (.own sz' n0 ks)) = slC st sz t q lo0 n sz' n0 (oiK st lo 0) (oiK st hi n) := (rfl)
def slS (s : ByteArray) (lo hi : Option Int) : Option AV := match lo, hi with
 | some l, some h => gO (0 <= l /\ l <= h /\ h <= (s.size : Int)) (some (.lit (.string (s.extract l.toNat h.toNat))))
 | _, _ => none
@[go_sem] theorem e9a {s : ByteArray} {l h : Int} : slS s (some l) (some h) = gO (0 <= l /\ l <= h /\ h <= (s.size : Int)) (some (.lit (.string (s.extract l.toNat h.toNat)))) := (rfl)
def slV (st : St) (sz : Nat) (x : X) (lo hi : Option X) (v : AV) : Option AV := match v with
 | .lit (.string s) => gO (sz = 0) (slS s (oiK st lo 0) (oiK st hi s.size))
 | .sl n ks => gO (0 < sz) (slA sz n ks (oiK st lo 0) (oiK st hi n))
 | .own sz' n ks => match x with
  | .t t => gO (0 < sz) (slB st sz t [] 0 n lo hi (some (.own sz' n ks)))
  | _ => none
 | .bor t q lo0 n e => gO (0 < sz) (slB st sz t q lo0 n lo hi (a2b st t q e))
 | _ => none
@[congr] theorem e4a {sz : Nat} {x : X} {lo hi : Option X} {v v' : AV} (h : v = v') : slV st sz x lo hi v = slV st sz x lo hi v' := by rw [h]
section
variable {sz : Nat} {x : X} {lo hi : Option X}
@[go_sem] theorem f4f {s : ByteArray} : slV st sz x lo hi (.lit (.string s)) = gO (sz = 0) (slS s (oiK st lo 0) (oiK st hi s.size)) := (rfl)
@[go_sem] theorem f8u {n : Nat} {ks : List AV} : slV st sz x lo hi (.sl n ks) = gO (0 < sz) (slA sz n ks (oiK st lo 0) (oiK st hi n)) := (rfl)
@[go_sem] theorem f4e {t sz' n : Nat} {ks : List AV} : slV st sz (.t t) lo hi (.own sz' n ks) = gO (0 < sz) (slB st sz t [] 0 n lo hi (some (.own sz' n ks))) := (rfl)
@[go_sem] theorem f4d {t : Nat} {q : List Nat} {lo0 n e : Nat} : slV st sz x lo hi (.bor t q lo0 n e) = gO (0 < sz) (slB st sz t q lo0 n lo hi (a2b st t q e)) := (rfl)
end
theorem e39 {sz t : Nat} {q : List Nat} {lo0 n sz' n0 e : Nat} {lo hi : Option X} (he : e = st.ep t) :
  ((do
    let l <- a2z lo 0
    let h <- a2z hi n
    a0i (decide (0 <= l) && decide (l <= h) && decide (h <= (n : Int)) && decide (lo0 + n <= n0) && sz' == sz && (lo0 == 0 || l == 0 || decide (l < h)))
    setD (some d) (.bor t q (lo0 + l.toNat) (h - l).toNat e) : Ev Unit).run st).map (·.2) = b3b st d (slC st sz t q lo0 n sz' n0 (oiK st lo 0) (oiK st hi n)) := by
 subst he
 simp only [Ev.run_bind, a4d, Option.bind, slC]
 cases oiK st lo 0 with
 | none => rfl
 | some l =>
  simp only [Option.map, a4d]
  cases oiK st hi n with
  | none => rfl
  | some h =>
   simp only [Option.map, Ev.run_bind, a0f, Option.bind, gO]
   by_cases hc : 0 <= l /\ l <= h /\ h <= (n : Int) /\ lo0 + n <= n0 /\ sz' = sz /\ (lo0 = 0 \/ l = 0 \/ l < h)
   ·have : (decide (0 <= l) && decide (l <= h) && decide (h <= (n : Int)) && decide (lo0 + n <= n0) && sz' == sz && (lo0 == 0 || l == 0 || decide (l < h))) = true := by
     simp only [Bool.and_eq_true, Bool.or_eq_true, decide_eq_true_eq, beq_iff_eq]
     omega
    rw [if_pos hc]
    simp only [this, if_true]; rfl
   ·have : (decide (0 <= l) && decide (l <= h) && decide (h <= (n : Int)) && decide (lo0 + n <= n0) && sz' == sz && (lo0 == 0 || l == 0 || decide (l < h))) = false := by
     rw [Bool.eq_false_iff]
     intro hh
     simp only [Bool.and_eq_true, Bool.or_eq_true, decide_eq_true_eq, beq_iff_eq] at hh
     exact hc (by omega)
    rw [if_neg hc]
    simp only [this, Bool.false_eq_true, if_false]; rfl
@[go_sem] theorem d9l {T : TypeId} {sz : Nat} {x : X} {lo hi : Option X} : evS G N (some d) (.slice T sz x lo hi none) st = b3b st d (slV st sz x lo hi (rdv st x)) := by
 simp only [evS, a07, Ev.run_bind, a0u, Option.bind]
 have hno : ∀ v : AV, rdv st x = v -> (∀ t q lo n e, v ≠ .bor t q lo n e) -> (∀ sz n ks t, x = .t t -> v ≠ .own sz n ks) -> ((a0i (decide (0 < sz)) >>= fun _ => (a6d x >>= fun r => (do
   let v <- b0m r.1
   let k <- a3p (a0e v.1 r.2.1)
   match k with
   | .own sz' n0 _ => do
    let l <- a2z lo 0
    let h <- a2z hi r.2.2.2
    a0i (decide (0 <= l) && decide (l <= h) && decide (h <= (r.2.2.2 : Int)) && decide (r.2.2.1 + r.2.2.2 <= n0) && sz' == sz && (r.2.2.1 == 0 || l == 0 || decide (l < h)))
    match (none : Option X) with
    | none => setD (some d) (.bor r.1 r.2.1 (r.2.2.1 + l.toNat) (h - l).toNat v.2)
    | some m => do
     let m <- c24 m
     a0i (l == 0 && h == 0 && m == 0 && hi.isSome)
     a3s N (some d) (.own sz 0 [])
   | _ => .fail : Ev Unit)) : Ev Unit).run st).map (·.2) = none := by
  intro v hv h1 h2
  have hb := b1m (st := st) (x := x) (by rw [hv]; exact h1) (by rw [hv]; exact h2)
  by_cases h0 : 0 < sz
  ·simp only [Ev.run_bind, a0f, Option.bind, h0, decide_true, if_true, hb]; rfl
  ·simp only [Ev.run_bind, a0f, Option.bind, h0, decide_false, Bool.false_eq_true, if_false]; rfl
 cases hv : rdv st x with
 | lit v =>
  cases v <;> try exact hno _ hv (by simp) (by simp)
  rename_i s
  simp only [slV, Ev.run_bind, a4d, Option.bind, slS, gO]
  cases oiK st lo 0 with
  | none => simp only [Option.map, ite_self]; rfl
  | some l =>
   simp only [Option.map, a4d]
   cases oiK st hi s.size with
   | none => simp only [Option.map, ite_self]; rfl
   | some h =>
    simp only [Option.map, Ev.run_bind, a0f, Option.bind, Option.isNone, Bool.and_true]
    by_cases hz : sz = 0
    ·by_cases hc : 0 <= l /\ l <= h /\ h <= (s.size : Int)
     ·obtain ⟨h1, h2, h3⟩ := hc
      simp only [h1, h2, h3, hz, decide_true, Bool.and_self, beq_self_eq_true, if_true, and_self]; rfl
     ·have : (decide (0 <= l) && decide (l <= h) && decide (h <= (s.size : Int))) = false := by
       rw [Bool.eq_false_iff]; intro hh
       simp only [Bool.and_eq_true, decide_eq_true_eq] at hh
       exact hc (by omega)
      simp only [this, hz, Bool.false_and, Bool.false_eq_true, if_false, hc, if_true]; rfl
    ·have : (sz == 0) = false := by simpa using hz
     simp only [this, hz, Bool.and_false, Bool.false_eq_true, if_false]; rfl
 | sl n ks =>
  simp only [slV, gO, Ev.run_bind, a0f, Option.bind, slA]
  by_cases h0 : 0 < sz
  ·simp only [h0, decide_true, if_true, Ev.run_bind, a4d, Option.bind]
   cases oiK st lo 0 with
   | none => rfl
   | some l =>
    simp only [Option.map, a4d]
    cases oiK st hi n with
    | none => rfl
    | some h =>
     simp only [Option.map, Ev.run_bind, a0f, Option.bind, gO]
     by_cases hc : 0 <= l /\ l <= h /\ h <= (n : Int) /\ ks.length = n * sz
     ·obtain ⟨h1, h2, h3, h4⟩ := hc
      simp only [h1, h2, h3, h4, decide_true, Bool.and_self, if_true, and_self]; rfl
     ·have : (decide (0 <= l) && decide (l <= h) && decide (h <= (n : Int)) && decide (ks.length = n * sz)) = false := by
       rw [Bool.eq_false_iff]; intro hh
       simp only [Bool.and_eq_true, decide_eq_true_eq] at hh
       exact hc ⟨hh.1.1.1, hh.1.1.2, hh.1.2, hh.2⟩
      simp only [this, Bool.false_eq_true, if_false, hc]; rfl
  ·simp only [h0, decide_false, Bool.false_eq_true, if_false]; rfl
 | bor t q lo0 n e =>
  simp only [slV, gO, Ev.run_bind, a0f, Option.bind]
  by_cases h0 : 0 < sz
  ·simp only [h0, decide_true, if_true, Ev.run_bind, a93 hv, Option.bind]
   by_cases he : e = st.ep t
   ·simp only [he, if_true, a2b]
    simp only [a1l, a0z]
    cases a0e (st.s t) q with
    | none => rfl
    | some k => cases k <;> first | rfl | exact e39 rfl
   ·simp only [he, if_false, a2b]; rfl
  ·simp only [h0, decide_false, Bool.false_eq_true, if_false]; rfl
 | own sz' m ks =>
  cases x with
  | t t =>
   simp only [rdv] at hv
   simp only [slV, gO, Ev.run_bind, a0f, Option.bind]
   by_cases h0 : 0 < sz
   ·simp only [h0, decide_true, if_true, Ev.run_bind, a94 hv, Option.bind]
    simp only [a1l, a0z, hv, a0e, Option.map]
    exact e39 rfl
   ·simp only [h0, decide_false, Bool.false_eq_true, if_false]; rfl
  | _ => exact hno _ hv (by simp) (by simp)
 | _ => exact hno _ hv (by simp) (by simp)
end
end Go.Ideal
end
section
namespace Go.Ideal
section
variable {G : GG} {N d : Nat} {st : St}
def tkB (st : St) (N t : Nat) (q : List Nat) (lo n : Nat) (k : Option AV) : Option (St × Nat × Nat × List AV) := match k with
 | some (.own sz n0 ks) => gO (lo = 0 /\ t < N /\ n <= n0) (some (st.set t (a0o (st.s t) q .dead), sz, n, ks.take (n * sz)))
 | _ => none
@[congr] theorem e4q {t : Nat} {q : List Nat} {lo n : Nat} {k k' : Option AV} (h : k = k') : tkB st N t q lo n k = tkB st N t q lo n k' := by rw [h]
@[go_sem] theorem f4t {t : Nat} {q : List Nat} {lo n sz n0 : Nat} {ks : List AV} : tkB st N t q lo n (some (.own sz n0 ks)) = gO (lo = 0 /\ t < N /\ n <= n0) (some (st.set t (a0o (st.s t) q .dead), sz, n, ks.take (n * sz))) := (rfl)
def tkS (st : St) (N : Nat) (x : X) (v : AV) : Option (St × Nat × Nat × List AV) := match v with
 | .own sz n ks => match x with
  | .t t => some (st.put t .dead, sz, n, ks)
  | _ => some (st, sz, n, ks)
 | .bor t q lo n e => tkB st N t q lo n (a2b st t q e)
 | _ => none
@[congr] theorem e4r {x : X} {v v' : AV} (h : v = v') : tkS st N x v = tkS st N x v' := by rw [h]
@[go_sem] theorem f4v {t sz n : Nat} {ks : List AV} : tkS st N (.t t) (.own sz n ks) = some (st.put t .dead, sz, n, ks) := (rfl)
@[go_sem] theorem f83 {t sz n : Nat} {ks : List AV} : tkS st N (.nl t) (.own sz n ks) = some (st, sz, n, ks) := (rfl)
@[go_sem] theorem f4u {x : X} {t : Nat} {q : List Nat} {lo n e : Nat} : tkS st N x (.bor t q lo n e) = tkB st N t q lo n (a2b st t q e) := (rfl)
theorem b8w (x : X) : (c1b x N).run st = (tkS st N x (rdv st x)).map fun r => ((), r.1.put N (.own r.2.1 r.2.2.1 r.2.2.2)) := by
 simp only [c1b, Ev.run_bind, a0u, Option.bind]
 cases hv : rdv st x <;> try rfl
 ·cases x <;> rfl
 ·rename_i t q lo n e
  simp only [tkS, Ev.run_bind, a1l, Option.bind, a0f]
  by_cases he : e = st.ep t
  ·subst he
   simp only [a2b, if_true, beq_self_eq_true, Bool.true_and]
   cases hk : a0e (st.s t) q with
   | none =>
    simp only [tkB, Option.map]
    generalize (lo == 0 && decide (t < N)) = b
    cases b
    ·rfl
    ·simp only [if_true, a0z, hk]; rfl
   | some k =>
    by_cases h1 : lo = 0
    ·by_cases h2 : t < N
     ·simp only [h1, h2, beq_self_eq_true, decide_true, Bool.and_self, if_true, a0z, hk, Option.map]
      cases k <;> try rfl
      rename_i sz n0 ks
      simp only [tkB, gO, Ev.run_bind, a0f, Option.bind, h2, true_and]
      by_cases h3 : n <= n0
      ·simp only [h3, decide_true, if_true]; rfl
      ·simp only [h3, decide_false, Bool.false_eq_true, if_false]
     ·simp only [h2, decide_false, Bool.and_false, Bool.false_eq_true, if_false]
      cases k <;> try rfl
      simp only [tkB, gO, h2, false_and, and_false, if_false]; rfl
    ·have : (lo == 0) = false := by simpa using h1
     simp only [this, Bool.false_and, Bool.false_eq_true, if_false]
     cases k <;> try rfl
     simp only [tkB, gO, h1, false_and, if_false]; rfl
  ·have : (e == st.ep t) = false := by simpa using he
   simp only [this, Bool.false_and, Bool.false_eq_true, if_false, a2b, he]; rfl
def srB (st : St) (N t : Nat) (q : List Nat) (lo n : Nat) (k : Option AV) : Option (St × AV) := match k with
 | some (.own sz n0 ks) => gO (t < N /\ lo + n <= n0) (some (st.set t (a0o (st.s t) q (frz (.own sz n0 ks))), .sl n (((a1n ks).drop (lo * sz)).take (n * sz))))
 | _ => none
@[congr] theorem e4j {t : Nat} {q : List Nat} {lo n : Nat} {k k' : Option AV} (h : k = k') : srB st N t q lo n k = srB st N t q lo n k' := by rw [h]
@[go_sem] theorem f4h {t : Nat} {q : List Nat} {lo n sz n0 : Nat} {ks : List AV} : srB st N t q lo n (some (.own sz n0 ks)) = gO (t < N /\ lo + n <= n0) (some (st.set t (a0o (st.s t) q (frz (.own sz n0 ks))), .sl n (((a1n ks).drop (lo * sz)).take (n * sz)))) := (rfl)
def srS (st : St) (N : Nat) (x : X) (v : AV) : Option (St × AV) := match v with
 | .own sz n ks => match x with
  | .t t => some (st.put t .dead, .own sz n ks)
  | _ => some (st, .own sz n ks)
 | .sl n ks => some (st, .sl n ks)
 | .bor t q lo n e => srB st N t q lo n (a2b st t q e)
 | _ => none
@[congr] theorem e4k {x : X} {v v' : AV} (h : v = v') : srS st N x v = srS st N x v' := by rw [h]
@[go_sem] theorem f4j {t sz n : Nat} {ks : List AV} : srS st N (.t t) (.own sz n ks) = some (st.put t .dead, .own sz n ks) := (rfl)
@[go_sem] theorem f8w {t sz n : Nat} {ks : List AV} : srS st N (.nl t) (.own sz n ks) = some (st, .own sz n ks) := (rfl)
@[go_sem] theorem f8x {x : X} {n : Nat} {ks : List AV} : srS st N x (.sl n ks) = some (st, .sl n ks) := (rfl)
@[go_sem] theorem f4i {x : X} {t : Nat} {q : List Nat} {lo n e : Nat} : srS st N x (.bor t q lo n e) = srB st N t q lo n (a2b st t q e) := (rfl)
theorem c9s (x : X) : (d7a x N).run st = (srS st N x (rdv st x)).map fun r => ((), r.1.put (N + 1) r.2) := by
 simp only [d7a, Ev.run_bind, a0u, Option.bind]
 cases hv : rdv st x <;> try rfl
 ·cases x <;> rfl
 ·rename_i t q lo n e
  simp only [srS, Ev.run_bind, a1l, Option.bind, a0f]
  by_cases he : e = st.ep t
  ·subst he
   simp only [a2b, if_true, beq_self_eq_true, Bool.true_and]
   cases hk : a0e (st.s t) q with
   | none =>
    simp only [srB, Option.map]
    generalize (decide (t < N)) = b
    cases b
    ·rfl
    ·simp only [if_true, a0z, hk]; rfl
   | some k =>
    by_cases h2 : t < N
    ·simp only [h2, decide_true, Bool.and_self, if_true, a0z, hk, Option.map]
     cases k <;> try rfl
     rename_i sz n0 ks
     simp only [srB, gO, Ev.run_bind, a0f, Option.bind, h2, true_and]
     by_cases h3 : lo + n <= n0
     ·simp only [h3, decide_true, if_true]; rfl
     ·simp only [h3, decide_false, Bool.false_eq_true, if_false]
    ·simp only [h2, decide_false, Bool.and_false, Bool.false_eq_true, if_false]
     cases k <;> try rfl
     simp only [srB, gO, h2, false_and, and_false, if_false]; rfl
  ·have : (e == st.ep t) = false := by simpa using he
   simp only [this, Bool.false_and, Bool.false_eq_true, if_false, a2b, he]; rfl
def apV (sz by_ : Nat) (s y : AV) : Option (AV) := match s, y with
 | .own sz1 n xs, .own sz2 m ys => gO (sz1 = sz /\ sz2 = sz /\ (n + m) * by_ <= 140737488355328 /\ n + m <= 140737488355328) (some (.own sz (n + m) (xs ++ ys)))
 | .own sz1 n xs, .sl m ys => gO (sz1 = sz /\ ys.length = m * sz /\ (n + m) * by_ <= 140737488355328 /\ n + m <= 140737488355328) (some (.own sz (n + m) (xs ++ ys)))
 | _, _ => none
@[go_sem] theorem e9n {sz by_ sz1 sz2 n m : Nat} {xs ys : List AV} : apV sz by_ (.own sz1 n xs) (.own sz2 m ys) = gO (sz1 = sz /\ sz2 = sz /\ (n + m) * by_ <= 140737488355328 /\ n + m <= 140737488355328) (some (.own sz (n + m) (xs ++ ys))) := (rfl)
@[go_sem] theorem f5e {sz by_ sz1 n m : Nat} {xs ys : List AV} : apV sz by_ (.own sz1 n xs) (.sl m ys) = gO (sz1 = sz /\ ys.length = m * sz /\ (n + m) * by_ <= 140737488355328 /\ n + m <= 140737488355328) (some (.own sz (n + m) (xs ++ ys))) := (rfl)
def apF (st : St) (N d : Nat) (o : Option AV) : Option St := match o with
 | some v => some ((st.put (N + 1) .dead).thru N d v)
 | none => none
@[congr] theorem d7s {o o' : Option AV} (h : o = o') : apF st N d o = apF st N d o' := by rw [h]
@[go_sem] theorem e48 {v : AV} : apF st N d (some v) = some ((st.put (N + 1) .dead).thru N d v) := (rfl)
def ap2 (N d sz by_ : Nat) (r : Option (St × AV)) : Option St := match r with
 | some (st2, v) => apF (st2.put (N + 1) v) N d (apV sz by_ ((st2.put (N + 1) v).s N) v)
 | none => none
@[congr] theorem d7r {sz by_ : Nat} {r r' : Option (St × AV)} (h : r = r') : ap2 N d sz by_ r = ap2 N d sz by_ r' := by rw [h]
@[go_sem] theorem e47 {sz by_ : Nat} {v : AV} : ap2 N d sz by_ (some (st, v)) = apF (st.put (N + 1) v) N d (apV sz by_ ((st.put (N + 1) v).s N) v) := (rfl)
def ap1 (N d sz by_ : Nat) (y : X) (r : Option (St × Nat × Nat × List AV)) : Option St := match r with
 | some (st1, s, n, ks) => ap2 N d sz by_ (srS (st1.put N (.own s n ks)) N y (rdv (st1.put N (.own s n ks)) y))
 | none => none
@[congr] theorem d7q {sz by_ : Nat} {y : X} {r r' : Option (St × Nat × Nat × List AV)} (h : r = r') : ap1 N d sz by_ y r = ap1 N d sz by_ y r' := by rw [h]
@[go_sem] theorem e46 {sz by_ s n : Nat} {ks : List AV} {y : X} : ap1 N d sz by_ y (some (st, s, n, ks)) = ap2 N d sz by_ (srS (st.put N (.own s n ks)) N y (rdv (st.put N (.own s n ks)) y)) := (rfl)
@[go_sem] theorem f0o {T e : TypeId} {sz by_ : Nat} {x y : X} : evS G N (some d) (.app T e sz by_ x y) st = ap1 N d sz by_ y (tkS st N x (rdv st x)) := by
 simp only [evS, a07, Ev.run_bind, b8w, Option.bind]
 cases tkS st N x (rdv st x) with
 | none => rfl
 | some r =>
  obtain ⟨st1, s, n, ks⟩ := r
  simp only [Option.map, c9s, ap1]
  cases srS (st1.put N (.own s n ks)) N y (rdv (st1.put N (.own s n ks)) y) with
  | none => rfl
  | some r =>
   obtain ⟨st2, v⟩ := r
   have h1 : (st2.put (N + 1) v).s (N + 1) = v := by simp
   simp only [a4r, ap2, h1]
   have hown : ∀ sz1 n xs sz2 m ys, ((do
     a0i (sz1 == sz && sz2 == sz && decide ((n + m) * by_ <= 140737488355328) && decide (n + m <= 140737488355328))
     a2u (N + 1) .dead
     a3s N (some d) (.own sz (n + m) (xs ++ ys)) : Ev Unit).run (st2.put (N + 1) v)).map (·.2) = apF (st2.put (N + 1) v) N d (gO (sz1 = sz /\ sz2 = sz /\ (n + m) * by_ <= 140737488355328 /\ n + m <= 140737488355328) (some (.own sz (n + m) (xs ++ ys)))) := by
    intro sz1 n xs sz2 m ys
    simp only [Ev.run_bind, a0f, Option.bind, gO]
    by_cases hc : sz1 = sz /\ sz2 = sz /\ (n + m) * by_ <= 140737488355328 /\ n + m <= 140737488355328
    ·have : (sz1 == sz && sz2 == sz && decide ((n + m) * by_ <= 140737488355328) && decide (n + m <= 140737488355328)) = true := by
      simp only [Bool.and_eq_true, decide_eq_true_eq, beq_iff_eq]
      exact ⟨⟨⟨hc.1, hc.2.1⟩, hc.2.2.1⟩, hc.2.2.2⟩
     simp only [this, if_true, if_pos hc]; rfl
    ·have : (sz1 == sz && sz2 == sz && decide ((n + m) * by_ <= 140737488355328) && decide (n + m <= 140737488355328)) = false := by
      rw [Bool.eq_false_iff]; intro hh
      simp only [Bool.and_eq_true, decide_eq_true_eq, beq_iff_eq] at hh
      exact hc ⟨hh.1.1.1, hh.1.1.2, hh.1.2, hh.2⟩
     simp only [this, Bool.false_eq_true, if_false, if_neg hc]; rfl
   have hsl : ∀ sz1 n xs m ys, ((do
     a0i (sz1 == sz && decide (ys.length = m * sz) && decide ((n + m) * by_ <= 140737488355328) && decide (n + m <= 140737488355328))
     a2u (N + 1) .dead
     a3s N (some d) (.own sz (n + m) (xs ++ ys)) : Ev Unit).run (st2.put (N + 1) v)).map (·.2) = apF (st2.put (N + 1) v) N d (gO (sz1 = sz /\ ys.length = m * sz /\ (n + m) * by_ <= 140737488355328 /\ n + m <= 140737488355328) (some (.own sz (n + m) (xs ++ ys)))) := by
    intro sz1 n xs m ys
    simp only [Ev.run_bind, a0f, Option.bind, gO]
    by_cases hc : sz1 = sz /\ ys.length = m * sz /\ (n + m) * by_ <= 140737488355328 /\ n + m <= 140737488355328
    ·have : (sz1 == sz && decide (ys.length = m * sz) && decide ((n + m) * by_ <= 140737488355328) && decide (n + m <= 140737488355328)) = true := by
      simp only [Bool.and_eq_true, decide_eq_true_eq, beq_iff_eq]
      exact ⟨⟨⟨hc.1, hc.2.1⟩, hc.2.2.1⟩, hc.2.2.2⟩
     simp only [this, if_true, if_pos hc]; rfl
    ·have : (sz1 == sz && decide (ys.length = m * sz) && decide ((n + m) * by_ <= 140737488355328) && decide (n + m <= 140737488355328)) = false := by
      rw [Bool.eq_false_iff]; intro hh
      simp only [Bool.and_eq_true, decide_eq_true_eq, beq_iff_eq] at hh
      exact hc ⟨hh.1.1.1, hh.1.1.2, hh.1.2, hh.2⟩
     simp only [this, Bool.false_eq_true, if_false, if_neg hc]; rfl
   cases hs : (st2.put (N + 1) v).s N <;> try rfl
   cases v <;> first | rfl | exact hown _ _ _ _ _ _ | exact hsl _ _ _ _ _
def c19 (N : Nat) : List (Nat × Nat × X) -> St -> Option St
 | [], st => some st
 | (off, sz, x) :: rest, st => match giv st N x (rdv st x) with
  | some (st1, cs) => match st1.s (N + 1) with
   | .agg zs => gO (cs.length = sz /\ off + sz <= zs.length) (c19 N rest ((st1.put N .dead).put (N + 1) (.agg (a0g zs off cs))))
   | _ => none
  | none => none
@[congr] theorem d6m {l l' : List (Nat × Nat × X)} {st' : St} (hl : l = l') (h : st = st') : c19 N l st = c19 N l' st' := by rw [hl, h]
@[go_sem] theorem e8d : c19 N [] st = some st := (rfl)
def d6k (N off sz : Nat) (rest : List (Nat × Nat × X)) (st : St) (cs : List AV) (v : AV) : Option St := match v with
 | .agg zs => gO (cs.length = sz /\ off + sz <= zs.length) (c19 N rest ((st.put N .dead).put (N + 1) (.agg (a0g zs off cs))))
 | _ => none
@[congr] theorem d6l {off sz : Nat} {rest : List (Nat × Nat × X)} {cs : List AV} {v v' : AV} (h : v = v') : d6k N off sz rest st cs v = d6k N off sz rest st cs v' := by rw [h]
@[go_sem] theorem e8c {off sz : Nat} {rest : List (Nat × Nat × X)} {cs zs : List AV} : d6k N off sz rest st cs (.agg zs) = gO (cs.length = sz /\ off + sz <= zs.length) (c19 N rest ((st.put N .dead).put (N + 1) (.agg (a0g zs off cs)))) := (rfl)
def e2y (N off sz : Nat) (rest : List (Nat × Nat × X)) (r : Option (St × List AV)) : Option St := match r with
 | some (st1, cs) => d6k N off sz rest st1 cs (st1.s (N + 1))
 | none => none
@[congr] theorem d6j {off sz : Nat} {rest : List (Nat × Nat × X)} {r r' : Option (St × List AV)} (h : r = r') : e2y N off sz rest r = e2y N off sz rest r' := by rw [h]
@[go_sem] theorem e2z {off sz : Nat} {rest : List (Nat × Nat × X)} {cs : List AV} : e2y N off sz rest (some (st, cs)) = d6k N off sz rest st cs (st.s (N + 1)) := (rfl)
@[go_sem] theorem e20 {off sz : Nat} {x : X} {rest : List (Nat × Nat × X)} : c19 N ((off, sz, x) :: rest) st = e2y N off sz rest (giv st N x (rdv st x)) := by
 simp only [c19, e2y]
 cases giv st N x (rdv st x) with
 | none => rfl
 | some r => obtain ⟨st1, cs⟩ := r; simp only [d6k]
theorem b0y : ∀ (l : List (Nat × Nat × X)) (st : St), (a6p N l).run st = (c19 N l st).map fun st => ((), st)
 | [], st => rfl
 | (off, sz, x) :: rest, st => by
  simp only [a6p, Ev.run_bind, a95, Option.bind, c19]
  cases giv st N x (rdv st x) with
  | none => rfl
  | some r =>
   obtain ⟨st1, cs⟩ := r
   have hN : (st1.put N (.agg cs)).s N = .agg cs := by simp
   have hN1 : (st1.put N (.agg cs)).s (N + 1) = st1.s (N + 1) := by simp
   simp only [Option.map, b89, Ev.run_bind, a4r, Option.bind, hN, Ev.run_pure, hN1]
   cases st1.s (N + 1) <;> try rfl
   rename_i zs
   simp only [Ev.run_pure, a0f, gO]
   by_cases hc : cs.length = sz /\ off + sz <= zs.length
   ·simp only [hc.1, hc.2, decide_true, Bool.and_self, if_true, and_self, a5y, b1l (show nm (AV.agg cs) = false from rfl)]
    exact b0y rest _
   ·have : (decide (cs.length = sz) && decide (off + sz <= zs.length)) = false := by
     rw [Bool.eq_false_iff]; intro hh
     simp only [Bool.and_eq_true, decide_eq_true_eq] at hh
     exact hc hh
    simp only [this, Bool.false_eq_true, if_false, if_neg hc]
def d8b (st : St) (N d : Nat) (v : AV) : Option St := match v with
 | .agg ks => some ((st.put (N + 1) .dead).put d (.agg ks))
 | _ => none
@[congr] theorem d4j {v v' : AV} (h : v = v') : d8b st N d v = d8b st N d v' := by rw [h]
@[go_sem] theorem e5m {ks : List AV} : d8b st N d (.agg ks) = some ((st.put (N + 1) .dead).put d (.agg ks)) := (rfl)
def d79 (N d : Nat) (o : Option St) : Option St := match o with
 | some st => d8b st N d (st.s (N + 1))
 | none => none
@[congr] theorem d4i {o o' : Option St} (h : o = o') : d79 N d o = d79 N d o' := by rw [h]
@[go_sem] theorem d8a : d79 N d (some st) = d8b st N d (st.s (N + 1)) := (rfl)
@[go_sem] theorem d9c {T : TypeId} {zs : List AV} {parts : List (Nat × Nat × Nat × X)} : evS G N (some d) (.build T zs parts) st = d79 N d (c19 N (parts.map fun p => p.2) (st.put (N + 1) (.agg zs))) := by
 simp only [evS, a07, Ev.run_bind, a5y, Option.bind, b0y]
 cases c19 N (parts.map fun p => p.2) (st.put (N + 1) (.agg zs)) with
 | none => rfl
 | some s =>
  simp only [Option.map, b89, Ev.run_bind, a4r, Option.bind, d79]
  cases s.s (N + 1) <;> rfl
def d8g (st : St) (N d sz len : Nat) (v : AV) : Option St := match v with
 | .agg ks => some (st.thru (N + 1) d (.own sz len ks))
 | _ => none
@[congr] theorem d4m {sz len : Nat} {v v' : AV} (h : v = v') : d8g st N d sz len v = d8g st N d sz len v' := by rw [h]
@[go_sem] theorem e5r {sz len : Nat} {ks : List AV} : d8g st N d sz len (.agg ks) = some (st.thru (N + 1) d (.own sz len ks)) := (rfl)
def d8e (N d sz len : Nat) (o : Option St) : Option St := match o with
 | some st => d8g st N d sz len (st.s (N + 1))
 | none => none
@[congr] theorem d4l {sz len : Nat} {o o' : Option St} (h : o = o') : d8e N d sz len o = d8e N d sz len o' := by rw [h]
@[go_sem] theorem d8f {sz len : Nat} : d8e N d sz len (some st) = d8g st N d sz len (st.s (N + 1)) := (rfl)
@[go_sem] theorem d5h {T e : TypeId} {sz len : Nat} {zs : List AV} {parts : List (Nat × X)} : evS G N (some d) (.bslice T e sz len zs parts) st = d8e N d sz len (c19 N (parts.map fun p => (p.1 * sz, sz, p.2)) (st.put (N + 1) (.agg (a7g len zs)))) := by
 simp only [evS, a07, Ev.run_bind, a5y, Option.bind, b0y]
 cases c19 N (parts.map fun p => (p.1 * sz, sz, p.2)) (st.put (N + 1) (.agg (a7g len zs))) with
 | none => rfl
 | some s =>
  simp only [Option.map, b89, Ev.run_bind, a4r, Option.bind, d8e]
  cases s.s (N + 1) <;> rfl
def d8c (N d sz : Nat) (r : Option (St × List AV)) : Option St := match r with
 | some (st1, cs) => gO (cs.length = sz) (some ((st1.put N (.agg cs)).thru N d (.var cs)))
 | none => none
@[congr] theorem d4k {sz : Nat} {r r' : Option (St × List AV)} (h : r = r') : d8c N d sz r = d8c N d sz r' := by rw [h]
@[go_sem] theorem d8d {sz : Nat} {cs : List AV} : d8c N d sz (some (st, cs)) = gO (cs.length = sz) (some ((st.put N (.agg cs)).thru N d (.var cs))) := (rfl)
@[go_sem] theorem f0q {T : TypeId} {sz : Nat} {x : X} : evS G N (some d) (.box T sz x) st = d8c N d sz (giv st N x (rdv st x)) := by
 simp only [evS, a07, Ev.run_bind, a95, Option.bind]
 cases giv st N x (rdv st x) with
 | none => rfl
 | some r =>
  obtain ⟨st1, cs⟩ := r
  have hN : (st1.put N (.agg cs)).s N = .agg cs := by simp
  simp only [Option.map, b89, Ev.run_bind, a4r, Option.bind, hN, Ev.run_pure, a0f, d8c, gO]
  by_cases hc : cs.length = sz
  ·simp only [hc, decide_true, if_true]; rfl
  ·simp only [hc, decide_false, Bool.false_eq_true, if_false]
def e1f (st : St) (N d sz by_ : Nat) (zs : List AV) (l c : Option Int) : Option St := match l, c with
 | some n, some m => gO (0 <= n /\ n <= m /\ m * by_ <= 140737488355328 /\ m <= 140737488355328) (some (st.thru N d (.own sz n.toNat (a7g n.toNat zs))))
 | _, _ => none
@[congr] theorem d58 {sz by_ : Nat} {zs : List AV} {l l' c c' : Option Int} (h : l = l') (h2 : c = c') : e1f st N d sz by_ zs l c = e1f st N d sz by_ zs l' c' := by rw [h, h2]
@[go_sem] theorem e1g {sz by_ : Nat} {zs : List AV} {n m : Int} : e1f st N d sz by_ zs (some n) (some m) = gO (0 <= n /\ n <= m /\ m * by_ <= 140737488355328 /\ m <= 140737488355328) (some (st.thru N d (.own sz n.toNat (a7g n.toNat zs)))) := (rfl)
@[go_sem] theorem f0y {T e : TypeId} {sz by_ : Nat} {zs : List AV} {l c : X} : evS G N (some d) (.mks T e sz by_ zs l c) st = e1f st N d sz by_ zs (c7c (rdv st l)) (c7c (rdv st c)) := by
 simp only [evS, a07, Ev.run_bind, b15, Option.bind, e1f]
 cases c7c (rdv st l) with
 | none => rfl
 | some n =>
  simp only [Option.map, b15]
  cases c7c (rdv st c) with
  | none => rfl
  | some m =>
   simp only [Option.map, Ev.run_bind, a0f, Option.bind, gO]
   by_cases hc : 0 <= n /\ n <= m /\ m * by_ <= 140737488355328 /\ m <= 140737488355328
   ·obtain ⟨h1, h2, h3, h4⟩ := hc
    simp only [h1, h2, h3, h4, decide_true, Bool.and_self, if_true, and_self]; rfl
   ·have : (decide (0 <= n) && decide (n <= m) && decide (m * by_ <= 140737488355328) && decide (m <= 140737488355328)) = false := by
     rw [Bool.eq_false_iff]; intro hh
     simp only [Bool.and_eq_true, decide_eq_true_eq] at hh
     exact hc ⟨hh.1.1.1, hh.1.1.2, hh.1.2, hh.2⟩
    simp only [this, Bool.false_eq_true, if_false, if_neg hc]
def d56 (st : St) (d : Nat) (T : TypeId) (x : X) (v : AV) : Option St := match v with
 | .lit v => some (st.put d (.lit (.iface T v)))
 | .var ks => match x with
  | .t t => some ((st.set t (frz (.var ks))).put d (.ifc T (frz (.var ks))))
  | _ => none
 | .ip ks o => some (st.put d (.ifc T (.ip ks o)))
 | _ => none
@[congr] theorem d57 {T : TypeId} {x : X} {v v' : AV} (h : v = v') : d56 st d T x v = d56 st d T x v' := by rw [h]
@[go_sem] theorem f0x {T : TypeId} {x : X} : evS G N (some d) (.mki T x) st = d56 st d T x (rdv st x) := by
 simp only [evS, a07, Ev.run_bind, a0u, Option.bind]
 cases hv : rdv st x <;> try rfl
 cases x <;> rfl
@[go_sem] theorem e7m {T : TypeId} {x : X} {v : Value} : d56 st d T x (.lit v) = some (st.put d (.lit (.iface T v))) := (rfl)
@[go_sem] theorem e7n {T : TypeId} {t : Nat} {ks : List AV} : d56 st d T (.t t) (.var ks) = some ((st.set t (.ip (a1n ks) 0)).put d (.ifc T (.ip (a1n ks) 0))) := (rfl)
@[go_sem] theorem f2j {T : TypeId} {x : X} {ks : List AV} {o : Nat} : d56 st d T x (.ip ks o) = some (st.put d (.ifc T (.ip ks o))) := (rfl)
def d17 (st : St) (d : Nat) (k : Option AV) : Option St := match k with
 | some k => if a0l k then some (st.put d k) else none
 | none => none
@[congr] theorem d5m {k k' : Option AV} (h : k = k') : d17 st d k = d17 st d k' := by rw [h]
@[go_sem] theorem d9u {k : AV} : d17 st d (some k) = iO (a0l k) (some (st.put d k)) none := (rfl)
def d9v (st : St) (d off : Nat) (v : AV) : Option St := match v with
 | .agg ks => d17 st d ks[off]?
 | _ => none
@[congr] theorem d5n {off : Nat} {v v' : AV} (h : v = v') : d9v st d off v = d9v st d off v' := by rw [h]
@[go_sem] theorem e6n {off : Nat} {ks : List AV} : d9v st d off (.agg ks) = d17 st d ks[off]? := (rfl)
@[go_sem] theorem f0t {T off f : Nat} {x : X} : evS G N (some d) (.fld T off x f) st = d9v st d off (rdv st x) := by
 simp only [evS, a07, Ev.run_bind, a0u, Option.bind]
 cases hv : rdv st x <;> try rfl
 rename_i ks
 simp only [d9v, Ev.run_bind, a0z, Option.bind]
 cases ks[off]? with
 | none => rfl
 | some k =>
  simp only [d17, Ev.run_bind, a0f, Option.bind]
  cases hn : a0l k
  ·simp [d17, Ev.run_bind, a0f, a0z, hn]
  ·simp only [Option.map, hn, if_true]; rfl
def d13 (st : St) (N d : Nat) (x : X) (i : Nat) (ks : List AV) (k : Option AV) : Option St := match k with
 | some k => if a0l k then some (st.put d k) else match x with
  | .t t => some ((st.put t (.tup (ks.set i .dead))).thru N d k)
  | _ => none
 | none => none
@[congr] theorem d5j {x : X} {i : Nat} {ks : List AV} {k k' : Option AV} (h : k = k') : d13 st N d x i ks k = d13 st N d x i ks k' := by rw [h]
@[go_sem] theorem d9o {t i : Nat} {ks : List AV} {k : AV} : d13 st N d (.t t) i ks (some k) = iO (a0l k) (some (st.put d k)) (some ((st.put t (.tup (ks.set i .dead))).thru N d k)) := (rfl)
def d9p (st : St) (N d : Nat) (x : X) (i : Nat) (v : AV) : Option St := match v with
 | .tup ks => d13 st N d x i ks ks[i]?
 | _ => none
@[congr] theorem d5k {x : X} {i : Nat} {v v' : AV} (h : v = v') : d9p st N d x i v = d9p st N d x i v' := by rw [h]
@[go_sem] theorem e6k {x : X} {i : Nat} {ks : List AV} : d9p st N d x i (.tup ks) = d13 st N d x i ks ks[i]? := (rfl)
@[go_sem] theorem f0s {x : X} {i : Nat} : evS G N (some d) (.ext x i) st = d9p st N d x i (rdv st x) := by
 simp only [evS, a07, Ev.run_bind, a0u, Option.bind]
 cases hv : rdv st x <;> try rfl
 rename_i ks
 simp only [d9p, Ev.run_bind, a0z, Option.bind]
 cases ks[i]? with
 | none => rfl
 | some k =>
  simp only [Option.map, d13]
  generalize a0l k = b
  cases b <;> cases x <;> rfl
def d01 (T : TypeId) (zs : List AV) (v : AV) : Option AV := match v, zs with
 | .lit .nilIface, [z] => some (.tup [z, .lit (.bool false)])
 | .lit (.iface T' u), [z] => some (.tup (if T' = T then [.lit u, .lit (.bool true)] else [z, .lit (.bool false)]))
 | .ifc T' k, [z] => if a0l k then some (.tup (if T' = T then [k, .lit (.bool true)] else [z, .lit (.bool false)])) else none
 | _, _ => none
@[congr] theorem d7g {T : TypeId} {zs : List AV} {v v' : AV} (h : v = v') : d01 T zs v = d01 T zs v' := by rw [h]
@[go_sem] theorem e9f {T : TypeId} {z : AV} : d01 T [z] (.lit .nilIface) = some (.tup [z, .lit (.bool false)]) := (rfl)
@[go_sem] theorem e9e {T T' : TypeId} {u : Value} {z : AV} : d01 T [z] (.lit (.iface T' u)) = some (.tup (if T' = T then [.lit u, .lit (.bool true)] else [z, .lit (.bool false)])) := (rfl)
@[go_sem] theorem f4p {T T' : TypeId} {ks : List AV} {o : Nat} {z : AV} : d01 T [z] (.ifc T' (.ip ks o)) = some (.tup (if T' = T then [.ip ks o, .lit (.bool true)] else [z, .lit (.bool false)])) := (rfl)
@[go_sem] theorem f02 {x : X} {xT T : TypeId} {zs : List AV} : evS G N (some d) (.tas x xT T zs) st = b3b st d (d01 T zs (rdv st x)) := by
 simp only [evS, a07, Ev.run_bind, a0u, Option.bind]
 have two : ∀ v : AV, (∀ z, zs ≠ [z]) -> ((match v, zs with
  | .lit .nilIface, [z] => setD (some d) (.tup [z, .lit (.bool false)])
  | .lit (.iface T' u), [z] => setD (some d) (.tup (if T' = T then [.lit u, .lit (.bool true)] else [z, .lit (.bool false)]))
  | .ifc T' k, [z] => do
   a0i (a0l k)
   setD (some d) (.tup (if T' = T then [k, .lit (.bool true)] else [z, .lit (.bool false)]))
  | _, _ => Ev.fail : Ev Unit).run st).map (·.2) = b3b st d (d01 T zs v) := by
  intro v h
  cases v <;> (cases zs with
   | nil => first | rfl | (rename_i v; cases v <;> rfl)
   | cons a l => cases l with
    | nil => exact (h a rfl).elim
    | cons b l => first | rfl | (rename_i v; cases v <;> rfl))
 cases zs with
 | nil => exact two _ (by simp)
 | cons z l =>
  cases l with
  | cons b l => exact two _ (by simp)
  | nil =>
   cases hv : rdv st x <;> try rfl
   ·rename_i v; cases v <;> rfl
   ·simp only [Ev.run_bind, a0f, Option.bind, d01]
    generalize a0l _ = b
    cases b <;> rfl
def cvI (k : IntKind) (v : AV) : Option AV := match v with
 | .lit (.int _ n) => some (.lit (.int k (k.wrap n)))
 | _ => none
@[congr] theorem d8s {k : IntKind} {v v' : AV} (h : v = v') : cvI k v = cvI k v' := by rw [h]
@[go_sem] theorem e91 {k k' : IntKind} {n : Int} : cvI k (.lit (.int k' n)) = some (.lit (.int k (k.wrap n))) := (rfl)
@[go_sem] theorem e6e {s t : TypeId} {k : IntKind} {x : X} : evS G N (some d) (.conv s t (.int k) x) st = b3b st d (cvI k (rdv st x)) := by
 simp only [evS, a07, Ev.run_bind, a48, Option.bind]
 cases rdv st x <;> try rfl
 rename_i v; cases v <;> rfl
def mmO (mx : Bool) (u v : AV) : Option AV := match u, v with
 | .lit (.int k a), .lit (.int k' b) => if k = k' then some (.lit (.int k (if mx then (if b > a then b else a) else (if b < a then b else a)))) else none
 | _, _ => none
@[go_sem] theorem f2k {mx : Bool} {k : IntKind} {a b : Int} : mmO mx (.lit (.int k a)) (.lit (.int k b)) = some (.lit (.int k (if mx then (if b > a then b else a) else (if b < a then b else a)))) := by simp [mmO]
@[go_sem] theorem f6v {mx : Bool} {ts : List TypeId} {x y : X} : evS G N (some d) (.mm mx ts [x, y]) st = b3b st d (mmO mx (rdv st x) (rdv st y)) := by
 simp only [evS, a07, Ev.run_bind, a48, Option.bind]
 cases rdv st x <;> try rfl
 simp only [a48]
 cases rdv st y
 case lit.lit u v =>
  cases u <;> try rfl
  rename_i k a
  cases v <;> try rfl
  rename_i k' b
  simp only [mmO, Ev.run_bind, a0f, Option.bind]
  by_cases h : k = k'
  ·simp only [h, decide_true, if_true]; rfl
  ·simp only [h, decide_false, Bool.false_eq_true, if_false]; rfl
 all_goals first | rfl | (rename_i u; cases u <;> rfl) | (rename_i u _; cases u <;> rfl) | (rename_i u _ _; cases u <;> rfl) | (rename_i u _ _ _; cases u <;> rfl) | (rename_i u _ _ _ _; cases u <;> rfl) | (rename_i u _ _ _ _ _; cases u <;> rfl)
def c1k (st : St) : List X -> Option (List AV)
 | [] => some []
 | x :: xs => match rdv st x with
  | .var _ => match x with
   | .t t => (c1k st xs).map fun ks => .ref t [] 0 (st.ep t) :: ks
   | _ => none
  | .own _ _ _ => none
  | .dead => none
  | .agg _ => none
  | .tup _ => none
  | .ifc _ _ => none
  | .bor _ _ _ _ _ => none
  | .mp _ _ => none
  | .loan _ => none
  | k => (c1k st xs).map fun ks => k :: ks
theorem b3g : ∀ (xs : List X), (b32 xs).run st = (c1k st xs).map fun ks => (ks, st)
 | [] => rfl
 | x :: xs => by
  have ih := b3g xs
  simp only [b32, Ev.run_bind, a0u, Option.bind, c1k]
  cases hv : rdv st x <;> try (first | rfl | (simp only [Ev.run_bind, ih, Option.bind]; cases c1k st xs <;> rfl))
  cases x <;> try rfl
  simp only [b16, Ev.run, Ev.run_bind, ih, Option.bind, rde]
  cases c1k st xs <;> rfl
def d0c (x : X) (v : AV) (st : St) (r : Option (List AV)) : Option (List AV) := match v with
  | .var _ => match x with
   | .t t => r.map fun ks => .ref t [] 0 (st.ep t) :: ks
   | _ => none
  | .own _ _ _ => none
  | .dead => none
  | .agg _ => none
  | .tup _ => none
  | .ifc _ _ => none
  | .bor _ _ _ _ _ => none
  | .mp _ _ => none
  | .loan _ => none
  | k => r.map fun ks => k :: ks
@[go_sem] theorem e5v : c1k st [] = some [] := (rfl)
@[go_sem] theorem d8l {x : X} {xs : List X} : c1k st (x :: xs) = d0c x (rdv st x) st (c1k st xs) := by
 simp only [c1k, d0c]
@[go_sem] theorem e5u {t : Nat} {ks l : List AV} : d0c (.t t) (.var ks) st (some l) = some (.ref t [] 0 (st.ep t) :: l) := (rfl)
@[go_sem] theorem e5s {x : X} {v : Value} {l : List AV} : d0c x (.lit v) st (some l) = some (.lit v :: l) := (rfl)
@[go_sem] theorem e9z {x : X} {n : Nat} {ks l : List AV} : d0c x (.sl n ks) st (some l) = some (.sl n ks :: l) := (rfl)
@[go_sem] theorem e9y {x : X} {n : Nat} {ks l : List AV} : d0c x (.ip ks n) st (some l) = some (.ip ks n :: l) := (rfl)
@[go_sem] theorem e9x {x : X} {f : FuncId} {a b l : List AV} : d0c x (.fn f a b) st (some l) = some (.fn f a b :: l) := (rfl)
@[go_sem] theorem e5t {x : X} {t : Nat} {q : List Nat} {o e : Nat} {l : List AV} : d0c x (.ref t q o e) st (some l) = some (.ref t q o e :: l) := (rfl)
def f7z (f : FuncId) (a b : Option (List AV)) : Option AV := match a, b with
 | some a, some b => some (.fn f a b)
 | _, _ => none
@[go_sem] theorem e1e {f : FuncId} {a b : List AV} : f7z f (some a) (some b) = some (.fn f a b) := (rfl)
@[go_sem] theorem f0w {f : FuncId} {fs cs : List X} : evS G N (some d) (.mkf f fs cs) st = b3b st d (f7z f (c1k st fs) (c1k st cs)) := by
 simp only [evS, a07, Ev.run_bind, b3g, Option.bind]
 cases c1k st fs with
 | none => rfl
 | some a =>
  simp only [Option.map, b3g]
  cases c1k st cs <;> rfl
def f0n (G : GG) (b : BinOp) (tp : TypeId) (d : Option Nat) (u v : Value) : Ev Unit := match u, v with
  | .iface t1 (.pointer (some a)), .iface t2 (.pointer (some c)) => do
   a0i (t1 == tp && t2 == tp && (decide (a = c) || ((G a.block).isSome && (G c.block).isSome)))
   match b with
   | .eql => setD d (.lit (.bool (decide (a = c))))
   | .neq => setD d (.lit (.bool (!(decide (a = c)))))
   | _ => .fail
  | _, _ => .fail
def d9a (G : GG) (b : BinOp) (tp : TypeId) (st : St) (d : Nat) (u v : Option Value) : Option St := match u, v with
 | some u, some v => ((f0n G b tp (some d) u v).run st).map (·.2)
 | _, _ => none
@[congr] theorem d5g {b : BinOp} {tp : TypeId} {u v u' v' : Option Value} (h : u = u') (h2 : v = v') : d9a G b tp st d u v = d9a G b tp st d u' v' := by rw [h, h2]
def e9t (b : BinOp) (c : Bool) : Option AV := match b with
 | .eql => some (.lit (.bool c))
 | .neq => some (.lit (.bool (!c)))
 | _ => none
@[go_sem] theorem e5k {c : Bool} : e9t .eql c = some (.lit (.bool c)) := (rfl)
@[go_sem] theorem e5l {c : Bool} : e9t .neq c = some (.lit (.bool !c)) := (rfl)
@[go_sem] theorem e6d {b : BinOp} {tp t1 t2 : TypeId} {a c : Addr} : d9a G b tp st d (some (.iface t1 (.pointer (some a)))) (some (.iface t2 (.pointer (some c)))) = gO (t1 = tp /\ t2 = tp /\ (a = c \/ ((G a.block).isSome = true /\ (G c.block).isSome = true))) (b3b st d (e9t b (decide (a = c)))) := by
 simp only [d9a, f0n, gO, Ev.run_bind, a0f, Option.bind]
 by_cases h : t1 = tp /\ t2 = tp /\ (a = c \/ ((G a.block).isSome = true /\ (G c.block).isSome = true))
 ·have : (t1 == tp && t2 == tp && (decide (a = c) || ((G a.block).isSome && (G c.block).isSome))) = true := by
   simp only [Bool.and_eq_true, Bool.or_eq_true, beq_iff_eq, decide_eq_true_eq]; exact ⟨⟨h.1, h.2.1⟩, h.2.2⟩
  rw [if_pos h]
  simp only [this, if_true]
  cases b <;> rfl
 ·have : (t1 == tp && t2 == tp && (decide (a = c) || ((G a.block).isSome && (G c.block).isSome))) = false := by
   rw [Bool.eq_false_iff]; intro hh
   simp only [Bool.and_eq_true, Bool.or_eq_true, beq_iff_eq, decide_eq_true_eq] at hh
   exact h ⟨hh.1.1, hh.1.2, hh.2⟩
  rw [if_neg h]
  simp only [this, Bool.false_eq_true, if_false]; rfl
@[go_sem] theorem f0r {b : BinOp} {T tp te : TypeId} {x y : X} {yT : TypeId} : evS G N (some d) (.eqs b T tp te x y yT) st = d9a G b tp st d (d54 (rdv st x)) (d54 (rdv st y)) := by
 have e : a07 G N (some d) (.eqs b T tp te x y yT) = (b6r x >>= fun u => b6r y >>= fun v => f0n G b tp (some d) u v) := rfl
 simp only [evS, e, Ev.run_bind, b8v, Option.bind]
 cases d54 (rdv st x) with
 | none => rfl
 | some u =>
  simp only [Option.map, b8v]
  cases d54 (rdv st y) <;> rfl
end
end Go.Ideal
end
