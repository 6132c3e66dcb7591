/- Part Qao of the proof: a machine with trees for values, its soundness, and walks on it. -/
import Derived.Test.YtfncabcldhemkaaDoorQan
import Derived.Test.YtfncabcldhemkaaDoorQag
set_option linter.unusedVariables false
set_option linter.unusedSimpArgs false
set_option maxRecDepth 10000
section
namespace Go.Ideal.Tryd
section
variable {G : GG} {bk : Nat -> Nat × Nat} {Q : Exit -> St -> Prop} {st : St}
theorem c9l {l : List Sp} {s : Sp} {os : List Int} {most : Int} {i : Nat} (hi : i <= l.length) (hl : l.length < 2 ^ 40) (hos : i <= os.length) (hol : os.length < 2 ^ 40) (hx : ∀ x ∈ l, x.len < 2 ^ 63) (ho : ∀ o ∈ os, 0 <= o /\ o < 2 ^ 63) (hs : s.len < 2 ^ 63 /\ 1 <= s.len)
  (h : st.s 0 = slS l /\ st.s 4 = owI os /\ st.s 5 = li most /\ st.s 6 = li i /\ st.s 7 = .var (eS s) /\ st.s 8 = li 0 /\ st.s 15 = slS l /\ st.s 16 = li l.length /\ st.s 17 = li i)
  (hex : ∀ s' : St, s'.s 0 = slS l /\ s'.s 4 = owI os /\ s'.s 5 = li most /\ s'.s 6 = li i /\ s'.s 7 = .var (eS s) /\ s'.s 8 = li (a4o s (l.take i) os b9a 0) /\ s'.s 15 = slS l /\ s'.s 16 = li l.length /\ s'.s 17 = li i -> Q (.exit 2) s') : AW pg G 107 (.loop a61) Q st := by
 have hds : (l.take i).length = i := by simp; omega
 have hdx : ∀ x ∈ l.take i, x.len < 2 ^ 63 := fun x hx2 => hx x (List.mem_of_mem_take hx2)
 have htk := c74 hi
 generalize l.take i = ds at *
 refine a06 (Nat × Int) (fun p st => (0 <= p.2 /\ p.2 < 2 ^ 63) /\ 2 ^ 63 - p.2 <= p.1 /\ a4o s ds os p.1 p.2 = a4o s ds os b9a 0 /\ st.s 0 = slS l /\ st.s 4 = owI os /\ st.s 5 = li most /\ st.s 6 = li i /\ st.s 7 = .var (eS s) /\ st.s 8 = li p.2 /\ st.s 15 = slS l /\ st.s 16 = li l.length /\ st.s 17 = li i) (fun p => p.1) (b9a, 0) ⟨by omega, by simp [b9a], rfl, by simpa using h⟩ ?_
 clear h
 rintro ⟨n, off⟩ st K ⟨hoff, hn, hm, h⟩ hK
 simp only at hoff hn hm h
 obtain ⟨n, rfl⟩ : ∃ m, n = m + 1 := ⟨n - 1, by omega⟩
 rw [a4o] at hm
 simp (disch := omega) [go_sem, a61, h, hi, htk]
 refine c9k (ds := ds) (s := s) (os := os) (off := off) (most := most) hds hl (by omega) hol hdx ho hs hoff (by simp (disch := omega) [go_sem, h, hi, htk]) (fun o e s' h' => ?_) (fun e s' h' => ?_)
 ·rw [e] at hm
  have := b2s hdx ho e
  simp (disch := omega) [go_sem, h']
  exact hK (n, o) _ ⟨this.2, by simp only; omega, hm, by simp (disch := omega) [go_sem, h']⟩ (by simp only; omega)
 ·rw [e] at hm
  simp only at hm
  simp (disch := omega) [go_sem, h']
  exact hex _ (by simp (disch := omega) [go_sem, h', <- hm])
theorem c9v {os : List Int} {k : Nat} {x : Int} : (os ++ List.replicate (k + 1) (0 : Int)).set os.length x = (os ++ [x]) ++ List.replicate k 0 := by
 rw [List.set_append_right _ _ (Nat.le_refl _), Nat.sub_self, List.replicate_succ, List.set_cons_zero, List.append_assoc]; rfl
theorem c9m {l : List Sp} (hl : l.length < 2 ^ 40) (hx : ∀ x ∈ l, x.len < 2 ^ 63)
  (h : st.s 0 = slS l /\ st.s 4 = owI (List.replicate l.length 0) /\ st.s 5 = li 0 /\ st.s 15 = slS l /\ st.s 16 = li l.length /\ st.s 17 = li 0)
  (hex : ∀ s' : St, s'.s 4 = owI (a40 l).1 /\ s'.s 5 = li (a40 l).2 -> Q (.exit 0) s') : AW pg G 107 (.loop a3y) Q st := by
 refine a06 (Nat × List Int × List Int × Int) (fun p st => p.1 <= l.length /\ p.2.1.length = p.1 /\ p.2.2.1 = p.2.1 ++ List.replicate (l.length - p.1) 0 /\ (∀ o ∈ p.2.1, 0 <= o /\ o < 2 ^ 63) /\ c56 b9a (l.take p.1) p.2.1 p.2.2.2 (l.drop p.1) = a40 l /\ st.s 0 = slS l /\ st.s 4 = owI p.2.2.1 /\ st.s 5 = li p.2.2.2 /\ st.s 15 = slS l /\ st.s 16 = li l.length /\ st.s 17 = li p.1) (fun p => l.length - p.1) (0, [], List.replicate l.length 0, 0) ⟨by simp, rfl, by simp, by simp, by simp [a40], by simpa using h⟩ ?_
 clear h
 rintro ⟨i, os, offs, most⟩ st K ⟨hi, hol, hof, ho, hm, h⟩ hK
 simp only at hi hol hof ho hm h
 have hlo : offs.length = l.length := by rw [hof]; simp; omega
 have hoo : ∀ o ∈ offs, 0 <= o /\ o < 2 ^ 63 := by
  intro o ho2
  rw [hof] at ho2
  rcases List.mem_append.1 ho2 with h2 | h2
  ·exact ho o h2
  ·rw [List.eq_of_mem_replicate h2]; omega
 by_cases c : i < l.length
 ·have hx1 := hx _ (List.getElem_mem c)
  rw [List.drop_eq_getElem_cons c, c56, <- List.take_succ_eq_append_getElem c] at hm
  have hds : os.length = (l.take i).length := by simp; omega
  have hlk : a4o l[i] (l.take i) offs b9a 0 = a4o l[i] (l.take i) os b9a 0 := by rw [hof]; exact b76 hds
  have hrg := b77 (s := l[i]) (xs := l.take i) (os := os) (n := b9a) (off := 0) (fun x hx2 => hx x (List.mem_of_mem_take hx2)) ho (by omega)
  have hset : ∀ x, offs.set i x = (os ++ [x]) ++ List.replicate (l.length - (i + 1)) 0 := by
   intro x
   rw [hof, show l.length - i = (l.length - (i + 1)) + 1 by omega, <- hol]
   exact c9v
  generalize hsv : l[i] = s at *
  by_cases c1 : s.len < 1
  ·rw [if_pos c1] at hm
   have hn : ¬ (1 : Int) <= s.len := by omega
   simp (disch := omega) [go_sem, a3y, h, c, hsv, c1]
   refine hK (i + 1, os ++ [0], offs, most) _ ⟨by simp only; omega, by simp [hol], ?_, ?_, hm, by simp (disch := omega) [go_sem, h]⟩ (by simp only; omega)
   ·simp only
    rw [hof, show l.length - i = (l.length - (i + 1)) + 1 by omega, List.replicate_succ]; simp
   ·intro o ho2
    rcases List.mem_append.1 ho2 with h2 | h2
    ·exact ho o h2
    ·simp at h2; omega
  ·rw [if_neg c1] at hm
   simp (disch := omega) [go_sem, a3y, h, c, hsv, c1]
   refine c9l (l := l) (s := s) (os := offs) (most := most) (i := i) (by omega) hl (by omega) (by omega) hx hoo ⟨hx1, by omega⟩ (by simp (disch := omega) [go_sem, h, eS]) (fun s' h' => ?_)
   rw [hlk] at h'
   generalize hlv : a4o s (l.take i) os b9a 0 = off at *
   have spec := d1y (G := G) off s.len hrg ⟨by omega, hx1⟩
   have c2 : i < offs.length := by omega
   simp (disch := omega) [go_sem, h', eS, c, c2]
   refine a0j spec rfl rfl ?_
   simp (disch := omega) [go_sem, h', eS, c, c2]
   refine hK (i + 1, os ++ [off], offs.set i off, max most (b36 off s.len)) _ ⟨by simp only; omega, by simp [hol], hset off, ?_, hm, by simp (disch := omega) [go_sem, h', eS, b0o]⟩ (by simp only; omega)
   intro o ho2
   rcases List.mem_append.1 ho2 with h2 | h2
   ·exact ho o h2
   ·simp at h2; omega
 ·have : i = l.length := by omega
  subst this
  rw [List.drop_length, c56] at hm
  simp only [Nat.sub_self, List.replicate_zero, List.append_nil] at hof
  subst hof
  simp (disch := omega) [go_sem, a3y, h]
  exact hex _ (by simp (disch := omega) [go_sem, h, <- hm])
theorem c57 (l : List Sp) (hl : l.length < 2 ^ 40) (hx : ∀ x ∈ l, x.len < 2 ^ 63) : ACalls pg G b6w [slS l] (.tup [owI (a40 l).1, li (a40 l).2]) := by
 refine b2n rfl ?_
 simp (disch := omega) [go_sem, b09]
 refine c9m (l := l) hl hx (by simp (disch := omega) [go_sem]) (fun s' h' => ?_)
 simp (disch := omega) [go_sem, h']
end
end Go.Ideal.Tryd
end
section
namespace Go.Ideal.Tryd
attribute [local go_sem] eD
theorem b7m {xs : List Sp} {i : Nat} {a b o l : Int} (h : i < xs.length) : a0g (fm eS xs) (i * 4) [li a, li b, li o, li l] = fm eS (xs.set i ⟨a, b, o, l⟩) := b2h (f := eS) (c := 4) (fun _ => rfl) ⟨a, b, o, l⟩ h
theorem b3k {α : Type} {os : List α} {k : Nat} {x z : α} : (os ++ List.replicate (k + 1) z).set os.length x = (os ++ [x]) ++ List.replicate k z := by
 rw [List.set_append_right _ _ (Nat.le_refl _), Nat.sub_self, List.replicate_succ, List.set_cons_zero, List.append_assoc]; rfl
def sp0 : Sp := ⟨0, 0, 0, 0⟩
theorem d3f {n : Nat} : a7g n [li 0, li 0, li 0, li 0] = fm eS (List.replicate n sp0) := by
 induction n with
 | zero => rfl
 | succ n ih => rw [List.replicate_succ, a3o, <- ih]; simp [a7g, List.replicate_succ, eS, sp0]
def c66 : Nat -> List Int -> List Int -> List Int
 | _, a, [] => a
 | k, a, i :: is => c66 (k + 1) (a.set i.toNat k) is
def atI (ord : List Int) (n : Nat) : List Int := c66 0 (List.replicate n 0) ord
def c7q (a : List Int) : Int -> List Int -> Int
 | t, [] => t
 | t, k :: ks => c7q a (max t a[k.toNat]!) ks
def d3w (g : Gr) (ds : List Ds) (a : List Int) (i : Nat) (us : List Int) : Sp := ⟨a[i]!, if (i : Int) = g.out then g.nodes.length else c7q a a[i]! us, 0, upI (a38 ds[i]!.shape ds[i]!.wide)⟩
def e0j (inn x : Sp) : Sp := { inn with b := max inn.b x.b, len := x.len }
def b82 (g : Gr) (ds : List Ds) (a : List Int) : Nat -> List (List Int) -> List Sp -> Sp -> List Sp × Sp
 | _, [], out, inn => (out, inn)
 | i, us :: uss, out, inn => b82 g ds a (i + 1) uss (out ++ [d3w g ds a i us]) (if g.nodes[i]!.op = 1 then e0j inn (d3w g ds a i us) else inn)
def a7a (g : Gr) : List (List Int) := c31 (g.nodes.map (·.ins)) 0 (List.replicate g.nodes.length [])
def a4t (g : Gr) (s : Sn) : List Sp × Sp := b82 g s.descs (atI s.ord g.nodes.length) 0 (a7a g) [] ⟨-1, -1, 0, 4⟩
theorem c1i : ∀ {k : Nat} {a is : List Int}, (c66 k a is).length = a.length
 | _, _, [] => rfl
 | k, a, i :: is => by rw [c66, c1i, List.length_set]
theorem e4i {t : Nat} : ∀ {rs : List (List Int)} {i : Nat}, ∀ x ∈ sp t rs i, x < (i : Int) + rs.length
 | [], i, x, h => by simp [sp] at h
 | r :: rs, i, x, h => by
  rw [sp] at h
  rcases List.mem_append.1 h with h | h
  ·split at h <;> simp at h; simp; omega
  ·have := e4i (rs := rs) (i := i + 1) x h
   simp; omega
theorem a77 {g : Gr} : (a7a g).length = g.nodes.length := by
 rcases Nat.eq_zero_or_pos g.nodes.length with h | h
 ·have : g.nodes = [] := List.eq_nil_of_length_eq_zero h
  simp [a7a, this, c31]
 ·have := (b17 (t := 0) (rs := g.nodes.map (·.ins)) (i := 0) (u := List.replicate g.nodes.length []) (by simpa using h) (by simp [h])).2
  simpa [a7a] using this
theorem b86 {g : Gr} {t : Nat} (h : t < g.nodes.length) : (a7a g)[t]! = sp t (g.nodes.map (·.ins)) 0 := by
 have := (b17 (t := t) (rs := g.nodes.map (·.ins)) (i := 0) (u := List.replicate g.nodes.length []) (by simpa using h) (by simp [h])).1
 simpa [a7a, h] using this
theorem b87 {g : Gr} : ∀ r ∈ a7a g, r.length <= g.nodes.length /\ ∀ x ∈ r, 0 <= x /\ x < (g.nodes.length : Int) := by
 intro r hr
 obtain ⟨t, ht, rfl⟩ := List.mem_iff_getElem.1 hr
 have h2 : t < g.nodes.length := by rw [<- a77]; exact ht
 have e := b86 h2
 rw [a8m ht] at e
 rw [e]
 refine ⟨by have := d0y (t := t) (rs := g.nodes.map (·.ins)) (i := 0); simpa using this, fun x hx => ?_⟩
 have h3 := e4h x hx
 have h4 := e4i x hx
 simp at h3 h4
 omega
section
variable {G : GG} {bk : Nat -> Nat × Nat} {Q : Exit -> St -> Prop} {st : St}
theorem c9x {g : Gr} {s : Sn} {n : Nat} (hn : n <= 64) (hord : ∀ x ∈ s.ord, 0 <= x /\ x < (n : Int)) (hlo : s.ord.length < 2 ^ 36)
  (h : st.s 2 = .var [slN g.nodes, li g.out] /\ st.s 3 = .var (eSn s) /\ st.s 5 = .var [li 0, li 0, li 0, li 0] /\ st.s 6 = owI (List.replicate n 0) /\ st.s 21 = slI s.ord /\ st.s 22 = li s.ord.length /\ st.s 23 = li 0)
  (hex : ∀ s' : St, s'.s 2 = .var [slN g.nodes, li g.out] /\ s'.s 3 = .var (eSn s) /\ s'.s 5 = .var [li 0, li 0, li 0, li 0] /\ s'.s 6 = owI (atI s.ord n) -> Q (.exit 0) s') : AW pg G 108 (.loop a42) Q st := by
 refine a06 (Nat × List Int) (fun p st => p.1 <= s.ord.length /\ p.2.length = n /\ c66 p.1 p.2 (s.ord.drop p.1) = atI s.ord n /\ st.s 2 = .var [slN g.nodes, li g.out] /\ st.s 3 = .var (eSn s) /\ st.s 5 = .var [li 0, li 0, li 0, li 0] /\ st.s 6 = owI p.2 /\ st.s 21 = slI s.ord /\ st.s 22 = li s.ord.length /\ st.s 23 = li p.1) (fun p => s.ord.length - p.1) (0, List.replicate n 0) ⟨by simp, by simp, rfl, by simpa using h⟩ ?_
 clear h
 rintro ⟨k, a⟩ st K ⟨hk, hl, hm, h⟩ hK
 simp only at hk hl hm h
 by_cases c : k < s.ord.length
 ·have hx := hord _ (List.getElem_mem c)
  obtain ⟨i, hi⟩ : ∃ i : Nat, s.ord[k] = i := ⟨s.ord[k].toNat, by omega⟩
  rw [hi] at hx
  have hin : i < a.length := by omega
  rw [List.drop_eq_getElem_cons c, c66, hi, Int.toNat_natCast] at hm
  simp (disch := omega) [go_sem, a42, h, c, hi, hin]
  exact hK (k + 1, a.set i k) _ ⟨by simp only; omega, by simpa using hl, hm, by simp (disch := omega) [go_sem, h, hin]⟩ (by simp only; omega)
 ·have : k = s.ord.length := by omega
  subst this
  rw [List.drop_length, c66] at hm
  subst hm
  simp (disch := omega) [go_sem, a42, h]
  exact hex _ (by simp (disch := omega) [go_sem, h])
theorem c9y {g : Gr} {s : Sn} {a us : List Int} {arr : List Sp} {uss : List (List Int)} {inn x : Sp} {i : Nat} (ha : a.length <= 64) (hus : us.length <= 64) (hu : ∀ k ∈ us, 0 <= k /\ k < (a.length : Int))
  (h : st.s 2 = .var [slN g.nodes, li g.out] /\ st.s 3 = .var (eSn s) /\ st.s 5 = .var [li 0, li 0, li 0, li 0] /\ st.s 6 = owI a /\ st.s 9 = owS arr /\ st.s 10 = .var (eS inn) /\ st.s 11 = li i /\ st.s 13 = .var (eS x) /\ st.s 39 = a9e uss /\ st.s 40 = li uss.length /\ st.s 41 = li i /\ st.s 62 = slI us /\ st.s 63 = li us.length /\ st.s 64 = li 0)
  (hex : ∀ s' : St, s'.s 2 = .var [slN g.nodes, li g.out] /\ s'.s 3 = .var (eSn s) /\ s'.s 5 = .var [li 0, li 0, li 0, li 0] /\ s'.s 6 = owI a /\ s'.s 9 = owS arr /\ s'.s 10 = .var (eS inn) /\ s'.s 11 = li i /\ s'.s 13 = .var (eS { x with b := c7q a x.b us }) /\ s'.s 39 = a9e uss /\ s'.s 40 = li uss.length /\ s'.s 41 = li i -> Q (.exit 4) s') : AW pg G 108 (.loop a43) Q st := by
 refine a06 (Nat × Int) (fun p st => p.1 <= us.length /\ c7q a p.2 (us.drop p.1) = c7q a x.b us /\ st.s 2 = .var [slN g.nodes, li g.out] /\ st.s 3 = .var (eSn s) /\ st.s 5 = .var [li 0, li 0, li 0, li 0] /\ st.s 6 = owI a /\ st.s 9 = owS arr /\ st.s 10 = .var (eS inn) /\ st.s 11 = li i /\ st.s 13 = .var (eS { x with b := p.2 }) /\ st.s 39 = a9e uss /\ st.s 40 = li uss.length /\ st.s 41 = li i /\ st.s 62 = slI us /\ st.s 63 = li us.length /\ st.s 64 = li p.1) (fun p => us.length - p.1) (0, x.b) ⟨by simp, by simp, by simpa using h⟩ ?_
 clear h
 rintro ⟨k, t⟩ st K ⟨hk, hm, h⟩ hK
 simp only at hk hm h
 by_cases c : k < us.length
 ·have hx := hu _ (List.getElem_mem c)
  obtain ⟨j, hj⟩ : ∃ j : Nat, us[k] = j := ⟨us[k].toNat, by omega⟩
  rw [hj] at hx
  have hja : j < a.length := by omega
  rw [List.drop_eq_getElem_cons c, c7q, hj, Int.toNat_natCast, a8m hja] at hm
  simp (disch := omega) [go_sem, a43, h, c, hj, hja, eS]
  refine a0b ?_
  simp (disch := omega) [go_sem, h, c, hj, hja, eS]
  refine a0d (by decide) fun s2 hs hep => ?_
  simp (disch := omega) [go_sem, hs, hep, h]
  exact hK (k + 1, max t a[j]) _ ⟨by simp only; omega, hm, by simp (disch := omega) [go_sem, hs, hep, h, eS, b0o]⟩ (by simp only; omega)
 ·have : k = us.length := by omega
  subst this
  rw [List.drop_length, c7q] at hm
  subst hm
  simp (disch := omega) [go_sem, a43, h]
  exact hex _ (by simp (disch := omega) [go_sem, h])
theorem c9z (hS : Sent3 G bk) {g : Gr} {s : Sn} {a : List Int} (hn : g.nodes.length <= 64) (ha : a.length = g.nodes.length) (hd : s.descs.length = g.nodes.length) (hsh : ∀ d ∈ s.descs, d.shape.length < 2 ^ 62)
  (h : st.s 2 = .var [slN g.nodes, li g.out] /\ st.s 3 = .var (eSn s) /\ st.s 5 = .var [li 0, li 0, li 0, li 0] /\ st.s 6 = owI a /\ st.s 9 = owS (List.replicate g.nodes.length sp0) /\ st.s 10 = .var [li (-1), li (-1), li 0, li 4] /\ st.s 39 = a9e (a7a g) /\ st.s 40 = li (a7a g).length /\ st.s 41 = li 0)
  (hex : ∀ s' : St, s'.s 5 = .var [li 0, li 0, li 0, li 0] /\ s'.s 9 = owS (b82 g s.descs a 0 (a7a g) [] ⟨-1, -1, 0, 4⟩).1 /\ s'.s 10 = .var (eS (b82 g s.descs a 0 (a7a g) [] ⟨-1, -1, 0, 4⟩).2) -> Q (.exit 2) s') : AW pg G 108 (.loop a44) Q st := by
 have hul := a77 (g := g)
 have hur := b87 (g := g)
 generalize a7a g = uss at *
 refine a06 (Nat × List Sp × List Sp × Sp) (fun p st => p.1 <= uss.length /\ p.2.1.length = p.1 /\ p.2.2.1 = p.2.1 ++ List.replicate (g.nodes.length - p.1) sp0 /\ b82 g s.descs a p.1 (uss.drop p.1) p.2.1 p.2.2.2 = b82 g s.descs a 0 uss [] ⟨-1, -1, 0, 4⟩ /\ st.s 2 = .var [slN g.nodes, li g.out] /\ st.s 3 = .var (eSn s) /\ st.s 5 = .var [li 0, li 0, li 0, li 0] /\ st.s 6 = owI a /\ st.s 9 = owS p.2.2.1 /\ st.s 10 = .var (eS p.2.2.2) /\ st.s 39 = a9e uss /\ st.s 40 = li uss.length /\ st.s 41 = li p.1) (fun p => uss.length - p.1) (0, [], List.replicate g.nodes.length sp0, ⟨-1, -1, 0, 4⟩) ⟨by simp, rfl, by simp, rfl, by simpa [eS] using h⟩ ?_
 clear h
 rintro ⟨i, out, arr, inn⟩ st K ⟨hi, hol, har, hm, h⟩ hK
 simp only at hi hol har hm h
 have hla : arr.length = g.nodes.length := by rw [har]; simp; omega
 by_cases c : i < uss.length
 ·have hr := hur _ (List.getElem_mem c)
  have c1 : i < g.nodes.length := by omega
  have c2 : i < a.length := by omega
  have c3 : i < s.descs.length := by omega
  have c4 : i < arr.length := by omega
  have hset : ∀ x, arr.set i x = (out ++ [x]) ++ List.replicate (g.nodes.length - (i + 1)) sp0 := by
   intro x
   rw [har, show g.nodes.length - i = (g.nodes.length - (i + 1)) + 1 by omega, <- hol]
   exact b3k
  rw [List.drop_eq_getElem_cons c, b82] at hm
  have hsd := hsh _ (List.getElem_mem c3)
  have e0 : d3w g s.descs a i uss[i] = ⟨a[i], if (i : Int) = g.out then g.nodes.length else c7q a a[i] uss[i], 0, upI (a38 s.descs[i].shape s.descs[i].wide)⟩ := by
   simp only [d3w, a8m c2, a8m c3]
  rw [e0, a8m c1] at hm
  have hby := c7y (G := G) hS s.descs[i].shape s.descs[i].wide hsd
  have hel := a8c s.descs[i].shape
  have hup := f9e (G := G) (a38 s.descs[i].shape s.descs[i].wide) (by unfold a38; split <;> omega)
  generalize hdv : s.descs[i] = d at *
  generalize a38 d.shape d.wide = nb at *
  generalize huv : uss[i] = us at *
  simp (disch := omega) [go_sem, a44, h, c, huv]
  refine a0b ?_
  simp (disch := omega) [go_sem, h, c, c2, c3, eSn, hdv]
  refine a02 hby rfl rfl (by simp) [59] (by simp) (by simp (disch := omega) [go_sem]) ?_
  simp (disch := omega) [go_sem, h, c, c2, c3, eSn, hdv]
  refine a02 hup rfl rfl (by simp) [60] (by simp) (by simp (disch := omega) [go_sem]) ?_
  simp (disch := omega) [go_sem, h, c, c2, c3, eSn, hdv]
  refine a0d (by decide) fun s2 hs hep => ?_
  simp (disch := omega) [go_sem, hs, hep, h, c, huv]
  refine c9y (g := g) (s := s) (a := a) (us := us) (arr := arr) (uss := uss) (inn := inn) (x := ⟨a[i], a[i], 0, upI nb⟩) (i := i) (by omega) (by omega) (fun k hk => by have := hr.2 k hk; omega) (by simp (disch := omega) [go_sem, hs, hep, h, eS, eSn]) (fun s3 h3 => ?_)
  simp only [eS, eSn] at h3
  by_cases ho : (i : Int) = g.out
  ·rw [if_pos ho] at hm
   by_cases hop : g.nodes[i].op = 1
   ·rw [if_pos hop] at hm
    simp (disch := omega) [go_sem, h3, c1, ho.symm, hop]
    refine a0b ?_
    simp (disch := omega) [go_sem, h3, c1, ho.symm, hop]
    refine a0d (by decide) fun s4 hs4 hep4 => ?_
    simp (disch := omega) [go_sem, hs4, hep4, h3]
    exact hK (i + 1, _, arr.set i _, _) _ ⟨by simp only; omega, by simp [hol], hset _, hm, by simp (disch := omega) [go_sem, hs4, hep4, h3, eS, eSn, e0j, b7m, c4, b0o]⟩ (by simp only; omega)
   ·rw [if_neg hop] at hm
    simp (disch := omega) [go_sem, h3, c1, ho.symm, hop]
    exact hK (i + 1, _, arr.set i _, _) _ ⟨by simp only; omega, by simp [hol], hset _, hm, by simp (disch := omega) [go_sem, h3, eS, eSn, b7m, c4]⟩ (by simp only; omega)
  ·rw [if_neg ho] at hm
   by_cases hop : g.nodes[i].op = 1
   ·rw [if_pos hop] at hm
    simp (disch := omega) [go_sem, h3, c1, ho, hop]
    refine a0b ?_
    simp (disch := omega) [go_sem, h3, c1, ho, hop]
    refine a0d (by decide) fun s4 hs4 hep4 => ?_
    simp (disch := omega) [go_sem, hs4, hep4, h3]
    exact hK (i + 1, _, arr.set i _, _) _ ⟨by simp only; omega, by simp [hol], hset _, hm, by simp (disch := omega) [go_sem, hs4, hep4, h3, eS, eSn, e0j, b7m, c4, b0o]⟩ (by simp only; omega)
   ·rw [if_neg hop] at hm
    simp (disch := omega) [go_sem, h3, c1, ho, hop]
    exact hK (i + 1, _, arr.set i _, _) _ ⟨by simp only; omega, by simp [hol], hset _, hm, by simp (disch := omega) [go_sem, h3, eS, eSn, b7m, c4]⟩ (by simp only; omega)
 ·have : i = uss.length := by omega
  subst this
  rw [List.drop_length, b82] at hm
  have : arr = out := by rw [har, <- hul]; simp
  subst this
  simp (disch := omega) [go_sem, a44, h]
  rw [<- hm] at hex
  exact hex _ (by simp (disch := omega) [go_sem, h])
theorem d3x (hS : Sent3 G bk) (g : Gr) (s : Sn) (hn : g.nodes.length <= 64) (htot : tot (g.nodes.map (·.ins)) < 2 ^ 40) (hord : ∀ x ∈ s.ord, 0 <= x /\ x < (g.nodes.length : Int)) (hlo : s.ord.length < 2 ^ 36) (hd : s.descs.length = g.nodes.length) (hsh : ∀ d ∈ s.descs, d.shape.length < 2 ^ 62) : ACalls pg G b6x [d5p g, .agg (eSn s)] (.tup [owS (a4t g s).1, .agg (eS (a4t g s).2)]) := by
 refine b2o rfl ?_
 simp (disch := omega) [go_sem, b1a, eSn]
 refine c9x (g := g) (s := s) (n := g.nodes.length) hn hord hlo (by simp (disch := omega) [go_sem, eSn]) (fun s1 h1 => ?_)
 simp only [eSn] at h1
 simp (disch := omega) [go_sem, h1, d3f]
 refine a0m ((e4w g.nodes g.out (by omega) htot).shown (res' := a9e (a7a g)) (by simp (disch := omega) [go_sem, a7a])) (by simp (disch := omega) [go_sem]) (by simp (disch := omega) [go_sem]) ?_
 simp (disch := omega) [go_sem, h1]
 refine c9z hS (g := g) (s := s) (a := atI s.ord g.nodes.length) hn (by simp [atI, c1i]) hd hsh (by simp (disch := omega) [go_sem, h1, eSn]) (fun s2 h2 => ?_)
 simp only [eS] at h2
 simp (disch := omega) [go_sem, h2]
 refine a0b ?_
 simp (disch := omega) [go_sem, h2]
 refine a0d (by decide) fun s3 hs hep => ?_
 simp (disch := omega) [go_sem, hs, hep, h2, a4t, eS]
end
end Go.Ideal.Tryd
end
section
namespace Go.Ideal.Tryd
attribute [local go_sem] eD
def b0z (g : Gr) (out : List Sp) : List Int -> List Sp
 | [] => []
 | i :: is => if g.nodes[i.toNat]!.op = 1 then b0z g out is else out[i.toNat]! :: b0z g out is
def a59 (g : Gr) (inn : Sp) (offs : List Int) : List Sp -> Nat -> Bool -> List Int -> List Sp × Bool
 | out, _, nn, [] => (out, nn)
 | out, k, nn, i :: is => if g.nodes[i.toNat]!.op = 1 then a59 g inn offs (out.set i.toNat inn) k false is else a59 g inn offs (out.set i.toNat { out[i.toNat]! with off := offs[k]! }) (k + 1) nn is
def e24 (g : Gr) (out : List Sp) (inn : Sp) (offs : List Int) (ord : List Int) : List Sp :=
 if (a59 g { inn with off := offs[0]! } offs out 1 true ord).2 = true then (a59 g { inn with off := offs[0]! } offs out 1 true ord).1 ++ [{ inn with off := offs[0]! }] else (a59 g { inn with off := offs[0]! } offs out 1 true ord).1
def c5l (g : Gr) (s : Sn) : (List Sp × Int) × Er :=
 if 65536 < (a40 ((a4t g s).2 :: b0z g (a4t g s).1 s.ord)).2 then (([], 0), .s 7)
 else ((e24 g (a4t g s).1 (a4t g s).2 (a40 ((a4t g s).2 :: b0z g (a4t g s).1 s.ord)).1 s.ord, (a40 ((a4t g s).2 :: b0z g (a4t g s).1 s.ord)).2), .nil)
def c3c (g : Gr) : (List Sp × Int) × Er := if (ofR g).2.isNil = true then c5l g (ofR g).1 else (([], 0), (ofR g).2)
theorem a8h {l : List AV} {i : Nat} {v : AV} (h : i < l.length) : a0g l i [v] = l.set i v := by
 rw [List.set_eq_take_append_cons_drop, if_pos h]; simp [a0g]
theorem d1v {xs : List Sp} {i : Nat} {v : Int} (h : i < xs.length) : a0g (fm eS xs) (i * 4 + 2) [li v] = fm eS (xs.set i { xs[i] with off := v }) := by
 rw [a8h (by rw [c1r]; omega)]
 induction xs generalizing i with
 | nil => simp at h
 | cons x xs ih =>
  cases i with
  | zero => rfl
  | succ i =>
   have := ih (i := i) (by simpa using h)
   rw [List.set_cons_succ, a3o, a3o, show (i + 1) * 4 + 2 = (eS x).length + (i * 4 + 2) by simp [eS]; omega, List.set_append_right _ _ (by omega), Nat.add_sub_cancel_left, this]
   rfl
theorem c07 {g : Gr} {o1 : List Sp} : ∀ {is : List Int}, (b0z g o1 is).length <= is.length
 | [] => Nat.le_refl _
 | i :: is => by
  have := c07 (g := g) (o1 := o1) (is := is)
  rw [b0z]
  split <;> simp <;> omega
theorem c18 {N : Nat} : ∀ {ss ds : List Sp} {os : List Int} {m : Int}, (c56 N ds os m ss).1.length = os.length + ss.length
 | [], _, _, _ => rfl
 | s :: ss, ds, os, m => by
  rw [c56]
  split <;> rw [c18] <;> simp <;> omega
theorem c2g {g : Gr} {ds : List Ds} {a : List Int} : ∀ {us : List (List Int)} {i : Nat} {out : List Sp} {inn : Sp}, (b82 g ds a i us out inn).1.length = out.length + us.length
 | [], _, _, _ => rfl
 | u :: us, i, out, inn => by
  rw [b82, c2g]; simp; omega
theorem f42 {s : List Int} {w : Bool} : 0 <= upI (a38 s w) /\ upI (a38 s w) < 2 ^ 63 := by
 have := a8c s
 exact c63 (by unfold a38; split <;> omega)
theorem c2h {g : Gr} {ds : List Ds} {a : List Int} : ∀ {us : List (List Int)} {i : Nat} {out : List Sp} {inn : Sp}, (∀ x ∈ out, x.len < 2 ^ 63) -> inn.len < 2 ^ 63 -> (∀ x ∈ (b82 g ds a i us out inn).1, x.len < 2 ^ 63) /\ (b82 g ds a i us out inn).2.len < 2 ^ 63
 | [], _, _, _, h, h2 => ⟨h, h2⟩
 | u :: us, i, out, inn, h, h2 => by
  rw [b82]
  have hb : (d3w g ds a i u).len < 2 ^ 63 := f42.2
  refine c2h (fun x hx => ?_) ?_
  ·rcases List.mem_append.1 hx with hx | hx
   ·exact h x hx
   ·simp at hx; rw [hx]; exact hb
  ·split
   ·exact hb
   ·exact h2
theorem b6e {g : Gr} {out : List Sp} : ∀ {is : List Int}, (∀ i ∈ is, 0 <= i /\ i < (out.length : Int)) -> ∀ x ∈ b0z g out is, x ∈ out
 | [], _, x, h => by simp [b0z] at h
 | i :: is, hi, x, h => by
  rw [b0z] at h
  split at h
  ·exact b6e (fun k hk => hi k (by simp [hk])) x h
  ·rcases List.mem_cons.1 h with h | h
   ·have := hi i (by simp)
    rw [h, a8m (by omega)]
    exact List.getElem_mem _
   ·exact b6e (fun k hk => hi k (by simp [hk])) x h
section
variable {G : GG} {bk : Nat -> Nat × Nat} {Q : Exit -> St -> Prop} {st : St}
theorem e06 {g : Gr} {s : Sn} {out : List Sp} {inn : Sp} (hn : g.nodes.length <= 64) (hlo : out.length = g.nodes.length) (hord : ∀ x ∈ s.ord, 0 <= x /\ x < (g.nodes.length : Int)) (hol : s.ord.length < 2 ^ 36)
  (h : st.s 1 = .var [slN g.nodes, li g.out] /\ st.s 2 = owS [] /\ st.s 3 = li 0 /\ st.s 4 = .lit .nilIface /\ st.s 5 = .var (eSn s) /\ st.s 7 = owS out /\ st.s 8 = .var (eS inn) /\ st.s 9 = owS [inn] /\ st.s 37 = slI s.ord /\ st.s 38 = li s.ord.length /\ st.s 39 = li 0)
  (hex : ∀ s' : St, s'.s 1 = .var [slN g.nodes, li g.out] /\ s'.s 2 = owS [] /\ s'.s 3 = li 0 /\ s'.s 4 = .lit .nilIface /\ s'.s 5 = .var (eSn s) /\ s'.s 7 = owS out /\ s'.s 8 = .var (eS inn) /\ s'.s 9 = owS (inn :: b0z g out s.ord) -> Q (.exit 0) s') : AW pg G 106 (.loop a6h) Q st := by
 refine a06 (Nat × List Sp) (fun p st => p.1 <= s.ord.length /\ p.2.length <= p.1 + 1 /\ p.2 ++ b0z g out (s.ord.drop p.1) = inn :: b0z g out s.ord /\ st.s 1 = .var [slN g.nodes, li g.out] /\ st.s 2 = owS [] /\ st.s 3 = li 0 /\ st.s 4 = .lit .nilIface /\ st.s 5 = .var (eSn s) /\ st.s 7 = owS out /\ st.s 8 = .var (eS inn) /\ st.s 9 = owS p.2 /\ st.s 37 = slI s.ord /\ st.s 38 = li s.ord.length /\ st.s 39 = li p.1) (fun p => s.ord.length - p.1) (0, [inn]) ⟨by simp, by simp, rfl, by simpa using h⟩ ?_
 clear h
 rintro ⟨j, l⟩ st K ⟨hj, hll, hm, h⟩ hK
 simp only at hj hll hm h
 by_cases c : j < s.ord.length
 ·have hx := hord _ (List.getElem_mem c)
  obtain ⟨i, hi⟩ : ∃ i : Nat, s.ord[j] = i := ⟨s.ord[j].toNat, by omega⟩
  rw [hi] at hx
  have c1 : i < g.nodes.length := by omega
  have c2 : i < out.length := by omega
  rw [List.drop_eq_getElem_cons c, b0z, hi, Int.toNat_natCast, a8m c1, a8m c2] at hm
  by_cases hop : g.nodes[i].op = 1
  ·rw [if_pos hop] at hm
   simp (disch := omega) [go_sem, a6h, h, c, hi, c1, hop]
   exact hK (j + 1, l) _ ⟨by simp only; omega, by simp only; omega, hm, by simp (disch := omega) [go_sem, h]⟩ (by simp only; omega)
  ·rw [if_neg hop] at hm
   simp (disch := omega) [go_sem, a6h, h, c, hi, c1, c2, hop]
   exact hK (j + 1, l ++ [out[i]]) _ ⟨by simp only; omega, by simp; omega, by simpa using hm, by simp (disch := omega) [go_sem, h, a8s, a7e, eS]⟩ (by simp only; omega)
 ·have : j = s.ord.length := by omega
  subst this
  rw [List.drop_length, b0z, List.append_nil] at hm
  subst hm
  simp (disch := omega) [go_sem, a6h, h]
  exact hex _ (by simp (disch := omega) [go_sem, h])
theorem e07 {g : Gr} {s : Sn} {out : List Sp} {inn : Sp} {offs : List Int} {n : Int} (hn : g.nodes.length <= 64) (hlo : out.length = g.nodes.length) (hord : ∀ x ∈ s.ord, 0 <= x /\ x < (g.nodes.length : Int)) (hol : s.ord.length < 2 ^ 36) (hof : offs.length = 1 + (b0z g out s.ord).length)
  (h : st.s 1 = .var [slN g.nodes, li g.out] /\ st.s 2 = owS [] /\ st.s 3 = li 0 /\ st.s 4 = .lit .nilIface /\ st.s 5 = .var (eSn s) /\ st.s 7 = owS out /\ st.s 8 = .var (eS inn) /\ st.s 12 = owI offs /\ st.s 13 = li n /\ st.s 14 = li 1 /\ st.s 15 = lb true /\ st.s 71 = slI s.ord /\ st.s 72 = li s.ord.length /\ st.s 73 = li 0)
  (hex : ∀ s' : St, (s'.s 2 = owS [] /\ s'.s 3 = li 0 /\ s'.s 4 = .lit .nilIface /\ s'.s 7 = owS (a59 g inn offs out 1 true s.ord).1 /\ s'.s 8 = .var (eS inn) /\ s'.s 13 = li n /\ s'.s 15 = lb (a59 g inn offs out 1 true s.ord).2) /\ (a59 g inn offs out 1 true s.ord).1.length = out.length -> Q (.exit 2) s') : AW pg G 106 (.loop a6i) Q st := by
 refine a06 (Nat × List Sp × Nat × Bool) (fun p st => p.1 <= s.ord.length /\ p.2.1.length = g.nodes.length /\ p.2.2.1 + (b0z g out (s.ord.drop p.1)).length = offs.length /\ a59 g inn offs p.2.1 p.2.2.1 p.2.2.2 (s.ord.drop p.1) = a59 g inn offs out 1 true s.ord /\ st.s 1 = .var [slN g.nodes, li g.out] /\ st.s 2 = owS [] /\ st.s 3 = li 0 /\ st.s 4 = .lit .nilIface /\ st.s 5 = .var (eSn s) /\ st.s 7 = owS p.2.1 /\ st.s 8 = .var (eS inn) /\ st.s 12 = owI offs /\ st.s 13 = li n /\ st.s 14 = li p.2.2.1 /\ st.s 15 = lb p.2.2.2 /\ st.s 71 = slI s.ord /\ st.s 72 = li s.ord.length /\ st.s 73 = li p.1) (fun p => s.ord.length - p.1) (0, out, 1, true) ⟨by simp, hlo, by simp [hof], rfl, by simpa using h⟩ ?_
 clear h
 have hsl := c07 (g := g) (o1 := out) (is := s.ord)
 rintro ⟨j, o, k, b⟩ st K ⟨hj, hl, hk, hm, h⟩ hK
 simp only at hj hl hk hm h
 by_cases c : j < s.ord.length
 ·have hx := hord _ (List.getElem_mem c)
  obtain ⟨i, hi⟩ : ∃ i : Nat, s.ord[j] = i := ⟨s.ord[j].toNat, by omega⟩
  rw [hi] at hx
  have c1 : i < g.nodes.length := by omega
  have c2 : i < o.length := by omega
  rw [List.drop_eq_getElem_cons c, a59, hi, Int.toNat_natCast, a8m c1, a8m c2] at hm
  rw [List.drop_eq_getElem_cons c, b0z, hi, Int.toNat_natCast, a8m c1] at hk
  by_cases hop : g.nodes[i].op = 1
  ·rw [if_pos hop] at hm hk
   simp (disch := omega) [go_sem, a6i, h, c, hi, c1, c2, hop, eS]
   exact hK (j + 1, o.set i inn, k, false) _ ⟨by simp only; omega, by simpa using hl, hk, hm, by simp (disch := omega) [go_sem, h, c2, eS, b7m]⟩ (by simp only; omega)
  ·rw [if_neg hop, List.length_cons] at hk
   have c3 : k < offs.length := by omega
   rw [if_neg hop, a8m c3] at hm
   simp (disch := omega) [go_sem, a6i, h, c, hi, c1, c2, c3, hop]
   exact hK (j + 1, o.set i { o[i] with off := offs[k] }, k + 1, b) _ ⟨by simp only; omega, by simpa using hl, by simp only; omega, hm, by simp (disch := omega) [go_sem, h, c2, d1v]⟩ (by simp only; omega)
 ·have : j = s.ord.length := by omega
  subst this
  rw [List.drop_length, a59] at hm
  rw [<- hm] at hex
  simp (disch := omega) [go_sem, a6i, h]
  exact hex _ ⟨by simp (disch := omega) [go_sem, h], by simp only; omega⟩
theorem f2i (hS : SentO G bk) (hA : Around G bk) (g : Gr) (hf : ∀ n ∈ g.nodes, n.sh) (hn : g.nodes.length < 2 ^ 36) (htot : tot (g.nodes.map (·.ins)) < 2 ^ 40)
  (hok : (ofR g).2.isNil = true -> g.nodes.length <= 64 /\ (∀ x ∈ (ofR g).1.ord, 0 <= x /\ x < (g.nodes.length : Int)) /\ (ofR g).1.ord.length < 2 ^ 36 /\ (ofR g).1.descs.length = g.nodes.length /\ ∀ d ∈ (ofR g).1.descs, d.shape.length < 2 ^ 62) :
  ACalls pg G b6v [d5p g] (.tup [owS (c3c g).1.1, li (c3c g).1.2, a0v bk (c3c g).2]) := by
 have h1 := hS.val 1 (by decide)
 refine b71 rfl ?_
 simp (disch := omega) [go_sem, b70]
 refine a0m (g0f hS hA g hf hn htot) (by simp [go_sem, eSn, a0r]) (by simp (disch := omega) [go_sem]) ?_
 rw [c3c]
 generalize hr : ofR g = r at *
 obtain ⟨s, e⟩ := r
 simp only at hok ⊢
 cases he : e.isNil with
 | false =>
  simp (disch := omega) [go_sem, he, a8t, eSn]
 | true =>
  obtain ⟨hl, hord, hol, hd, hsh⟩ := hok he
  obtain rfl : e = .nil := by cases e <;> simp_all [Er.isNil]
  simp (disch := omega) [go_sem, he, eSn]
  refine a6y (d3x hS.three g s hl htot hord hol hd hsh) (by simp [go_sem, a0r, eS]) ?_ ?_
  all_goals
   simp only [c5l]
   have hso : (a4t g s).1.length = g.nodes.length := by rw [a4t, c2g, a77]; simp
   have hsr := c2h (g := g) (ds := s.descs) (a := atI s.ord g.nodes.length) (us := a7a g) (i := 0) (out := []) (inn := ⟨-1, -1, 0, 4⟩) (by simp) (by simp)
   rw [<- a4t] at hsr
   generalize a4t g s = q at *
   obtain ⟨out, inn⟩ := q
   simp only at hso hsr ⊢
   simp (disch := omega) [go_sem, eS]
   refine e06 (g := g) (s := s) (out := out) (inn := inn) hl hso hord hol (by simp (disch := omega) [go_sem, eS, eSn, a7e, a8t]) (fun s1 h1' => ?_)
   simp only [eS, eSn] at h1'
   have hmem : ∀ x ∈ inn :: b0z g out s.ord, x.len < 2 ^ 63 := by
    intro x hx
    rcases List.mem_cons.1 hx with hx | hx
    ·rw [hx]; exact hsr.2
    ·exact hsr.1 x (b6e (fun i hi => by have := hord i hi; omega) x hx)
   have hsl := c07 (g := g) (o1 := out) (is := s.ord)
   have hpl : (a40 (inn :: b0z g out s.ord)).1.length = 1 + (b0z g out s.ord).length := by rw [a40, c18]; simp; omega
   have spec := c57 (G := G) (inn :: b0z g out s.ord) (by simp; omega) hmem
   generalize inn :: b0z g out s.ord = ll at *
   generalize a40 ll = p at *
   obtain ⟨offs, n⟩ := p
   simp only at hpl spec ⊢
   simp (disch := omega) [go_sem, h1']
   refine a6y spec (by simp [go_sem, a0r]) ?_ ?_
   all_goals
    by_cases hn6 : 65536 < n
    ·simp (disch := omega) [go_sem, h1', hn6]
     refine a0b ?_
     simp (disch := omega) [go_sem, h1', h1]
     refine a0d (by decide) fun s2 hs2 hep => ?_
     simp (disch := omega) [go_sem, hs2, h1', a8t, a0v]
    ·have c0 : 0 < offs.length := by omega
     simp (disch := omega) [go_sem, h1', hn6, c0]
     refine e07 (g := g) (s := s) (out := out) (inn := { inn with off := offs[0] }) (offs := offs) (n := n) hl hso hord hol hpl (by simp (disch := omega) [go_sem, h1', eS, eSn, c0]) (fun s2 h2 => ?_)
     obtain ⟨h2, h2l⟩ := h2
     rw [e24, a8m c0]
     generalize a59 g { inn with off := offs[0] } offs out 1 true s.ord = pg2 at *
     obtain ⟨o2, b⟩ := pg2
     simp only [eS] at h2 h2l ⊢
     cases b
     ·simp (disch := omega) [go_sem, h2, a0v]
     ·have hta : ∀ vs : List AV, vs.length = 4 -> (fm eS o2 ++ vs).take ((o2.length + 1) * 4) = fm eS o2 ++ vs := fun vs hv => List.take_of_length_le (by rw [List.length_append, c1r, hv]; omega)
      simp (disch := omega) [go_sem, h2, a0v, a8s, a7e, eS]
      exact hta _ rfl
end
end Go.Ideal.Tryd
end
section
namespace Go.Ideal.Tryd
def b2c (s x : Sp) (o off : Int) : Prop := 0 < x.len /\ max s.a x.a <= min s.b x.b /\ off < o + x.len /\ o < off + s.len
def okZ (zs : List (Sp × Int)) : Prop := ∀ p ∈ zs, 0 <= p.2 /\ p.2 < 2 ^ 60 /\ p.1.len < 2 ^ 60
theorem c1y {s x : Sp} {o off : Int} (ho : 0 <= o /\ o < 2 ^ 60) (hx : x.len < 2 ^ 60) (hs : s.len < 2 ^ 60) (hf : 0 <= off /\ off < 2 ^ 62) : b6q s x o off = true ↔ b2c s x o off := by
 unfold b6q b2c b36 upI
 simp only [Bool.and_eq_true, decide_eq_true_eq]
 constructor
 ·rintro ⟨⟨h1, h2⟩, ⟨h3, h4⟩, h5⟩
  refine ⟨h1, h2, ?_, ?_⟩
  ·split at h3 <;> omega
  ·split at h4 <;> omega
 ·rintro ⟨h1, h2, h3, h4⟩
  rw [if_neg (show ¬ (9223372036854775807 - o < x.len) by omega), if_neg (show ¬ (9223372036854775807 - off < s.len) by omega), if_neg (by omega)]
  refine ⟨⟨h1, h2⟩, ⟨h3, h4⟩, by omega⟩
theorem b4s {s : Sp} {off : Int} (hs : s.len < 2 ^ 60) (hf : 0 <= off /\ off < 2 ^ 62) : ∀ {ds : List Sp} {os : List Int}, okZ (ds.zip os) -> a4x s off ds os = none -> ∀ p ∈ ds.zip os, ¬ b2c s p.1 p.2 off
 | [], _, _, _, p, hp => by simp at hp
 | _ :: _, [], _, _, p, hp => by simp at hp
 | x :: xs, o :: os, hz, h, p, hp => by
  have h1 := hz (x, o) (by simp)
  rw [a4x] at h
  split at h
  ·simp at h
  ·rename_i hb
   rw [List.zip_cons_cons] at hp
   rcases List.mem_cons.1 hp with rfl | hp
   ·exact fun hc => hb ((c1y ⟨h1.1, h1.2.1⟩ h1.2.2 hs hf).2 hc)
   ·exact b4s hs hf (fun q hq => hz q (by rw [List.zip_cons_cons]; exact List.mem_cons_of_mem _ hq)) h p hp
theorem b4t {s : Sp} {off : Int} (hs : s.len < 2 ^ 60) (hf : 0 <= off /\ off < 2 ^ 62) : ∀ {ds : List Sp} {os : List Int} {o : Int}, okZ (ds.zip os) -> a4x s off ds os = some o -> ∃ p ∈ ds.zip os, b2c s p.1 p.2 off /\ o = (p.2 + p.1.len + 3) / 4 * 4
 | [], _, _, _, h => by simp [a4x] at h
 | _ :: _, [], _, _, h => by simp [a4x] at h
 | x :: xs, y :: os, o, hz, h => by
  have h1 := hz (x, y) (by simp)
  simp only at h1
  rw [a4x] at h
  split at h
  ·rename_i hb
   have hc := (c1y ⟨h1.1, h1.2.1⟩ h1.2.2 hs hf).1 hb
   refine ⟨(x, y), by simp, hc, ?_⟩
   simp only [Option.some.injEq] at h
   rw [<- h]
   unfold b36 upI
   rw [if_neg (show ¬ (9223372036854775807 - y < x.len) by omega), if_neg (by omega)]
  ·obtain ⟨p, hp, h2⟩ := b4t hs hf (fun q hq => hz q (by rw [List.zip_cons_cons]; exact List.mem_cons_of_mem _ hq)) h
   exact ⟨p, by rw [List.zip_cons_cons]; exact List.mem_cons_of_mem _ hp, h2⟩
theorem b4u {s : Sp} {ds : List Sp} {os : List Int} (hs : s.len < 2 ^ 60) (hz : okZ (ds.zip os)) : ∀ {n : Nat} {off : Int}, 2 ^ 63 - off <= n -> 0 <= off /\ off < 2 ^ 62 -> off % 4 = 0 -> (∀ m, 0 <= m -> m < off -> m % 4 = 0 -> ∃ p ∈ ds.zip os, b2c s p.1 p.2 m) ->
  (0 <= a4o s ds os n off /\ a4o s ds os n off < 2 ^ 62) /\ a4o s ds os n off % 4 = 0 /\ (∀ p ∈ ds.zip os, ¬ b2c s p.1 p.2 (a4o s ds os n off)) /\ ∀ m, 0 <= m -> m < a4o s ds os n off -> m % 4 = 0 -> ∃ p ∈ ds.zip os, b2c s p.1 p.2 m
 | 0, off, hn, hf, h4, hb => by omega
 | n + 1, off, hn, hf, h4, hb => by
  rw [a4o]
  split
  ·rename_i e
   exact ⟨hf, h4, b4s hs hf hz e, hb⟩
  ·rename_i o e
   obtain ⟨p, hp, hc, rfl⟩ := b4t hs hf hz e
   have h1 := hz p hp
   obtain ⟨c1, c2, c3, c4⟩ := hc
   refine b4u hs hz (by omega) (by omega) (by omega) (fun m hm hm2 hm4 => ?_)
   by_cases hlt : m < off
   ·exact hb m hm hlt hm4
   ·exact ⟨p, hp, c1, c2, by omega, by omega⟩
theorem c88 {s : Sp} {ds : List Sp} {os : List Int} (hs : s.len < 2 ^ 60) (hz : okZ (ds.zip os)) {v : Int} (hv : 0 <= v) (h4 : v % 4 = 0) (hfree : ∀ p ∈ ds.zip os, ¬ b2c s p.1 p.2 v) (hlow : ∀ m, 0 <= m -> m < v -> m % 4 = 0 -> ∃ p ∈ ds.zip os, b2c s p.1 p.2 m) : a4o s ds os b9a 0 = v := by
 obtain ⟨h1, h2, h3, h5⟩ := b4u hs hz (n := b9a) (off := 0) (by simp [b9a]) (by omega) (by omega) (fun m h1 h2 => by omega)
 rcases Int.lt_trichotomy (a4o s ds os b9a 0) v with h | h | h
 ·obtain ⟨p, hp, hc⟩ := hlow _ h1.1 h h2
  exact absurd hc (h3 p hp)
 ·exact h
 ·obtain ⟨p, hp, hc⟩ := h5 v hv h h4
  exact absurd hc (hfree p hp)
theorem b3x {S : Nat -> Sp} {f : Nat -> Int} : ∀ {n : Nat}, ((List.range n).map S).zip ((List.range n).map f) = (List.range n).map fun j => (S j, f j) := by
 intro n
 rw [List.zip_map']
theorem b8p {n : Nat} {S : Nat -> Sp} {f : Nat -> Int} {M : Int} (hb : ∀ j, j < n -> 1 <= (S j).len /\ (S j).len < 2 ^ 60 /\ 0 <= f j /\ f j < 2 ^ 60 /\ f j % 4 = 0)
  (hfree : ∀ j, j < n -> ∀ k, k < j -> ¬ b2c (S j) (S k) (f k) (f j)) (hlow : ∀ j, j < n -> ∀ m, 0 <= m -> m < f j -> m % 4 = 0 -> ∃ k, k < j /\ b2c (S j) (S k) (f k) m)
  (hM : ∀ j, j < n -> f j + (S j).len <= M) (hE : (∃ j, j < n /\ f j + (S j).len = M) \/ n = 0 /\ M = 0) :
  a40 ((List.range n).map S) = ((List.range n).map f, M) := by
 have key : ∀ d i m, i + d = n -> 0 <= m -> m <= M -> (m = M \/ ∃ j, i <= j /\ j < n /\ f j + (S j).len = M) -> c56 b9a ((List.range i).map S) ((List.range i).map f) m (((List.range n).map S).drop i) = ((List.range n).map f, M) := by
  intro d
  induction d with
  | zero =>
   intro i m hi hm0 hm hE
   obtain rfl : i = n := by omega
   rw [List.drop_of_length_le (by simp), c56]
   rcases hE with h | ⟨j, h1, h2, _⟩
   ·rw [h]
   ·omega
  | succ d ih =>
   intro i m hi hm0 hm hE
   have hin : i < n := by omega
   have hbi := hb i hin
   have hg : ((List.range n).map S).drop i = S i :: ((List.range n).map S).drop (i + 1) := by
    rw [List.drop_eq_getElem_cons (by simpa using hin)]; simp
   have hz : okZ (((List.range i).map S).zip ((List.range i).map f)) := by
    intro p hp
    rw [b3x] at hp
    obtain ⟨j, hj, rfl⟩ := List.mem_map.1 hp
    have := hb j (by have := List.mem_range.1 hj; omega)
    exact ⟨this.2.2.1, this.2.2.2.1, this.2.1⟩
   have hlk : a4o (S i) ((List.range i).map S) ((List.range i).map f) b9a 0 = f i := by
    refine c88 hbi.2.1 hz hbi.2.2.1 hbi.2.2.2.2 (fun p hp => ?_) (fun m h1 h2 h3 => ?_)
    ·rw [b3x] at hp
     obtain ⟨j, hj, rfl⟩ := List.mem_map.1 hp
     exact hfree i hin j (List.mem_range.1 hj)
    ·obtain ⟨k, hk, hc⟩ := hlow i hin m h1 h2 h3
     exact ⟨(S k, f k), by rw [b3x]; exact List.mem_map.2 ⟨k, List.mem_range.2 hk, rfl⟩, hc⟩
   have he : b36 (f i) (S i).len = f i + (S i).len := by unfold b36; rw [if_neg (by omega)]
   rw [hg, c56, if_neg (by omega), hlk, he]
   have e1 : ∀ {α : Type} (F : Nat -> α), (List.range i).map F ++ [F i] = (List.range (i + 1)).map F := by intro α F; rw [List.range_succ, List.map_append]; rfl
   rw [e1, e1]
   have hMi := hM i hin
   refine ih (i + 1) _ (by omega) (by omega) (by omega) ?_
   rcases hE with h | ⟨j, h1, h2, h3⟩
   ·left; omega
   ·rcases Nat.lt_or_ge i j with h | h
    ·exact .inr ⟨j, by omega, h2, h3⟩
    ·obtain rfl : j = i := by omega
     left; omega
 have := key n 0 0 (by omega) (by omega) ?_ ?_
 ·simpa [a40] using this
 ·rcases hE with ⟨j, h1, h2⟩ | ⟨_, h⟩
  ·have := hb j h1; omega
  ·omega
 ·rcases hE with ⟨j, h1, h2⟩ | ⟨_, h⟩
  ·exact .inr ⟨j, by omega, h1, h2⟩
  ·exact .inl h.symm
end Go.Ideal.Tryd
end
section
namespace Go.Ideal.Tryd
def a69 (n : Nat) : List Int := (List.range n).map fun (i : Nat) => (i : Int)
theorem a8j {n : Nat} : (a69 n).length = n := by simp [a69]
theorem a8i {n k : Nat} (h : k < (a69 n).length) : (a69 n)[k] = k := by simp [a69]
theorem b85 {n : Nat} : a69 (n + 1) = a69 n ++ [(n : Int)] := by simp [a69, List.range_succ]
def a9p (n i : Nat) : List Bool := List.replicate i true ++ List.replicate (n - i) false
theorem b0j {n i k : Nat} (hk : k < n) : (a9p n i)[k]! = decide (k < i) := by
 unfold a9p
 by_cases h : k < i
 ·have h2 : k < (List.replicate i true ++ List.replicate (n - i) false).length := by simp; omega
  rw [a8m h2, List.getElem_append_left (by simpa using h)]
  simp [h]
 ·have h2 : k < (List.replicate i true ++ List.replicate (n - i) false).length := by simp; omega
  rw [a8m h2, List.getElem_append_right (by simpa using h)]
  simp [h]
theorem c2y {n i : Nat} (h : i < n) : (a9p n i).set i true = a9p n (i + 1) := by
 unfold a9p
 rw [show n - i = (n - (i + 1)) + 1 by omega, List.set_append_right _ _ (by simp), List.length_replicate, Nat.sub_self, List.replicate_succ, List.set_cons_zero, List.replicate_succ', List.append_assoc]
 rfl
theorem c9p {n i : Nat} (hi : i < n) {ins : List (List Int)} (hn : ins.length = n) (hx : ∀ x ∈ ins[i]!, 0 <= x /\ x < (i : Int)) : ∀ d k f, k + d = i -> (a47 (a9p n i) (ins.drop k) k f).1 = i := by
 intro d
 induction d with
 | zero =>
  intro k f hk
  obtain rfl : k = i := by omega
  rw [get!_drop (by omega), a47, b0j hi, if_neg (by simp), if_pos]
  rw [List.all_eq_true]
  intro x hx2
  have := hx x hx2
  rw [b0j (by omega)]
  simp; omega
 | succ d ih =>
  intro k f hk
  rw [get!_drop (by omega), a47, b0j (by omega), if_pos (by simp; omega)]
  exact ih (k + 1) f (by omega)
theorem c6a {ins : List (List Int)} (hx : ∀ i, i < ins.length -> ∀ x ∈ ins[i]!, 0 <= x /\ x < (i : Int)) : ∀ f i, i + f = ins.length -> a9a ins f (a9p ins.length i) (a69 i) = .ok (a69 ins.length) := by
 intro f
 induction f with
 | zero => intro i h; obtain rfl : i = ins.length := by omega
           rfl
 | succ f ih =>
  intro i h
  have e := c9p (n := ins.length) (i := i) (by omega) rfl (hx i (by omega)) i 0 (-1) (by omega)
  rw [List.drop_zero] at e
  rw [a9a, e, if_neg (by omega), Int.toNat_natCast, c2y (by omega), <- b85]
  exact ih (i + 1) (by omega)
theorem c2a {n : Nat} : ∀ {rs : List (List Int)} {k : Nat}, (∀ r ∈ rs, ∀ x ∈ r, 0 <= x /\ x < (n : Int)) -> c3q n rs k = none
 | [], _, _ => rfl
 | r :: rs, k, h => by
  rw [c3q, if_neg, c2a (fun r2 hr2 => h r2 (by simp [hr2]))]
  rw [Bool.not_eq_true, List.any_eq_false]
  intro x hx
  have := h r (by simp) x hx
  simp [c67]; omega
theorem c54 {ins : List (List Int)} (hr : ∀ r ∈ ins, r.length < 2 ^ 61) (hx : ∀ i, i < ins.length -> ∀ x ∈ ins[i]!, 0 <= x /\ x < (i : Int)) : a7x ins = .ok (a69 ins.length) := by
 have h1 : c03 ins = (a69 ins.length, (0, false, 0)) := by
  unfold c03
  rw [c2a]
  ·have := c6a hx ins.length 0 (by omega)
   rw [show a9p ins.length 0 = List.replicate ins.length false by simp [a9p], show a69 0 = [] from rfl] at this
   simp only [this]
  ·intro r hr2 x hx2
   obtain ⟨i, hi, rfl⟩ := List.mem_iff_getElem.1 hr2
   have := hx i hi x (by rw [a8m hi]; exact hx2)
   omega
 obtain ⟨a, b⟩ := b00 hr
 cases h : a7x ins with
 | error e =>
  obtain ⟨i, g⟩ := e
  have := (a i g h).1
  rw [h1] at this
  simp at this
 | ok out =>
  have := b out h
  rw [h1] at this
  simp only [Prod.mk.injEq, and_true] at this
  rw [this]
end Go.Ideal.Tryd
end
section
namespace Go.Ideal.Tryd
theorem b4r {ns : List Nd} (hf : ∀ n ∈ ns, n.sh) {m : Nat} (hin : ∀ n ∈ ns, ∀ k ∈ n.ins, 0 <= k /\ k < (m : Int)) : ∀ {is : List Int} {l : Lk}, l.fin -> l.descs.length = m -> (∀ i ∈ is, 0 <= i /\ i < (ns.length : Int)) -> (a2o ns l is).2.isNil = true ->
  (a2o ns l is).1.ord = l.ord /\ (a2o ns l is).1.descs.length = m /\ (∀ d ∈ (a2o ns l is).1.descs, d.shape.length < 2 ^ 40) /\ (a2o ns l is).1.hin.shape.length < 2 ^ 36 /\ (a2o ns l is).1.ws.length <= 8
 | [], l, hl, hm, hi, h => ⟨rfl, hm, hl.descs, hl.hin, hl.ws⟩
 | i :: is, l, hl, hm, hi, h => by
  have hi0 := hi i (by simp)
  have hlt : i.toNat < ns.length := by omega
  have hmem := List.getElem_mem hlt
  have hfin := b8d hl (hf _ hmem)
  have hlen := b8e hl (hf _ hmem) (fun _ k hk => by rw [hm]; exact hin _ hmem k hk)
  have hde := b21 (l := l) (n := ns[i.toNat])
  have hnil : ∀ e : Er, (atE i e).isNil = true -> e.isNil = true := by
   intro e; cases e <;> simp [atE, Er.isNil]
  rw [a2o, a8m hlt] at h ⊢
  generalize a3c l ns[i.toNat] = r at *
  obtain ⟨⟨d, e⟩, l2⟩ := r
  simp only at h hfin hlen hde ⊢
  cases he : e.isNil with
  | false =>
   rw [he] at h
   simp only [Bool.false_eq_true, if_false] at h
   rw [hnil e h] at he
   cases he
  | true =>
   rw [he] at h
   simp only [if_true] at h ⊢
   have := b4r hf hin (l := { l2 with descs := l2.descs.set i.toNat d }) ⟨fun x hx => by
    rcases List.mem_or_eq_of_mem_set hx with hx | rfl
    ·exact hfin.descs x hx
    ·exact hlen, hfin.hin, hfin.vals, hfin.ws⟩ (by simp only [List.length_set]; rw [hde.1]; exact hm) (fun k hk => hi k (by simp [hk])) h
   exact ⟨this.1.trans hde.2, this.2⟩
theorem e2t {g : Gr} (hf : ∀ n ∈ g.nodes, n.sh) (h : (ofR g).2.isNil = true) :
  g.nodes.length <= 64 /\ (0 <= g.out /\ g.out < (g.nodes.length : Int)) /\ a7x (g.nodes.map (·.ins)) = .ok (ofR g).1.ord /\ (∀ x ∈ (ofR g).1.ord, 0 <= x /\ x < (g.nodes.length : Int)) /\ (ofR g).1.ord.length = g.nodes.length /\ (ofR g).1.descs.length = g.nodes.length /\ (∀ d ∈ (ofR g).1.descs, d.shape.length < 2 ^ 40) /\ (ofR g).1.hin.shape.length < 2 ^ 36 /\ (ofR g).1.ws.length <= 8 := by
 unfold ofR at h ⊢
 by_cases c1 : 64 < g.nodes.length
 ·rw [if_pos c1] at h; simp [Er.isNil] at h
 rw [if_neg c1] at h ⊢
 by_cases c2 : g.out < 0 \/ g.nodes.length <= g.out
 ·rw [if_pos c2] at h; simp [Er.isNil] at h
 rw [if_neg c2] at h ⊢
 have hr : ∀ r ∈ g.nodes.map (·.ins), r.length < 2 ^ 61 := by
  intro r hr
  obtain ⟨n, hn, rfl⟩ := List.mem_map.1 hr
  have := (hf n hn).ins
  omega
 cases ho : a7x (g.nodes.map (·.ins)) with
 | error e => rw [ho] at h; simp [Er.isNil] at h
 | ok ord =>
  rw [ho] at h
  simp only at h ⊢
  have hx := a9y hr ho
  have hl := b8k hr ho
  simp only [List.length_map] at hx hl
  have := b4r hf (m := g.nodes.length) (fun n hn k hk => hx.2.2.2.2 n.ins (List.mem_map.2 ⟨n, hn, rfl⟩) k hk) (is := ord) (l := lk0 ord g.nodes.length) ⟨fun d hd => by
   simp only [lk0, List.mem_replicate] at hd
   rw [hd.2]; simp [dn], by simp [lk0, dn], by simp [lk0], by simp [lk0]⟩ (by simp [lk0]) hx.2.2.1 h
  obtain ⟨a1, a2, a3, a4, a5⟩ := this
  have e1 : (lk0 ord g.nodes.length).ord = ord := rfl
  rw [e1] at a1
  rw [a1]
  exact ⟨by omega, by omega, rfl, hx.2.2.1, hl, a2, a3, a4, a5⟩
end Go.Ideal.Tryd
end
section
namespace Go.Ideal.Tryd
def dTo (D : Nat -> Ds) (N i : Nat) : List Ds := (List.range i).map D ++ List.replicate (N - i) dn
theorem b93 {D : Nat -> Ds} {N i k : Nat} (h : k < i) : (dTo D N i)[k]! = D k := by
 unfold dTo
 have h2 : k < ((List.range i).map D ++ List.replicate (N - i) dn).length := by simp; omega
 rw [a8m h2]
 rw [List.getElem_append_left (by simpa using h)]
 simp
theorem d1t {D : Nat -> Ds} {N i : Nat} (h : i < N) : (dTo D N i).set i (D i) = dTo D N (i + 1) := by
 unfold dTo
 rw [show N - i = (N - (i + 1)) + 1 by omega]
 have := b3k (os := (List.range i).map D) (k := N - (i + 1)) (x := D i) (z := dn)
 rw [List.length_map, List.length_range] at this
 rw [this, List.range_succ, List.map_append]
 rfl
theorem c0o {ns : List Nd} {N : Nat} (hN : ns.length = N) {D : Nat -> Ds} {L : Nat -> Lk} (h : ∀ i, i < N -> a3c { L i with descs := dTo D N i } ns[i]! = ((D i, .nil), { L (i + 1) with descs := dTo D N i })) :
  ∀ k i, i + k = N -> a2o ns { L i with descs := dTo D N i } ((a69 N).drop i) = ({ L N with descs := dTo D N N }.sn, .nil) := by
 intro k
 induction k with
 | zero =>
  intro i hi
  obtain rfl : i = N := by omega
  rw [List.drop_of_length_le (by rw [a8j]; exact Nat.le_refl _), a2o]
 | succ k ih =>
  intro i hi
  have hlt : i < (a69 N).length := by rw [a8j]; omega
  rw [List.drop_eq_getElem_cons hlt, a8i, a2o, Int.toNat_natCast, h i (by omega)]
  simp only [Er.isNil, if_true]
  rw [d1t (by omega)]
  exact ih (i + 1) (by omega)
theorem d2z {g : Gr} {N : Nat} (hN : g.nodes.length = N) (h64 : N <= 64) (hout : 0 <= g.out /\ g.out < (N : Int)) (hf : ∀ n ∈ g.nodes, n.ins.length < 2 ^ 61) (hins : ∀ i, i < N -> ∀ x ∈ (g.nodes[i]!).ins, 0 <= x /\ x < (i : Int)) {D : Nat -> Ds} {L : Nat -> Lk} (h0 : L 0 = lk0 (a69 N) N)
  (h : ∀ i, i < N -> a3c { L i with descs := dTo D N i } g.nodes[i]! = ((D i, .nil), { L (i + 1) with descs := dTo D N i })) :
  ofR g = ({ L N with descs := (List.range N).map D }.sn, .nil) := by
 have hs : a7x (g.nodes.map (·.ins)) = .ok (a69 N) := by
  have := c54 (ins := g.nodes.map (·.ins)) (fun r hr => by
   obtain ⟨n, hn, rfl⟩ := List.mem_map.1 hr
   exact hf n hn) (fun i hi x hx => by
   rw [List.length_map] at hi
   rw [a8m (by simpa using hi), List.getElem_map] at hx
   exact hins i (by omega) x (by rw [a8m hi]; exact hx))
  rw [this]; simp [hN]
 unfold ofR
 rw [if_neg (by omega), if_neg (by omega), hs, hN]
 simp only
 have := c0o hN h N 0 (by omega)
 rw [List.drop_zero, h0] at this
 have e0 : dTo D N 0 = List.replicate N dn := by simp [dTo]
 have e1 : dTo D N N = (List.range N).map D := by simp [dTo]
 rw [e0, e1] at this
 exact this
theorem c1p {e : Int} (h : 1 <= e /\ e <= 256) : a08 [e] = .nil := by
 rw [a6z]; simp [c08, a5q, a58]; omega
theorem c9f {d : Ds} (h : a08 d.shape = .nil) : opR 8 [] [d] = (d, .nil) := by
 simp [opR, a2q, a2v, a17, a53, b5l, chk, h, a1u, a1o, Er.isNil]
theorem d22 {d : Ds} (h : a08 d.shape = .nil) : opR 7 [] [d, d] = (d, .nil) := by
 simp [opR, a2q, a2v, a17, a53, b5l, chk, h, a1u, a1o, Er.isNil]
def inN (args : List Int) : Nd := ⟨1, [], args, [], false, []⟩
def opN (op : Int) (ins args : List Int) : Nd := ⟨op, ins, args, [], false, []⟩
theorem c9c {l : Lk} {e : Int} (h : 1 <= e /\ e <= 256) (hl : l.input = false) : a3c l (inN [0, e]) = ((⟨[e], false⟩, .nil), { l with input := true, hin := ⟨[e], false⟩ }) := by
 simp [a3c, inN, a2q, inR, a3u, chk, c1p h, Er.isNil, hl]
theorem c14 {l : Lk} {op : Int} {ins args : List Int} (h : a2q op = true) : a3c l (opN op ins args) = (opR op args (lkD l ins), l) := by
 simp [a3c, opN, h]
def a3w (n : Nat) (elems : Int) (keep : Bool) : List Nd := inN [0, elems] :: (List.range n).map (fun (i : Nat) => opN 8 [(i : Int)] []) ++ if keep = true then [opN 7 [(n : Int), 1] []] else []
def a5p (n : Nat) (elems : Int) (keep : Bool) : Gr := ⟨a3w n elems keep, (a3w n elems keep).length - 1⟩
theorem a3m {n : Nat} {e : Int} {k : Bool} : (a3w n e k).length = n + 1 + if k = true then 1 else 0 := by
 unfold a3w; cases k <;> simp
theorem c2b {n : Nat} {e : Int} {k : Bool} : (a3w n e k)[0]! = inN [0, e] := by
 unfold a3w; rfl
theorem b43 {n : Nat} {e : Int} {k : Bool} {i : Nat} (h : i < n) : (a3w n e k)[i + 1]! = opN 8 [(i : Int)] [] := by
 have h2 : i + 1 < (a3w n e k).length := by rw [a3m]; omega
 unfold a3w at h2 ⊢
 rw [a8m h2]
 rw [List.getElem_append_left (by simp; omega)]
 simp
theorem b3e {n : Nat} {e : Int} : (a3w n e true)[n + 1]! = opN 7 [(n : Int), 1] [] := by
 have h2 : n + 1 < (a3w n e true).length := by rw [a3m]; simp
 unfold a3w at h2 ⊢
 rw [a8m h2]
 rw [List.getElem_append_right (by simp)]
 simp
theorem d3j {n : Nat} {e : Int} {k : Bool} (hn : 1 <= n /\ n <= 60) (he : 1 <= e /\ e <= 256) : ofR (a5p n e k) = (⟨a69 (n + 1 + if k = true then 1 else 0), (List.range (n + 1 + if k = true then 1 else 0)).map (fun _ => ⟨[e], false⟩), ⟨[e], false⟩, []⟩, .nil) := by
 have hlen := a3m (n := n) (e := e) (k := k)
 have hN : n + 1 + (if k = true then 1 else 0) <= 64 := by split <;> omega
 have hcase : ∀ i, i < n + 1 + (if k = true then 1 else 0) -> i = 0 \/ (∃ j, i = j + 1 /\ j < n) \/ (i = n + 1 /\ k = true) := by
  intro i hi
  rcases Nat.eq_zero_or_pos i with h | h
  ·exact .inl h
  ·by_cases h2 : i < n + 1
   ·exact .inr (.inl ⟨i - 1, by omega, by omega⟩)
   ·refine .inr (.inr ?_)
    cases k
    ·simp at hi; omega
    ·simp at hi; exact ⟨by omega, rfl⟩
 have hall : ∀ i, i < n + 1 + (if k = true then 1 else 0) -> (a5p n e k).nodes[i]!.ins.length <= 2 /\ ∀ x ∈ (a5p n e k).nodes[i]!.ins, 0 <= x /\ x < (i : Int) := by
  intro i hi
  rcases hcase i hi with rfl | ⟨j, rfl, hj⟩ | ⟨rfl, rfl⟩
  ·simp only [a5p, c2b, inN]; simp
  ·simp only [a5p, b43 hj, opN]; simp; omega
  ·simp only [a5p, b3e, opN]; simp; omega
 generalize hNv : n + 1 + (if k = true then 1 else 0) = N at *
 refine d2z (g := a5p n e k) (N := N) (D := fun _ => ⟨[e], false⟩) (L := fun i => if i = 0 then lk0 (a69 N) N else { lk0 (a69 N) N with input := true, hin := ⟨[e], false⟩ }) hlen hN (by simp only [a5p, hlen]; omega) (fun nd hnd => ?_) (fun i hi => (hall i hi).2) rfl (fun i hi => ?_) |>.trans ?_
 ·obtain ⟨i, hi, rfl⟩ := List.mem_iff_getElem.1 hnd
  have := (hall i (by rw [<- hlen]; exact hi)).1
  rw [a8m hi] at this
  omega
 ·rcases hcase i hi with rfl | ⟨j, rfl, hj⟩ | ⟨rfl, rfl⟩
  ·simp only [a5p, c2b]
   rw [c9c he (by simp [lk0])]
   simp
  ·simp only [a5p, b43 hj]
   rw [c14 rfl]
   have e1 : lkD { (if j + 1 = 0 then lk0 (a69 N) N else { lk0 (a69 N) N with input := true, hin := ⟨[e], false⟩ } : Lk) with descs := dTo (fun _ => (⟨[e], false⟩ : Ds)) N (j + 1) } [(j : Int)] = [⟨[e], false⟩] := by
    simp only [lkD, List.map_cons, List.map_nil, Int.toNat_natCast]
    rw [b93 (by omega)]
   rw [e1, c9f (c1p he)]
   simp
  ·simp only [a5p, b3e]
   rw [c14 rfl]
   have e1 : lkD { (if n + 1 = 0 then lk0 (a69 N) N else { lk0 (a69 N) N with input := true, hin := ⟨[e], false⟩ } : Lk) with descs := dTo (fun _ => (⟨[e], false⟩ : Ds)) N (n + 1) } [(n : Int), 1] = [⟨[e], false⟩, ⟨[e], false⟩] := by
    simp only [lkD, List.map_cons, List.map_nil, Int.toNat_natCast]
    rw [b93 (by omega), show ((1 : Int)).toNat = 1 from rfl, b93 (by omega)]
   rw [e1, d22 (c1p he)]
   simp
 ·rw [if_neg (by omega)]
  rfl
end Go.Ideal.Tryd
end
section
namespace Go.Ideal.Tryd
theorem c7v {N : Nat} : atI (a69 N) N = a69 N := by
 have key : ∀ d k, k + d = N -> c66 k (a69 k ++ List.replicate (N - k) 0) ((a69 N).drop k) = a69 N := by
  intro d
  induction d with
  | zero =>
   intro k hk
   obtain rfl : k = N := by omega
   rw [List.drop_of_length_le (by rw [a8j]; exact Nat.le_refl _), c66]
   simp
  | succ d ih =>
   intro k hk
   have hlt : k < (a69 N).length := by rw [a8j]; omega
   have := b3k (os := a69 k) (k := N - (k + 1)) (x := (k : Int)) (z := (0 : Int))
   rw [a8j] at this
   rw [List.drop_eq_getElem_cons hlt, a8i, c66, Int.toNat_natCast, show N - k = (N - (k + 1)) + 1 by omega, this, <- b85]
   exact ih (k + 1) (by omega)
 have := key N 0 (by omega)
 rw [List.drop_zero] at this
 exact this
theorem upTo_get! {N k : Nat} (h : k < N) : (a69 N)[k]! = k := by
 have h2 : k < (a69 N).length := by rw [a8j]; exact h
 rw [a8m h2, a8i]
theorem c6z {N : Nat} : ∀ {us : List Int} {t v : Int}, (∀ u ∈ us, 0 <= u /\ u < (N : Int)) -> t <= v -> (∀ u ∈ us, u <= v) -> (v = t \/ v ∈ us) -> c7q (a69 N) t us = v
 | [], t, v, _, _, _, h3 => by
  rcases h3 with h | h
  ·rw [h]; rfl
  ·simp at h
 | u :: us, t, v, hr, h1, h2, h3 => by
  have hu := hr u (by simp)
  have hu2 := h2 u (by simp)
  rw [c7q, upTo_get! (by omega)]
  refine c6z (fun x hx => hr x (by simp [hx])) (by omega) (fun x hx => h2 x (by simp [hx])) ?_
  rcases h3 with h | h
  ·left; omega
  ·rcases List.mem_cons.1 h with h | h
   ·left; omega
   ·exact .inr h
theorem d0z {t : Nat} {x : Int} : ∀ {rs : List (List Int)} {i : Nat}, x ∈ sp t rs i ↔ ∃ m, m < rs.length /\ x = ((i + m : Nat) : Int) /\ (t : Int) ∈ rs[m]!
 | [], i => by simp [sp]
 | r :: rs, i => by
  rw [sp, List.mem_append, d0z (rs := rs)]
  constructor
  ·rintro (h | ⟨m, h1, h2, h3⟩)
   ·split at h
    ·rename_i hr
     simp at h
     exact ⟨0, by simp, by simpa using h, by simpa using hr⟩
    ·simp at h
   ·exact ⟨m + 1, by simpa using h1, by rw [h2]; congr 1; omega, by simpa using h3⟩
  ·rintro ⟨m, h1, h2, h3⟩
   cases m with
   | zero =>
    left
    rw [if_pos (by simpa using h3)]
    simpa using h2
   | succ m => exact .inr ⟨m, by simpa using h1, by rw [h2]; congr 1; omega, by simpa using h3⟩
theorem c9w {g : Gr} {ds : List Ds} {a : List Int} {uss : List (List Int)} {N : Nat} (hN : uss.length = N) {F : Nat -> Sp} {I : Nat -> Sp} (hF : ∀ i, i < N -> d3w g ds a i uss[i]! = F i) (hI : ∀ i, i < N -> (if g.nodes[i]!.op = 1 then e0j (I i) (F i) else I i) = I (i + 1)) : b82 g ds a 0 uss [] (I 0) = ((List.range N).map F, I N) := by
 have key : ∀ d i, i + d = N -> b82 g ds a i (uss.drop i) ((List.range i).map F) (I i) = ((List.range N).map F, I N) := by
  intro d
  induction d with
  | zero =>
   intro i hi
   obtain rfl : i = N := by omega
   rw [List.drop_of_length_le (by omega), b82]
  | succ d ih =>
   intro i hi
   rw [get!_drop (by omega), b82, hF i (by omega), hI i (by omega)]
   have e1 : (List.range i).map F ++ [F i] = (List.range (i + 1)).map F := by rw [List.range_succ, List.map_append]; rfl
   rw [e1]
   exact ih (i + 1) (by omega)
 have := key N 0 (by omega)
 rw [List.drop_zero] at this
 exact this
theorem c2e {g : Gr} {out : List Sp} {F : Nat -> Sp} : ∀ {L : List Nat}, (∀ i ∈ L, g.nodes[i]!.op ≠ 1 /\ out[i]! = F i) -> b0z g out (L.map fun (i : Nat) => (i : Int)) = L.map F
 | [], _ => rfl
 | i :: L, h => by
  have := h i (by simp)
  rw [List.map_cons, b0z, Int.toNat_natCast, if_neg this.1, this.2, c2e (fun k hk => h k (by simp [hk]))]
  rfl
theorem b3u {N : Nat} : a69 (N + 1) = 0 :: ((List.range N).map (· + 1)).map fun (i : Nat) => (i : Int) := by
 unfold a69; rw [List.range_succ_eq_map]; simp
theorem b8r {g : Gr} {inn : Sp} {offs : List Int} : ∀ {is : List Int} {out : List Sp} {k : Nat} {b : Bool}, (a59 g inn offs out k b is).1.length = out.length
 | [], _, _, _ => rfl
 | i :: is, out, k, b => by
  rw [a59]
  split <;> rw [b8r, List.length_set]
theorem c01 {g : Gr} {inn : Sp} {offs : List Int} : ∀ {is : List Int} {out : List Sp} {k : Nat}, (a59 g inn offs out k false is).2 = false
 | [], _, _ => rfl
 | i :: is, out, k => by
  rw [a59]
  split <;> exact c01
theorem c00 {g : Gr} {inn : Sp} {offs : List Int} : ∀ {is : List Int} {out : List Sp} {k : Nat} {b : Bool}, (∀ i ∈ is, 1 <= i) -> (a59 g inn offs out k b is).1[0]! = out[0]!
 | [], _, _, _, _ => rfl
 | i :: is, out, k, b, h => by
  have h1 := h i (by simp)
  have e : ∀ x : Sp, (out.set i.toNat x)[0]! = out[0]! := by
   intro x
   simp only [getElem!_def]
   rw [List.getElem?_set_ne (by omega)]
  rw [a59]
  split
  ·rw [c00 (fun k hk => h k (by simp [hk])), e]
  ·rw [c00 (fun k hk => h k (by simp [hk])), e]
theorem c6d {n : Nat} {e : Int} {k : Bool} : (a5p n e k).nodes[0]!.op = 1 := by
 show (a3w n e k)[0]!.op = 1
 rw [c2b]; rfl
theorem c6c {n : Nat} {e : Int} {k : Bool} : (a5p n e k).nodes[Int.toNat 0]!.op = 1 := c6d
def rB (n N : Nat) (k : Bool) (i : Nat) : Int := if i + 1 = N then N else if k = true /\ i = 1 then n + 1 else i + 1
theorem c4j {e : Int} (h : 1 <= e /\ e <= 256) : upI (a38 [e] false) = (e + 3) / 4 * 4 := by
 have : a38 [e] false = e := by
  have h2 : c08 [e] = true := a6z.1 (c1p h)
  simp [a38, a5h, h2, a58]
 rw [this]; unfold upI; rw [if_neg (by omega)]
theorem c6g {n : Nat} {e : Int} {k : Bool} (hn : 2 <= n /\ n <= 60) (he : 1 <= e /\ e <= 256) {N : Nat} (hN : N = n + 1 + if k = true then 1 else 0) : a4t (a5p n e k) ⟨a69 N, (List.range N).map (fun _ => ⟨[e], false⟩), ⟨[e], false⟩, []⟩ = ((List.range N).map (fun (i : Nat) => ⟨i, rB n N k i, 0, (e + 3) / 4 * 4⟩), ⟨-1, 1, 0, (e + 3) / 4 * 4⟩) := by
 have hlen : (a5p n e k).nodes.length = N := by rw [hN]; exact a3m
 have hout : (a5p n e k).out = (N : Int) - 1 := by
  have : (a3w n e k).length = N := hlen
  simp only [a5p, this]
 have h3 : 3 <= N := by omega
 have hcase : ∀ i, i < N -> i = 0 \/ (∃ j, i = j + 1 /\ j < n) \/ (i = n + 1 /\ k = true) := by
  intro i hi
  rcases Nat.eq_zero_or_pos i with h | h
  ·exact .inl h
  ·by_cases h2 : i < n + 1
   ·exact .inr (.inl ⟨i - 1, by omega, by omega⟩)
   ·refine .inr (.inr ?_)
    cases k
    ·simp at hN; omega
    ·simp at hN; exact ⟨by omega, rfl⟩
 unfold a4t
 simp only [hlen, c7v]
 refine (c9w (N := N) (by rw [a77, hlen]) (F := fun (i : Nat) => ⟨i, rB n N k i, 0, (e + 3) / 4 * 4⟩) (I := fun i => if i = 0 then ⟨-1, -1, 0, 4⟩ else ⟨-1, 1, 0, (e + 3) / 4 * 4⟩) (fun i hi => ?_) (fun i hi => ?_)).trans ?_
 ·have hu := b86 (g := a5p n e k) (t := i) (by rw [hlen]; exact hi)
  have hur := b87 (g := a5p n e k) _ (show (a7a (a5p n e k))[i]! ∈ a7a (a5p n e k) by
   rw [a8m (by rw [a77, hlen]; exact hi)]; exact List.getElem_mem _)
  rw [hlen] at hur
  have hm : ∀ x, x ∈ (a7a (a5p n e k))[i]! ↔ ∃ m, m < N /\ x = (m : Int) /\ (i : Int) ∈ (a5p n e k).nodes[m]!.ins := by
   intro x
   rw [hu, d0z]
   simp only [List.length_map, hlen, Nat.zero_add]
   constructor
   ·rintro ⟨m, h1, h2, h3⟩
    refine ⟨m, h1, h2, ?_⟩
    rw [a8m (by simpa [hlen] using h1), List.getElem_map] at h3
    rw [a8m (by rw [hlen]; exact h1)]
    exact h3
   ·rintro ⟨m, h1, h2, h3⟩
    refine ⟨m, h1, h2, ?_⟩
    rw [a8m (by rw [hlen]; exact h1)] at h3
    rw [a8m (by simpa [hlen] using h1), List.getElem_map]
    exact h3
  generalize (a7a (a5p n e k))[i]! = us at hm hur
  unfold d3w
  rw [upTo_get! hi]
  have hds : ((List.range N).map (fun _ => (⟨[e], false⟩ : Ds)))[i]! = ⟨[e], false⟩ := by
   rw [a8m (by simpa using hi)]; simp
  rw [hds]
  simp only
  rw [c4j he]
  congr 1
  unfold rB
  by_cases h1 : i + 1 = N
  ·rw [if_pos h1, if_pos (by rw [hout]; omega)]; rw [hlen]
  ·rw [if_neg h1, if_neg (by rw [hout]; omega)]
   have hle : ∀ u ∈ us, u <= if k = true /\ i = 1 then (n : Int) + 1 else i + 1 := by
    intro u hu2
    obtain ⟨m, h2, rfl, h4⟩ := (hm u).1 hu2
    rcases hcase m h2 with rfl | ⟨j, rfl, hj⟩ | ⟨rfl, rfl⟩
    ·simp only [a5p, c2b, inN] at h4; simp at h4
    ·simp only [a5p, b43 hj, opN] at h4
     simp at h4
     obtain rfl : i = j := by omega
     split <;> omega
    ·simp only [a5p, b3e, opN] at h4
     simp at h4
     rcases h4 with h4 | h4
     ·simp at hN; split <;> omega
     ·rw [if_pos ⟨rfl, by omega⟩]; omega
   refine c6z hur.2 (by split <;> omega) hle (.inr ?_)
   rw [hm]
   split
   ·rename_i hk
    obtain ⟨rfl, rfl⟩ := hk
    simp at hN
    refine ⟨n + 1, by omega, by simp, ?_⟩
    simp only [a5p, b3e, opN]; simp
   ·rename_i hk
    by_cases hin : i < n
    ·refine ⟨i + 1, by omega, by simp, ?_⟩
     simp only [a5p, b43 hin, opN]; simp
    ·obtain rfl : i = n := by
      rcases hcase i hi with h | ⟨j, h, hj⟩ | ⟨h, hk2⟩
      ·omega
      ·omega
      ·subst hk2; simp at hN; omega
     cases k with
     | false => simp at hN; omega
     | true =>
      refine ⟨i + 1, by simp at hN; omega, by simp, ?_⟩
      simp only [a5p, b3e, opN]; simp
 ·rcases hcase i hi with rfl | ⟨j, rfl, hj⟩ | ⟨rfl, rfl⟩
  ·have : rB n N k 0 = 1 := by unfold rB; rw [if_neg (by omega), if_neg (by simp)]; rfl
   rw [if_pos c6d, if_pos rfl, if_neg (by omega)]
   simp only [e0j, this]
   rfl
  ·simp only [a5p, b43 hj, opN]
   rw [if_neg (by omega), if_neg (by omega), if_neg (by omega)]
  ·simp only [a5p, b3e, opN]
   rw [if_neg (by omega), if_neg (by omega), if_neg (by omega)]
 ·rw [if_neg (by omega)]
def rT (n N : Nat) (k : Bool) (o : Int) (j : Nat) : Sp := if j = 0 then ⟨-1, 1, 0, o⟩ else ⟨j, rB n N k j, 0, o⟩
def rF (k : Bool) (o : Int) (j : Nat) : Int := if k = true /\ j = 1 then o else if j % 2 = 0 then 0 else if k = true then 2 * o else o
theorem c6f {n N : Nat} {k : Bool} {o : Int} (hn : 2 <= n /\ n <= 60) (hN : N = n + 1 + if k = true then 1 else 0) (ho : 1 <= o /\ o <= 1000 /\ o % 4 = 0) : a40 ((List.range N).map (rT n N k o)) = ((List.range N).map (rF k o), if k = true then 3 * o else 2 * o) := by
 have hrT : ∀ j, j < N -> rT n N k o j = ⟨(rT n N k o j).a, (rT n N k o j).b, 0, o⟩ := by
  intro j _; unfold rT; split <;> rfl
 have hlen : ∀ j, (rT n N k o j).len = o := by intro j; unfold rT; split <;> rfl
 have ha : ∀ j, (rT n N k o j).a = if j = 0 then -1 else (j : Int) := by intro j; unfold rT; split <;> rfl
 have hb : ∀ j, (rT n N k o j).b = if j = 0 then 1 else rB n N k j := by intro j; unfold rT; split <;> rfl
 refine b8p (fun j hj => ⟨by rw [hlen]; omega, by rw [hlen]; omega, ?_, ?_, ?_⟩) (fun j hj l hl hc => ?_) (fun j hj m hm0 hm hm4 => ?_) (fun j hj => ?_) (.inl ?_)
 ·unfold rF; split <;> (try split) <;> (try split) <;> omega
 ·unfold rF; split <;> (try split) <;> (try split) <;> omega
 ·unfold rF; split <;> (try split) <;> (try split) <;> omega
 ·obtain ⟨c1, c2, c3, c4⟩ := hc
  rw [hlen] at c3 c4
  rw [ha, ha, hb, hb] at c2
  unfold rB at c2
  unfold rF at c3 c4
  cases k
  ·simp at hN c2 c3 c4
   split at c2 <;> split at c2 <;> (try split at c2) <;> (try split at c2) <;> split at c3 <;> split at c3 <;> omega
  ·simp at hN c2 c3 c4
   split at c2 <;> split at c2 <;> (try split at c2) <;> (try split at c2) <;> (try split at c2) <;> (try split at c2) <;> split at c3 <;> (try split at c3) <;> (try split at c3) <;> (try split at c3) <;> omega
 ·unfold rF at hm
  cases k
  ·simp at hN hm
   split at hm
   ·omega
   ·refine ⟨j - 1, by omega, by rw [hlen]; omega, ?_, ?_, ?_⟩
    ·rw [ha, ha, hb, hb]; unfold rB; simp
     split <;> split <;> (try split) <;> (try split) <;> omega
    ·rw [hlen]; unfold rF; simp; split <;> omega
    ·rw [hlen]; unfold rF; simp; split <;> omega
  ·simp at hN hm
   split at hm
   ·refine ⟨0, by omega, by rw [hlen]; omega, ?_, ?_, ?_⟩
    ·rw [ha, ha, hb, hb]; unfold rB; simp
     split <;> (try split) <;> (try split) <;> omega
    ·rw [hlen]; unfold rF; simp; omega
    ·rw [hlen]; unfold rF; simp; omega
   ·split at hm
    ·omega
    ·by_cases hlt : m < o
     ·refine ⟨j - 1, by omega, by rw [hlen]; omega, ?_, ?_, ?_⟩
      ·rw [ha, ha, hb, hb]; unfold rB; simp
       split <;> split <;> (try split) <;> (try split) <;> (try split) <;> (try split) <;> omega
      ·rw [hlen]; unfold rF; simp; split <;> (try split) <;> omega
      ·rw [hlen]; unfold rF; simp; split <;> (try split) <;> omega
     ·refine ⟨1, by omega, by rw [hlen]; omega, ?_, ?_, ?_⟩
      ·rw [ha, ha, hb, hb]; unfold rB; simp
       split <;> (try split) <;> (try split) <;> (try split) <;> omega
      ·rw [hlen]; unfold rF; simp; omega
      ·rw [hlen]; unfold rF; simp; omega
 ·rw [hlen]; unfold rF
  cases k <;> simp <;> split <;> (try split) <;> omega
 ·cases k
  ·exact ⟨1, by omega, by rw [hlen]; unfold rF; simp; omega⟩
  ·simp at hN
   exact ⟨3, by omega, by rw [hlen]; unfold rF; simp; omega⟩
theorem c9r {n : Nat} {e : Int} {k : Bool} (hn : 2 <= n /\ n <= 60) (he : 1 <= e /\ e <= 256) : ∃ l : List Sp, c3c (a5p n e k) = ((l, if k = true then 3 * ((e + 3) / 4 * 4) else 2 * ((e + 3) / 4 * 4)), .nil) /\ l.length = (a3w n e k).length /\ l[0]!.a = -1 := by
 obtain ⟨N, hN⟩ : ∃ N, N = n + 1 + if k = true then 1 else 0 := ⟨_, rfl⟩
 have hor := d3j (n := n) (e := e) (k := k) (by omega) he
 rw [<- hN] at hor
 have hsp := c6g (n := n) (e := e) (k := k) hn he hN
 have hlen : (a3w n e k).length = N := by rw [hN]; exact a3m
 obtain ⟨o, ho⟩ : ∃ o, o = (e + 3) / 4 * 4 := ⟨_, rfl⟩
 rw [<- ho] at hsp ⊢
 have hpl := c6f (n := n) (N := N) (k := k) (o := o) hn hN (by omega)
 obtain ⟨N', rfl⟩ : ∃ N', N = N' + 1 := ⟨N - 1, by omega⟩
 have hops : ∀ i ∈ (List.range N').map (· + 1), (a5p n e k).nodes[i]!.op ≠ 1 /\ ((List.range (N' + 1)).map (fun (i : Nat) => (⟨i, rB n (N' + 1) k i, 0, o⟩ : Sp)))[i]! = ⟨i, rB n (N' + 1) k i, 0, o⟩ := by
  intro i hi
  simp only [List.mem_map, List.mem_range] at hi
  obtain ⟨j, hj, rfl⟩ := hi
  refine ⟨?_, ?_⟩
  ·by_cases h2 : j < n
   ·simp only [a5p, b43 h2, opN]; omega
   ·cases k
    ·simp at hN; omega
    ·simp at hN
     obtain rfl : j = n := by omega
     simp only [a5p, b3e, opN]; omega
  ·rw [a8m (by simp; omega)]; simp
 have hsel : b0z (a5p n e k) ((List.range (N' + 1)).map (fun (i : Nat) => (⟨i, rB n (N' + 1) k i, 0, o⟩ : Sp))) (a69 (N' + 1)) = ((List.range N').map (· + 1)).map (fun (i : Nat) => (⟨i, rB n (N' + 1) k i, 0, o⟩ : Sp)) := by
  rw [b3u, b0z, if_pos c6c, c2e hops]
 have hall : (⟨-1, 1, 0, o⟩ : Sp) :: ((List.range N').map (· + 1)).map (fun (i : Nat) => (⟨i, rB n (N' + 1) k i, 0, o⟩ : Sp)) = (List.range (N' + 1)).map (rT n (N' + 1) k o) := by
  rw [List.range_succ_eq_map]
  simp [rT]
 have hM : ¬ 65536 < (if k = true then 3 * o else 2 * o) := by split <;> omega
 refine ⟨e24 (a5p n e k) ((List.range (N' + 1)).map (fun (i : Nat) => (⟨i, rB n (N' + 1) k i, 0, o⟩ : Sp))) ⟨-1, 1, 0, o⟩ ((List.range (N' + 1)).map (rF k o)) (a69 (N' + 1)), ?_, ?_, ?_⟩
 ·unfold c3c c5l
  rw [hor]
  simp only [Er.isNil, if_true]
  rw [hsp]
  simp only
  rw [hsel, hall, hpl]
  simp only
  rw [if_neg hM]
 ·unfold e24
  rw [b3u, a59, if_pos c6c, c01]
  simp only [Bool.false_eq_true, if_false, b8r, List.length_set, List.length_map, List.length_range, hlen]
 ·unfold e24
  rw [b3u, a59, if_pos c6c, c01]
  simp only [Bool.false_eq_true, if_false]
  rw [c00 (by
   intro i hi
   simp only [List.mem_map, List.mem_range] at hi
   obtain ⟨a, ⟨b, _, rfl⟩, rfl⟩ := hi
   omega)]
  rw [List.range_succ_eq_map]
  simp
end Go.Ideal.Tryd
end
