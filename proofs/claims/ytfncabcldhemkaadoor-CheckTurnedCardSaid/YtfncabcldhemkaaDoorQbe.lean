/- Part Qbe of the proof: a machine with trees for values, its soundness, and walks on it. -/
import Derived.Test.YtfncabcldhemkaaDoorQbd
import Derived.Test.YtfncabcldhemkaaDoorQaq
section
set_option linter.unusedVariables false
set_option linter.unusedSimpArgs false
set_option maxRecDepth 200000
namespace Go.Ideal.Tryd
attribute [local go_sem] eD eT eV eI eP
section
variable {G : GG} {bk : Nat → Nat × Nat} {Q : Exit → St → Prop} {st : St}
def Er.snt (e : Er) : Prop := e = .nil ∨ ∃ g, g < 21 ∧ e = .s g
theorem c0c {g : Nat} (h : g < 21) : (Er.s g).snt := .inr ⟨g, h, rfl⟩
theorem b34 : Er.nil.snt := .inl rfl
theorem e2f (sh : List Int) : (a03 sh).snt := by
  rcases a57 sh with h | h | h <;> rw [h]
  · exact b34
  · exact c0c (by decide)
  · exact c0c (by decide)
def SB (r : Dr) : Prop := r.2.snt
theorem b25 {sh : List Int} {r : Dr} (h : SB r) : SB (chk (a03 sh) r) := by unfold chk; split; exact h; exact e2f sh
theorem e2q {g : Nat} (h : g < 21) : SB (bad g) := c0c h
theorem d7p {r : Dr} (h : SB r) : ∀ {l : List Ds}, SB (d1e l r)
  | [] => h
  | d :: ds => b25 (d7p h)
theorem a74 {c : Prop} [Decidable c] {a b : Dr} (h : SB a) (h2 : SB b) : SB (if c then a else b) := by split; exact h; exact h2
theorem e5p {d : Ds} : SB (d, .nil) := b34
theorem d7g {sh : List Int} {w : Bool} : SB (b9s sh w) := b25 e5p
theorem f0y {op : Int} {args : List Int} {ins : List Ds} : (opR op args ins).2.snt := by
  have b3 : SB (bad 3) := e2q (by decide)
  have b5 : SB (bad 5) := e2q (by decide)
  have b6 : SB (bad 6) := e2q (by decide)
  show SB (opR op args ins)
  unfold opR
  refine a74 (a74 ?_ b6) b5
  refine a74 (b25 (b25 (a74 (a74 d7g b3) b6))) ?_
  refine a74 (b25 (b25 (a74 (a74 (a74 d7g b6) b3) b6))) ?_
  refine a74 (b25 (a74 (a74 (a74 e5p b6) b3) b6)) ?_
  refine a74 (d7p (a74 d7g b6)) ?_
  refine a74 (b25 (b25 (a74 e5p b6))) ?_
  refine a74 (b25 (a74 e5p b6)) ?_
  exact d7p (a74 b6 (a74 e5p b3))
theorem e7m {p : Pl} {i : In} : (a8m p i).2.snt := by
  unfold a8m
  split
  · split
    · split
      · split
        · exact b34
        · exact c0c (by decide)
      · exact c0c (by decide)
    · exact f0y
  · split
    · split
      · exact c0c (by decide)
      · split
        · exact b34
        · exact c0c (by decide)
    · exact c0c (by decide)
theorem e69 {p : Pl} {i : In} : (c0k p i).snt := by
  unfold c0k
  split
  · split
    · exact c0c (by decide)
    · exact b34
  · exact c0c (by decide)
theorem d87 {p : Pl} {i : In} : (a1i p i).2.snt ∧ 0 ≤ (a1i p i).1 ∧ (a1i p i).1 ≤ 1024 := by
  have z : ∀ {g : Nat}, g < 21 → (((0 : Int), Er.s g) : Int × Er).2.snt ∧ 0 ≤ (((0 : Int), Er.s g) : Int × Er).1 ∧ (((0 : Int), Er.s g) : Int × Er).1 ≤ 1024 := fun h => ⟨c0c h, by simp, by simp⟩
  unfold a1i
  split
  · exact z (by decide)
  split
  · exact z (by decide)
  split
  · exact z (by decide)
  split
  · split
    · split
      · exact ⟨b34, by simp, by simp⟩
      · exact z (by decide)
    · exact ⟨e69, by simp, by simp⟩
  · split
    · unfold e6p
      split
      · split
        · exact ⟨b34, by simp; omega, by simpa using ‹_›⟩
        · exact z (by decide)
      · exact z (by decide)
    · exact ⟨e7m, by simp, by simp⟩
def Around (G : GG) (bk : Nat → Nat × Nat) : Prop := (∀ (k : Int) (g : Nat), g < 21 → ACalls pg G a46 [li k, a0m bk (.s g)] (a0m bk (.at k (.s g)))) ∧ ∀ (k q : Int) (g : Nat), g < 21 → ACalls pg G a46 [li k, a0m bk (.at q (.s g))] (a0m bk (.at k (.s g)))
def Er.wb (e : Er) : Prop := e = .nil ∨ (∃ g, g < 21 ∧ e = .s g) ∨ ∃ p g, g < 21 ∧ e = .at p (.s g)
theorem Er.snt.wb {e : Er} (h : e.snt) : e.wb := h.elim .inl fun h => .inr (.inl h)
theorem Around.ofw {G : GG} {bk : Nat → Nat × Nat} (h : Around G bk) {e : Er} (he : e.wb) (hn : e.isNil = false) (k : Int) : ACalls pg G a46 [li k, a0m bk e] (a0m bk (atE k e)) := by
  rcases he with rfl | ⟨g, hg, rfl⟩ | ⟨q, g, hg, rfl⟩
  · simp [Er.isNil] at hn
  · exact h.1 k g hg
  · exact h.2 k q g hg
theorem Around.of {G : GG} {bk : Nat → Nat × Nat} (h : Around G bk) {e : Er} (he : e.snt) (hn : e.isNil = false) (k : Int) : ACalls pg G a46 [li k, a0m bk e] (a0m bk (atE k e)) := h.ofw he.wb hn k
theorem e2s (hS : Sent G bk) (hA : Around G bk) {p : Pl} (hp : PlB p) (hi : ∀ i ∈ p.code, InB p i)
    (h : st.s 1 = .var (eP p) ∧ st.s 12 = slJ p.code ∧ st.s 13 = li p.code.length ∧ st.s 14 = li 0)
    (hbad : (a1a (fun i => (a1i p i).2) p.code 0).isNil = false → ∀ s, s.s 2 = a0m bk (a1a (fun i => (a1i p i).2) p.code 0) → Q .ret s)
    (hex : a1a (fun i => (a1i p i).2) p.code 0 = .nil → ∀ s, Q (.exit 0) s) : AW pg G 26 (.loop a42) Q st := by
  have hlc := hp.code
  refine a1g Nat (fun j st => j ≤ p.code.length ∧ a1a (fun i => (a1i p i).2) p.code 0 = a1a (fun i => (a1i p i).2) (p.code.drop j) j ∧ st.s 1 = .var (eP p) ∧ st.s 12 = slJ p.code ∧ st.s 13 = li p.code.length ∧ st.s 14 = li j) (fun j => p.code.length - j) 0 ⟨by omega, rfl, h⟩ ?_
  clear h
  rintro j st K ⟨hj, hm, h⟩ hK
  by_cases hlt : j < p.code.length
  · rw [List.drop_eq_getElem_cons hlt, a1a] at hm
    simp (disch := omega) [go_sem, a42, h, hlt]
    refine a0f (f09 hS hp hi j hlt) (a0h _) (by simp (disch := omega) [go_sem, h]) ?_
    have hsn := (d87 (p := p) (i := p.code[j])).1
    generalize (a1i p p.code[j]).2 = e at *
    cases he : e.isNil
    · rw [he, if_neg (by simp)] at hm
      simp (disch := omega) [go_sem, h, he]
      refine a0f (hA.of hsn he j) (a0h _) (by simp (disch := omega) [go_sem, h]) ?_
      simp (disch := omega) [go_sem, h]
      have hn : (atE (j : Int) e).isNil = false := by
        rcases hsn with rfl | ⟨g, -, rfl⟩
        · simp [Er.isNil] at he
        · rfl
      exact hbad (by rw [hm]; exact hn) _ (by simp (disch := omega) [go_sem, h, hm])
    · rw [he, if_pos rfl] at hm
      simp (disch := omega) [go_sem, h, he]
      refine hK (j + 1) _ ⟨by omega, by rw [hm]; rfl, by simp (disch := omega) [go_sem, h]⟩ (by omega)
  · obtain rfl : j = p.code.length := by omega
    rw [List.drop_length, a1a] at hm
    simp (disch := omega) [go_sem, a42, h]
    exact hex hm _
theorem e3m {k : Int} {e : Er} : (atE k e).isNil = e.isNil := by cases e <;> rfl
theorem b61 {α : Type} {f : α → Er} : ∀ {xs : List α} {k : Int}, (a1a f xs k).isNil = true → ∀ x ∈ xs, (f x).isNil = true
  | [], _, _, x, hx => by simp at hx
  | y :: ys, k, h, x, hx => by
    simp only [a1a] at h
    cases hy : (f y).isNil
    · rw [hy, if_neg (by simp), e3m, hy] at h; cases h
    · rw [hy, if_pos rfl] at h
      rcases List.mem_cons.1 hx with rfl | hx
      · exact hy
      · exact b61 h x hx
theorem d67 {a b : Er} (h : (orE a b).isNil = true) : a.isNil = true ∧ b.isNil = true := by
  unfold orE at h
  cases ha : a.isNil
  · rw [ha, if_neg (by simp), ha] at h; cases h
  · rw [ha, if_pos rfl] at h; exact ⟨rfl, h⟩
theorem c9p {p : Pl} (h : (a28 p).isNil = true) : p.views.length ≤ 128 ∧ p.code.length ≤ 2048 ∧ (0 ≤ p.size ∧ p.size ≤ 65536) ∧ (∀ v ∈ p.views, 0 ≤ v.off ∧ v.off + a05 v.shape v.wide ≤ p.size ∧ (a03 v.shape).isNil = true) := by
  unfold a28 at h
  split at h
  · cases h
  · split at h
    · cases h
    · refine ⟨by omega, by omega, by omega, fun v hv => ?_⟩
      have h1 := b61 (d67 h).1 v hv
      unfold b2m at h1
      split at h1
      · split at h1
        · exact ⟨by omega, by omega, by assumption⟩
        · cases h1
      · rename_i hn; exact absurd h1 hn
theorem PlL.b {p : Pl} (h : PlL p) (hP : (a28 p).isNil = true) : PlB p := by
  have hf := c9p hP
  refine ⟨h.views, h.consts, h.weights, h.code, fun v hv => ⟨h.v v hv, ?_⟩, h.c, h.w⟩
  have := hf.2.2.2 v hv
  have := a9x v.shape v.wide
  omega
theorem f0b (hS : Sent G bk) (hA : Around G bk) {p : Pl} (hp : PlL p) (hi : ∀ i ∈ p.code, InB p i) (hP : ACalls pg G b6j [.agg (eP p)] (a0m bk (a28 p))) : ACalls pg G b0f [.agg (eP p)] (a0m bk (a5n p)) := by
  have hlc := hp.code
  refine b9d rfl ?_
  simp (disch := omega) [go_sem, b42]
  refine a0f hP (a0h _) (by simp (disch := omega) [go_sem]) ?_
  unfold a5n orE
  cases he : (a28 p).isNil
  · simp (disch := omega) [go_sem, he]
  · simp (disch := omega) [go_sem, he]
    refine e2s hS hA (hp.b he) hi (by simp (disch := omega) [go_sem]) (fun hn s h => ?_) (fun hn s => ?_)
    · simp (disch := omega) [go_sem, h]
    · rw [hn]
      simp (disch := omega) [go_sem, a0m]
theorem e6r (hS : Sent G bk) {p : Pl} (hp : PlB p) (hi : ∀ i ∈ p.code, InB p i)
    (h : st.s 1 = .var (eP p) ∧ st.s 5 = li 0 ∧ st.s 15 = slJ p.code ∧ st.s 16 = li p.code.length ∧ st.s 17 = li 0)
    (hex : ∀ s, s.s 5 = li (b27 p) → Q (.exit 0) s) : AW pg G 31 (.loop a41) Q st := by
  have hlc := hp.code
  refine a1g (Nat × Int) (fun q st => q.1 ≤ p.code.length ∧ (0 ≤ q.2 ∧ q.2 ≤ q.1 * 1024) ∧ b27 p = q.2 + ((p.code.drop q.1).map fun i => (a1i p i).1).sum ∧ st.s 1 = .var (eP p) ∧ st.s 5 = li q.2 ∧ st.s 15 = slJ p.code ∧ st.s 16 = li p.code.length ∧ st.s 17 = li q.1) (fun q => p.code.length - q.1) (0, 0) ⟨by simp, by simp, by simp [b27], h⟩ ?_
  clear h
  rintro ⟨j, u⟩ st K ⟨hj, hu, hm, h⟩ hK
  simp only at hj hu hm h
  by_cases hlt : j < p.code.length
  · rw [List.drop_eq_getElem_cons hlt, List.map_cons, List.sum_cons] at hm
    have hr := (d87 (p := p) (i := p.code[j])).2
    simp (disch := omega) [go_sem, a41, h, hlt]
    refine a0f (d9f hS hp hi j hlt) (by simp [go_sem, a0r]) (by simp (disch := omega) [go_sem, h]) ?_
    generalize a1i p p.code[j] = e at *
    simp (disch := omega) [go_sem, h]
    refine hK (j + 1, u + e.1) _ ⟨by simp only; omega, by simp only; omega, by simp only; omega, by simp (disch := omega) [go_sem, h]⟩ (by simp only; omega)
  · obtain rfl : j = p.code.length := by omega
    rw [List.drop_length, List.map_nil, List.sum_nil, Int.add_zero] at hm
    simp (disch := omega) [go_sem, a41, h]
    exact hex _ (by simp (disch := omega) [go_sem, h, hm])
theorem e9e (hS : Sent G bk) {p : Pl} (hp : PlL p) (hi : ∀ i ∈ p.code, InB p i) (hV : ACalls pg G b0f [.agg (eP p)] (a0m bk (a5n p))) : ACalls pg G b46 [.agg (eP p)] (.tup [li (if (a5n p).isNil = true then b27 p else 0), a0m bk (a5n p)]) := by
  have hlc := hp.code
  refine b8t rfl ?_
  simp (disch := omega) [go_sem, b5m]
  refine a0f hV (a0h _) (by simp (disch := omega) [go_sem]) ?_
  cases he : (a5n p).isNil
  · simp (disch := omega) [go_sem, he]
  · simp (disch := omega) [go_sem, he]
    refine e6r hS (hp.b (d67 he).1) hi (by simp (disch := omega) [go_sem]) (fun s h => ?_)
    rw [b1z.1 he]
    simp (disch := omega) [go_sem, h, a0m]
end
end Go.Ideal.Tryd
end
