/- Part Qbe of the proof: a machine with trees for values, its soundness, and walks on it. -/
import Derived.Test.YtfncabcldhemkaaGreatDoorQbd
import Derived.Test.YtfncabcldhemkaaGreatDoorQan
set_option linter.unusedVariables false
set_option linter.unusedSimpArgs false
set_option maxRecDepth 200000
section
namespace Go.Ideal.Tryz
attribute [local go_sem] eD eT eV eI eP
section
variable {G : GG} {bk : Nat -> Nat × Nat} {Q : Exit -> St -> Prop} {st : St}
def Er.snt (e : Er) : Prop := e = .nil \/ ∃ g, g < 21 /\ e = .s g
theorem b5i {g : Nat} (h : g < 21) : (Er.s g).snt := .inr ⟨g, h, rfl⟩
theorem b18 : Er.nil.snt := .inl rfl
theorem c4j (sh : List Int) : (a03 sh).snt := by
 rcases a28 sh with h | h | h <;> rw [h]
 ·exact b18
 ·exact b5i (by decide)
 ·exact b5i (by decide)
def SB (r : Dr) : Prop := r.2.snt
theorem b21 {sh : List Int} {r : Dr} (h : SB r) : SB (chk (a03 sh) r) := by unfold chk; split; exact h; exact c4j sh
theorem c95 {g : Nat} (h : g < 21) : SB (bad g) := b5i h
theorem c48 {r : Dr} (h : SB r) : ∀ {l : List Ds}, SB (a81 l r)
 | [] => h
 | d :: ds => b21 (c48 h)
theorem a8k {c : Prop} [Decidable c] {a b : Dr} (h : SB a) (h2 : SB b) : SB (if c then a else b) := by split; exact h; exact h2
theorem c96 {d : Ds} : SB (d, .nil) := b18
theorem c49 {sh : List Int} {w : Bool} : SB (a6r sh w) := b21 c96
theorem d17 {op : Int} {args : List Int} {ins : List Ds} : (opR op args ins).2.snt := by
 have b3 : SB (bad 3) := c95 (by decide)
 have b5 : SB (bad 5) := c95 (by decide)
 have b6 : SB (bad 6) := c95 (by decide)
 show SB (opR op args ins)
 unfold opR
 refine a8k (a8k ?_ b6) b5
 refine a8k (b21 (b21 (a8k (a8k c49 b3) b6))) ?_
 refine a8k (b21 (b21 (a8k (a8k (a8k c49 b6) b3) b6))) ?_
 refine a8k (b21 (a8k (a8k (a8k c96 b6) b3) b6)) ?_
 refine a8k (c48 (a8k c49 b6)) ?_
 refine a8k (b21 (b21 (a8k c96 b6))) ?_
 refine a8k (b21 (a8k c96 b6)) ?_
 exact c48 (a8k b6 (a8k c96 b3))
theorem d5b {p : Pl} {i : In} : (a3f p i).2.snt := by
 unfold a3f
 split
 ·split
  ·split
   ·split
    ·exact b18
    ·exact b5i (by decide)
   ·exact b5i (by decide)
  ·exact d17
 ·split
  ·split
   ·exact b5i (by decide)
   ·split
    ·exact b18
    ·exact b5i (by decide)
  ·exact b5i (by decide)
theorem d45 {p : Pl} {i : In} : (a6m p i).snt := by
 unfold a6m
 split
 ·split
  ·exact b5i (by decide)
  ·exact b18
 ·exact b5i (by decide)
theorem a9v {p : Pl} {i : In} : (a1v p i).2.snt /\ 0 <= (a1v p i).1 /\ (a1v p i).1 <= 1024 := by
 have z : ∀ {g : Nat}, g < 21 -> (((0 : Int), Er.s g) : Int × Er).2.snt /\ 0 <= (((0 : Int), Er.s g) : Int × Er).1 /\ (((0 : Int), Er.s g) : Int × Er).1 <= 1024 := fun h => ⟨b5i h, by simp, by simp⟩
 unfold a1v
 split
 ·exact z (by decide)
 split
 ·exact z (by decide)
 split
 ·exact z (by decide)
 split
 ·split
  ·split
   ·exact ⟨b18, by simp, by simp⟩
   ·exact z (by decide)
  ·exact ⟨d45, by simp, by simp⟩
 ·split
  ·unfold c28
   split
   ·split
    ·exact ⟨b18, by simp; omega, by simpa using ‹_›⟩
    ·exact z (by decide)
   ·exact z (by decide)
  ·exact ⟨d5b, by simp, by simp⟩
def Around (G : GG) (bk : Nat -> Nat × Nat) : Prop := (∀ (k : Int) (g : Nat), g < 21 -> ACalls pg G a52 [li k, a0s bk (.s g)] (a0s bk (.at k (.s g)))) /\ ∀ (k q : Int) (g : Nat), g < 21 -> ACalls pg G a52 [li k, a0s bk (.at q (.s g))] (a0s bk (.at k (.s g)))
def Er.wb (e : Er) : Prop := e = .nil \/ (∃ g, g < 21 /\ e = .s g) \/ ∃ p g, g < 21 /\ e = .at p (.s g)
theorem Er.snt.wb {e : Er} (h : e.snt) : e.wb := h.elim .inl fun h => .inr (.inl h)
theorem Around.ofw {G : GG} {bk : Nat -> Nat × Nat} (h : Around G bk) {e : Er} (he : e.wb) (hn : e.isNil = false) (k : Int) : ACalls pg G a52 [li k, a0s bk e] (a0s bk (atE k e)) := by
 rcases he with rfl | ⟨g, hg, rfl⟩ | ⟨q, g, hg, rfl⟩
 ·simp [Er.isNil] at hn
 ·exact h.1 k g hg
 ·exact h.2 k q g hg
theorem Around.of {G : GG} {bk : Nat -> Nat × Nat} (h : Around G bk) {e : Er} (he : e.snt) (hn : e.isNil = false) (k : Int) : ACalls pg G a52 [li k, a0s bk e] (a0s bk (atE k e)) := h.ofw he.wb hn k
theorem d3d (hS : Sent G bk) (hA : Around G bk) {p : Pl} (hp : PlB p) (hi : ∀ i ∈ p.code, InB p i)
  (h : st.s 1 = .var (eP p) /\ st.s 12 = slJ p.code /\ st.s 13 = li p.code.length /\ st.s 14 = li 0)
  (hbad : (a04 (fun i => (a1v p i).2) p.code 0).isNil = false -> ∀ s, s.s 2 = a0s bk (a04 (fun i => (a1v p i).2) p.code 0) -> Q .ret s)
  (hex : a04 (fun i => (a1v p i).2) p.code 0 = .nil -> ∀ s, Q (.exit 0) s) : AW pg G 26 (.loop a55) Q st := by
 have hlc := hp.code
 refine a08 Nat (fun j st => j <= p.code.length /\ a04 (fun i => (a1v p i).2) p.code 0 = a04 (fun i => (a1v p i).2) (p.code.drop j) j /\ st.s 1 = .var (eP p) /\ st.s 12 = slJ p.code /\ st.s 13 = li p.code.length /\ st.s 14 = li j) (fun j => p.code.length - j) 0 ⟨by omega, rfl, h⟩ ?_
 clear h
 rintro j st K ⟨hj, hm, h⟩ hK
 by_cases hlt : j < p.code.length
 ·rw [List.drop_eq_getElem_cons hlt, a04] at hm
  simp (disch := omega) [go_sem, a55, h, hlt]
  refine a0e (d1i hS hp hi j hlt) (a0m _) (by simp (disch := omega) [go_sem, h]) ?_
  have hsn := (a9v (p := p) (i := p.code[j])).1
  generalize (a1v p p.code[j]).2 = e at *
  cases he : e.isNil
  ·rw [he, if_neg (by simp)] at hm
   simp (disch := omega) [go_sem, h, he]
   refine a0e (hA.of hsn he j) (a0m _) (by simp (disch := omega) [go_sem, h]) ?_
   simp (disch := omega) [go_sem, h]
   have hn : (atE (j : Int) e).isNil = false := by
    rcases hsn with rfl | ⟨g, -, rfl⟩
    ·simp [Er.isNil] at he
    ·rfl
   exact hbad (by rw [hm]; exact hn) _ (by simp (disch := omega) [go_sem, h, hm])
  ·rw [he, if_pos rfl] at hm
   simp (disch := omega) [go_sem, h, he]
   refine hK (j + 1) _ ⟨by omega, by rw [hm]; rfl, by simp (disch := omega) [go_sem, h]⟩ (by omega)
 ·obtain rfl : j = p.code.length := by omega
  rw [List.drop_length, a04] at hm
  simp (disch := omega) [go_sem, a55, h]
  exact hex hm _
theorem b07 {k : Int} {e : Er} : (atE k e).isNil = e.isNil := by cases e <;> rfl
theorem b50 {α : Type} {f : α -> Er} : ∀ {xs : List α} {k : Int}, (a04 f xs k).isNil = true -> ∀ x ∈ xs, (f x).isNil = true
 | [], _, _, x, hx => by simp at hx
 | y :: ys, k, h, x, hx => by
  simp only [a04] at h
  cases hy : (f y).isNil
  ·rw [hy, if_neg (by simp), b07, hy] at h; cases h
  ·rw [hy, if_pos rfl] at h
   rcases List.mem_cons.1 hx with rfl | hx
   ·exact hy
   ·exact b50 h x hx
theorem c6q {a b : Er} (h : (orE a b).isNil = true) : a.isNil = true /\ b.isNil = true := by
 unfold orE at h
 cases ha : a.isNil
 ·rw [ha, if_neg (by simp), ha] at h; cases h
 ·rw [ha, if_pos rfl] at h; exact ⟨rfl, h⟩
theorem c9j {p : Pl} (h : (a2o p).isNil = true) : p.views.length <= 128 /\ p.code.length <= 2048 /\ (0 <= p.size /\ p.size <= 65536) /\ (∀ v ∈ p.views, 0 <= v.off /\ v.off + a32 v.shape v.wide <= p.size /\ (a03 v.shape).isNil = true) := by
 unfold a2o at h
 split at h
 ·cases h
 ·split at h
  ·cases h
  ·refine ⟨by omega, by omega, by omega, fun v hv => ?_⟩
   have h1 := b50 (c6q h).1 v hv
   unfold b0x at h1
   split at h1
   ·split at h1
    ·exact ⟨by omega, by omega, by assumption⟩
    ·cases h1
   ·rename_i hn; exact absurd h1 hn
theorem PlL.b {p : Pl} (h : PlL p) (hP : (a2o p).isNil = true) : PlB p := by
 have hf := c9j hP
 refine ⟨h.views, h.consts, h.weights, h.code, fun v hv => ⟨h.v v hv, ?_⟩, h.c, h.w⟩
 have := hf.2.2.2 v hv
 have := a5v v.shape v.wide
 omega
theorem e0d (hS : Sent G bk) (hA : Around G bk) {p : Pl} (hp : PlL p) (hi : ∀ i ∈ p.code, InB p i) (hP : ACalls pg G b3w [.agg (eP p)] (a0s bk (a2o p))) : ACalls pg G a9r [.agg (eP p)] (a0s bk (a5t p)) := by
 have hlc := hp.code
 refine b7f rfl ?_
 simp (disch := omega) [go_sem, b4i]
 refine a0e hP (a0m _) (by simp (disch := omega) [go_sem]) ?_
 unfold a5t orE
 cases he : (a2o p).isNil
 ·simp (disch := omega) [go_sem, he]
 ·simp (disch := omega) [go_sem, he]
  refine d3d hS hA (hp.b he) hi (by simp (disch := omega) [go_sem]) (fun hn s h => ?_) (fun hn s => ?_)
  ·simp (disch := omega) [go_sem, h]
  ·rw [hn]
   simp (disch := omega) [go_sem, a0s]
theorem d56 (hS : Sent G bk) {p : Pl} (hp : PlB p) (hi : ∀ i ∈ p.code, InB p i)
  (h : st.s 1 = .var (eP p) /\ st.s 5 = li 0 /\ st.s 15 = slJ p.code /\ st.s 16 = li p.code.length /\ st.s 17 = li 0)
  (hex : ∀ s, s.s 5 = li (b61 p) -> Q (.exit 0) s) : AW pg G 31 (.loop a54) Q st := by
 have hlc := hp.code
 refine a08 (Nat × Int) (fun q st => q.1 <= p.code.length /\ (0 <= q.2 /\ q.2 <= q.1 * 1024) /\ b61 p = q.2 + ((p.code.drop q.1).map fun i => (a1v p i).1).sum /\ st.s 1 = .var (eP p) /\ st.s 5 = li q.2 /\ st.s 15 = slJ p.code /\ st.s 16 = li p.code.length /\ st.s 17 = li q.1) (fun q => p.code.length - q.1) (0, 0) ⟨by simp, by simp, by simp [b61], h⟩ ?_
 clear h
 rintro ⟨j, u⟩ st K ⟨hj, hu, hm, h⟩ hK
 simp only at hj hu hm h
 by_cases hlt : j < p.code.length
 ·rw [List.drop_eq_getElem_cons hlt, List.map_cons, List.sum_cons] at hm
  have hr := (a9v (p := p) (i := p.code[j])).2
  simp (disch := omega) [go_sem, a54, h, hlt]
  refine a0e (d0t hS hp hi j hlt) (by simp [go_sem, a0k]) (by simp (disch := omega) [go_sem, h]) ?_
  generalize a1v p p.code[j] = e at *
  simp (disch := omega) [go_sem, h]
  refine hK (j + 1, u + e.1) _ ⟨by simp only; omega, by simp only; omega, by simp only; omega, by simp (disch := omega) [go_sem, h]⟩ (by simp only; omega)
 ·obtain rfl : j = p.code.length := by omega
  rw [List.drop_length, List.map_nil, List.sum_nil, Int.add_zero] at hm
  simp (disch := omega) [go_sem, a54, h]
  exact hex _ (by simp (disch := omega) [go_sem, h, hm])
theorem e0a (hS : Sent G bk) {p : Pl} (hp : PlL p) (hi : ∀ i ∈ p.code, InB p i) (hV : ACalls pg G a9r [.agg (eP p)] (a0s bk (a5t p))) : ACalls pg G b3v [.agg (eP p)] (.tup [li (if (a5t p).isNil = true then b61 p else 0), a0s bk (a5t p)]) := by
 have hlc := hp.code
 refine b7e rfl ?_
 simp (disch := omega) [go_sem, b4h]
 refine a0e hV (a0m _) (by simp (disch := omega) [go_sem]) ?_
 cases he : (a5t p).isNil
 ·simp (disch := omega) [go_sem, he]
 ·simp (disch := omega) [go_sem, he]
  refine d56 hS (hp.b (c6q he).1) hi (by simp (disch := omega) [go_sem]) (fun s h => ?_)
  rw [a48.1 he]
  simp (disch := omega) [go_sem, h, a0s]
end
end Go.Ideal.Tryz
end
