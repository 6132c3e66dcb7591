/- Part Qbf of the proof: a machine with trees for values, its soundness, and walks on it. -/
import Derived.Test.YtfncabcldhemkaaGreatDoorQbe
import Derived.Test.YtfncabcldhemkaaGreatDoorQag
import Derived.Test.YtfncabcldhemkaaGreatDoorQan
set_option linter.unusedVariables false
set_option linter.unusedSimpArgs false
set_option maxHeartbeats 4000000
set_option maxRecDepth 200000
section
namespace Go.Ideal.Tryz
attribute [local go_sem] eD eT eV eI eP
section
variable {G : GG} {bk : Nat -> Nat × Nat} {Q : Exit -> St -> Prop} {st : St}
theorem d6a {n : Int} {v : Vw} : (b0x n v).snt := by
 unfold b0x
 split
 ·split
  ·exact b18
  ·exact b5i (by decide)
 ·exact c4j _
theorem c5j {k : Int} {e : Er} (hs : e.wb) (he : e.isNil = false) : (atE k e).isNil = false := by
 rcases hs with rfl | ⟨g, -, rfl⟩ | ⟨q, g, -, rfl⟩
 ·simp [Er.isNil] at he
 ·rfl
 ·rfl
theorem d5h (hS : Sent G bk) (hA : Around G bk) {p : Pl} (hp : PlL p) (hz : 0 <= p.size /\ p.size <= 65536)
  (h : st.s 1 = .var (eP p) /\ st.s 45 = slV p.views /\ st.s 46 = li p.views.length /\ st.s 47 = li 0)
  (hbad : (a04 (b0x p.size) p.views 0).isNil = false -> ∀ s, s.s 2 = a0s bk (a04 (b0x p.size) p.views 0) -> Q .ret s)
  (hex : a04 (b0x p.size) p.views 0 = .nil -> ∀ s, s.s 1 = .var (eP p) -> Q (.exit 0) s) : AW pg G 132 (.loop a57) Q st := by
 have hlv := hp.views
 have hlc := hp.consts
 have hlw := hp.weights
 have h3 := hS.val 3 (by decide)
 refine a08 Nat (fun j st => j <= p.views.length /\ a04 (b0x p.size) p.views 0 = a04 (b0x p.size) (p.views.drop j) j /\ st.s 1 = .var (eP p) /\ st.s 45 = slV p.views /\ st.s 46 = li p.views.length /\ st.s 47 = li j) (fun j => p.views.length - j) 0 ⟨by omega, rfl, h⟩ ?_
 clear h
 rintro j st K ⟨hj, hm, h⟩ hK
 by_cases hlt : j < p.views.length
 ·rw [List.drop_eq_getElem_cons hlt, a04] at hm
  simp (disch := omega) [go_sem, a57, h, hlt]
  have hb := hp.v _ (List.getElem_mem hlt)
  have rb := a5v p.views[j].shape p.views[j].wide
  have hsn : (a03 p.views[j].shape).wb := (c4j _).wb
  refine a0e (a1l hS.five.three p.views[j].shape p.views[j].wide (by omega)) (a0m _) (by simp (disch := omega) [go_sem, h]) ?_
  simp only [b0x] at hm
  cases he : (a03 p.views[j].shape).isNil
  ·simp only [he, Bool.false_eq_true, if_false] at hm
   simp (disch := omega) [go_sem, h, he]
   refine a0c ?_
   simp (disch := omega) [go_sem, h, he]
   refine a0d (by decide) fun s2 hs2 he2 => ?_
   simp (disch := omega) [go_sem, hs2, h, he]
   refine a0e (hA.ofw hsn he j) (a0m _) (by simp (disch := omega) [go_sem, hs2, h]) ?_
   simp (disch := omega) [go_sem, hs2, h]
   exact hbad (by rw [hm]; exact c5j hsn he) _ (by simp (disch := omega) [go_sem, hs2, h, hm])
  ·simp only [he, if_true] at hm
   simp (disch := omega) [go_sem, h, he]
   by_cases c1 : p.views[j].off < 0
   ·
    have cN : ¬ (0 <= p.views[j].off /\ p.views[j].off <= p.size /\ a32 p.views[j].shape p.views[j].wide <= p.size - p.views[j].off) := by omega
    rw [if_neg cN, if_neg (by simp [Er.isNil])] at hm
    refine a0c ?_
    simp (disch := omega) [go_sem, h, he, c1]
    refine a0d (by decide) fun s2 hs2 he2 => ?_
    simp (disch := omega) [go_sem, hs2, h, h3, he, c1]
    refine a0e (hA.1 j 3 (by decide)) (a0m _) (by simp (disch := omega) [go_sem, hs2, h]) ?_
    simp (disch := omega) [go_sem, hs2, h]
    exact hbad (by rw [hm]; rfl) _ (by simp (disch := omega) [go_sem, hs2, h, hm, atE])
   by_cases c2 : p.size < p.views[j].off
   ·
    have cN : ¬ (0 <= p.views[j].off /\ p.views[j].off <= p.size /\ a32 p.views[j].shape p.views[j].wide <= p.size - p.views[j].off) := by omega
    rw [if_neg cN, if_neg (by simp [Er.isNil])] at hm
    refine a0c ?_
    simp (disch := omega) [go_sem, h, he, c1, c2]
    refine a0d (by decide) fun s2 hs2 he2 => ?_
    simp (disch := omega) [go_sem, hs2, h, h3, he, c1, c2]
    refine a0e (hA.1 j 3 (by decide)) (a0m _) (by simp (disch := omega) [go_sem, hs2, h]) ?_
    simp (disch := omega) [go_sem, hs2, h]
    exact hbad (by rw [hm]; rfl) _ (by simp (disch := omega) [go_sem, hs2, h, hm, atE])
   by_cases c3 : p.size - p.views[j].off < a32 p.views[j].shape p.views[j].wide
   ·
    have cN : ¬ (0 <= p.views[j].off /\ p.views[j].off <= p.size /\ a32 p.views[j].shape p.views[j].wide <= p.size - p.views[j].off) := by omega
    rw [if_neg cN, if_neg (by simp [Er.isNil])] at hm
    refine a0c ?_
    simp (disch := omega) [go_sem, h, he, c1, c2, c3]
    refine a0i (b7t hS.five.three p.views[j].shape p.views[j].wide (by omega)) rfl rfl (by simp (disch := omega) [go_sem, a0f, a1a]) [71] (by simp) (by simp (disch := omega) [go_sem, h]) ?_
    simp (disch := omega) [go_sem, h, a0f, a1a, he, c1, c2, c3]
    refine a0d (by decide) fun s2 hs2 he2 => ?_
    simp (disch := omega) [go_sem, hs2, h, h3, he, c1, c2, c3]
    refine a0e (hA.1 j 3 (by decide)) (a0m _) (by simp (disch := omega) [go_sem, hs2, h]) ?_
    simp (disch := omega) [go_sem, hs2, h]
    exact hbad (by rw [hm]; rfl) _ (by simp (disch := omega) [go_sem, hs2, h, hm, atE])
   have cP : 0 <= p.views[j].off /\ p.views[j].off <= p.size /\ a32 p.views[j].shape p.views[j].wide <= p.size - p.views[j].off := by omega
   rw [if_pos cP, if_pos (show Er.nil.isNil = true from rfl)] at hm
   refine a0c ?_
   simp (disch := omega) [go_sem, h, he, c1, c2, c3]
   refine a0i (b7t hS.five.three p.views[j].shape p.views[j].wide (by omega)) rfl rfl (by simp (disch := omega) [go_sem, a0f, a1a]) [71] (by simp) (by simp (disch := omega) [go_sem, h]) ?_
   simp (disch := omega) [go_sem, h, a0f, a1a, he, c1, c2, c3]
   refine a0d (by decide) fun s2 hs2 he2 => ?_
   simp (disch := omega) [go_sem, hs2, h, he, c1, c2, c3]
   refine hK (j + 1) _ ⟨by omega, by rw [hm]; rfl, by simp (disch := omega) [go_sem, hs2, h]⟩ (by omega)
 ·obtain rfl : j = p.views.length := by omega
  rw [List.drop_length, a04] at hm
  simp (disch := omega) [go_sem, a57, h]
  exact hex hm _ (by simp (disch := omega) [go_sem, h])
theorem d5i (hS : Sent G bk) (hA : Around G bk) {p : Pl} (hp : PlL p) (hz : 0 <= p.size /\ p.size <= 65536)
  (h : st.s 1 = .var (eP p) /\ st.s 88 = slT p.consts /\ st.s 89 = li p.consts.length /\ st.s 90 = li 0)
  (hbad : (a04 (tE) p.consts 0).isNil = false -> ∀ s, s.s 2 = a0s bk (a04 (tE) p.consts 0) -> Q .ret s)
  (hex : a04 (tE) p.consts 0 = .nil -> ∀ s, s.s 1 = .var (eP p) -> Q (.exit 2) s) : AW pg G 132 (.loop a58) Q st := by
 have hlv := hp.views
 have hlc := hp.consts
 have hlw := hp.weights
 have h3 := hS.val 3 (by decide)
 refine a08 Nat (fun j st => j <= p.consts.length /\ a04 (tE) p.consts 0 = a04 (tE) (p.consts.drop j) j /\ st.s 1 = .var (eP p) /\ st.s 88 = slT p.consts /\ st.s 89 = li p.consts.length /\ st.s 90 = li j) (fun j => p.consts.length - j) 0 ⟨by omega, rfl, h⟩ ?_
 clear h
 rintro j st K ⟨hj, hm, h⟩ hK
 by_cases hlt : j < p.consts.length
 ·rw [List.drop_eq_getElem_cons hlt, a04] at hm
  simp (disch := omega) [go_sem, a58, h, hlt]
  have hb := hp.c _ (List.getElem_mem hlt)
  have hsn : (tE p.consts[j]).wb := b9d _ _ _
  refine a0e (d3a hS.five.three p.consts[j].shape p.consts[j].wide p.consts[j].data (by omega) (by omega)) (a0m _) (by simp (disch := omega) [go_sem, h]) ?_
  cases he : (tE p.consts[j]).isNil
  ·rw [he, if_neg (by simp)] at hm
   have he2 : (a95 p.consts[j].shape p.consts[j].wide p.consts[j].data).isNil = false := he
   simp (disch := omega) [go_sem, h, he2]
   refine a0e (hA.ofw (e := tE p.consts[j]) hsn he j) (a0m _) (by simp (disch := omega) [go_sem, h]) ?_
   simp (disch := omega) [go_sem, h]
   exact hbad (by rw [hm]; exact c5j hsn he) _ (by simp (disch := omega) [go_sem, h, hm])
  ·rw [he, if_pos rfl] at hm
   have he2 : (a95 p.consts[j].shape p.consts[j].wide p.consts[j].data).isNil = true := he
   simp (disch := omega) [go_sem, h, he2]
   refine hK (j + 1) _ ⟨by omega, by rw [hm]; rfl, by simp (disch := omega) [go_sem, h]⟩ (by omega)
 ·obtain rfl : j = p.consts.length := by omega
  rw [List.drop_length, a04] at hm
  simp (disch := omega) [go_sem, a58, h]
  exact hex hm _ (by simp (disch := omega) [go_sem, h])
theorem d5j (hS : Sent G bk) (hA : Around G bk) {p : Pl} (hp : PlL p) (hz : 0 <= p.size /\ p.size <= 65536)
  (h : st.s 1 = .var (eP p) /\ st.s 104 = slD p.weights /\ st.s 105 = li p.weights.length /\ st.s 106 = li 0)
  (hbad : (a04 (dE) p.weights 0).isNil = false -> ∀ s, s.s 2 = a0s bk (a04 (dE) p.weights 0) -> Q .ret s)
  (hex : a04 (dE) p.weights 0 = .nil -> ∀ s, s.s 1 = .var (eP p) -> Q (.exit 4) s) : AW pg G 132 (.loop a59) Q st := by
 have hlv := hp.views
 have hlc := hp.consts
 have hlw := hp.weights
 have h3 := hS.val 3 (by decide)
 refine a08 Nat (fun j st => j <= p.weights.length /\ a04 (dE) p.weights 0 = a04 (dE) (p.weights.drop j) j /\ st.s 1 = .var (eP p) /\ st.s 104 = slD p.weights /\ st.s 105 = li p.weights.length /\ st.s 106 = li j) (fun j => p.weights.length - j) 0 ⟨by omega, rfl, h⟩ ?_
 clear h
 rintro j st K ⟨hj, hm, h⟩ hK
 by_cases hlt : j < p.weights.length
 ·rw [List.drop_eq_getElem_cons hlt, a04] at hm
  simp (disch := omega) [go_sem, a59, h, hlt]
  have hb := hp.w _ (List.getElem_mem hlt)
  have hsn : (dE p.weights[j]).wb := (c4j _).wb
  refine a0e (a1l hS.five.three p.weights[j].shape p.weights[j].wide (by omega)) (a0m _) (by simp (disch := omega) [go_sem, h]) ?_
  cases he : (dE p.weights[j]).isNil
  ·rw [he, if_neg (by simp)] at hm
   have he2 : (a03 p.weights[j].shape).isNil = false := he
   simp (disch := omega) [go_sem, h, he2]
   refine a0e (hA.ofw (e := dE p.weights[j]) hsn he j) (a0m _) (by simp (disch := omega) [go_sem, h]) ?_
   simp (disch := omega) [go_sem, h]
   exact hbad (by rw [hm]; exact c5j hsn he) _ (by simp (disch := omega) [go_sem, h, hm])
  ·rw [he, if_pos rfl] at hm
   have he2 : (a03 p.weights[j].shape).isNil = true := he
   simp (disch := omega) [go_sem, h, he2]
   refine hK (j + 1) _ ⟨by omega, by rw [hm]; rfl, by simp (disch := omega) [go_sem, h]⟩ (by omega)
 ·obtain rfl : j = p.weights.length := by omega
  rw [List.drop_length, a04] at hm
  simp (disch := omega) [go_sem, a59, h]
  exact hex hm _ (by simp (disch := omega) [go_sem, h])
theorem d9b (hS : Sent G bk) (hA : Around G bk) {p : Pl} (hp : PlL p) : ACalls pg G b3w [.agg (eP p)] (a0s bk (a2o p)) := by
 have hlv := hp.views
 have hlc := hp.consts
 have hlw := hp.weights
 have hlk := hp.code
 have h2 := hS.val 5 (by decide)
 have h3 := hS.val 3 (by decide)
 generalize hr : a2o p = r
 rw [a2o] at hr
 refine b7h rfl ?_
 by_cases a1 : 128 < p.views.length
 ·rw [if_pos (.inl a1)] at hr
  subst hr
  have a1' : (128 : Int) < p.views.length := by omega
  simp (disch := omega) [go_sem, a21, a1', h2, a0s]
 by_cases a2 : 64 < p.consts.length
 ·rw [if_pos (.inr (.inl a2))] at hr
  subst hr
  have a1' : ¬ (128 : Int) < p.views.length := by omega
  have a2' : (64 : Int) < p.consts.length := by omega
  simp (disch := omega) [go_sem, a21, a1', a2', h2, a0s]
 by_cases a3 : 8 < p.weights.length
 ·rw [if_pos (.inr (.inr (.inl a3)))] at hr
  subst hr
  have a1' : ¬ (128 : Int) < p.views.length := by omega
  have a2' : ¬ (64 : Int) < p.consts.length := by omega
  have a3' : (8 : Int) < p.weights.length := by omega
  simp (disch := omega) [go_sem, a21, a1', a2', a3', h2, a0s]
 have a1' : ¬ (128 : Int) < p.views.length := by omega
 have a2' : ¬ (64 : Int) < p.consts.length := by omega
 have a3' : ¬ (8 : Int) < p.weights.length := by omega
 by_cases a4 : 2048 < p.code.length
 ·rw [if_pos (.inr (.inr (.inr a4)))] at hr
  subst hr
  have a4' : (2048 : Int) < p.code.length := by omega
  simp (disch := omega) [go_sem, a21, a1', a2', a3', a4', h2, a0s]
 have a4' : ¬ (2048 : Int) < p.code.length := by omega
 rw [if_neg (by omega)] at hr
 by_cases b1 : p.size < 0
 ·rw [if_pos (.inl b1)] at hr
  subst hr
  simp (disch := omega) [go_sem, a21, a1', a2', a3', a4', b1, h3, a0s]
 by_cases b2 : 65536 < p.size
 ·rw [if_pos (.inr b2)] at hr
  subst hr
  simp (disch := omega) [go_sem, a21, a1', a2', a3', a4', b1, b2, h3, a0s]
 rw [if_neg (by omega)] at hr
 simp (disch := omega) [go_sem, a21, a1', a2', a3', a4', b1, b2]
 refine d5h hS hA hp (by omega) (by simp (disch := omega) [go_sem]) (fun hn s h => ?_) (fun hn s h => ?_)
 ·rw [orE, if_neg (by simp [hn])] at hr
  rw [hr] at h
  simp (disch := omega) [go_sem, h]
 rw [hn, orE, if_pos (show Er.nil.isNil = true from rfl)] at hr
 simp (disch := omega) [go_sem, h]
 refine d5i hS hA hp (by omega) (by simp (disch := omega) [go_sem, h]) (fun hn s h => ?_) (fun hn s h => ?_)
 ·rw [orE, if_neg (by simp [hn])] at hr
  rw [hr] at h
  simp (disch := omega) [go_sem, h]
 rw [hn, orE, if_pos (show Er.nil.isNil = true from rfl)] at hr
 simp (disch := omega) [go_sem, h]
 refine d5j hS hA hp (by omega) (by simp (disch := omega) [go_sem, h]) (fun hn s h => ?_) (fun hn s h => ?_)
 ·rw [orE, if_neg (by simp [hn])] at hr
  rw [hr] at h
  simp (disch := omega) [go_sem, h]
 rw [hn, orE, if_pos (show Er.nil.isNil = true from rfl)] at hr
 simp (disch := omega) [go_sem, h]
 refine a0b (c79 p p.input (by omega)) rfl rfl ?_
 cases v1 : a14 p p.input
 ·rw [v1, Bool.false_and, if_neg (by simp)] at hr
  subst hr
  simp (disch := omega) [go_sem, h, h3, a0s]
 simp (disch := omega) [go_sem, h]
 refine a0b (c79 p p.output (by omega)) rfl rfl ?_
 cases v2 : a14 p p.output
 ·rw [v1, v2, Bool.true_and, if_neg (by simp)] at hr
  subst hr
  simp (disch := omega) [go_sem, h, h3, a0s]
 ·rw [v1, v2, Bool.true_and, if_pos rfl] at hr
  subst hr
  simp (disch := omega) [go_sem, h, a0s]
end
end Go.Ideal.Tryz
end
