/- Part Qbh of the proof: a machine with trees for values, its soundness, and walks on it. -/
import Derived.Test.YtfncabcldhemkaaDoorQbg
import Derived.Test.YtfncabcldhemkaaDoorQaq
section
set_option linter.unusedVariables false
set_option linter.unusedSimpArgs false
set_option maxRecDepth 200000
namespace Go.Ideal.Tryd
attribute [local go_sem] eD eT eV eI eP
section
variable {G : GG} {bk : Nat → Nat × Nat} {Q : Exit → St → Prop} {st : St}
def inV (v : Vw) (i : Int) : Bool := decide (v.off ≤ i) && decide (i < v.off + a05 v.shape v.wide)
set_option maxHeartbeats 8000000 in
theorem h0p {x y : Vw} (hx : x.shape.length < 2 ^ 40) (hy : y.shape.length < 2 ^ 40) (ox : 0 ≤ x.off ∧ x.off < 300) (oy : 0 ≤ y.off ∧ y.off < 300) (sx : 1 ≤ a05 x.shape x.wide ∧ a05 x.shape x.wide ≤ 240) (sy : 1 ≤ a05 y.shape y.wide ∧ a05 y.shape y.wide ≤ 240)
    (h : st.s 13 = lb true ∧ st.s 14 = .var (eV x) ∧ st.s 15 = .var (eV y) ∧ st.s 16 = lb false ∧ st.s 17 = li 0)
    (hex : ∀ s, s.s 13 = lb true ∧ s.s 14 = .var (eV x) ∧ s.s 15 = .var (eV y) ∧ s.s 16 = lb (!a3j x y) → Q (.exit 0) s) : AW pg G 103 (.loop a1u) Q st := by
  have key : ∀ i : Nat, i = 700 → decide (max x.off y.off < min (min (x.off + a05 x.shape x.wide) (y.off + a05 y.shape y.wide)) i) = !a3j x y := by
    intro i hi
    unfold a3j
    by_cases c1 : x.off + a05 x.shape x.wide ≤ y.off
    · rw [decide_eq_true c1, decide_eq_false (by omega)]; rfl
    · by_cases c2 : y.off + a05 y.shape y.wide ≤ x.off
      · rw [decide_eq_true c2, decide_eq_false (by omega), Bool.or_true]; rfl
      · rw [decide_eq_false c1, decide_eq_false c2, decide_eq_true (by omega)]; rfl
  refine a1g Nat (fun i st => i ≤ 700 ∧ st.s 13 = lb true ∧ st.s 14 = .var (eV x) ∧ st.s 15 = .var (eV y) ∧ st.s 16 = lb (decide (max x.off y.off < min (min (x.off + a05 x.shape x.wide) (y.off + a05 y.shape y.wide)) i)) ∧ st.s 17 = li i) (fun i => 700 - i) 0 ⟨by omega, by rw [decide_eq_false (by omega)]; exact h⟩ ?_
  clear h
  rintro i st K ⟨hi, h⟩ hK
  by_cases hlt : i < 700
  · have hlt' : (i : Int) < 700 := by omega
    have step : ∀ b : Bool, b = (inV x i && inV y i) → (decide (max x.off y.off < min (min (x.off + a05 x.shape x.wide) (y.off + a05 y.shape y.wide)) i) || b) = decide (max x.off y.off < min (min (x.off + a05 x.shape x.wide) (y.off + a05 y.shape y.wide)) ((i + 1 : Nat) : Int)) := by
      rintro b rfl
      unfold inV
      rw [← Bool.decide_and, ← Bool.decide_and, ← Bool.decide_and, ← Bool.decide_or]
      exact decide_eq_decide.2 (by omega)
    generalize decide (max x.off y.off < min (min (x.off + a05 x.shape x.wide) (y.off + a05 y.shape y.wide)) i) = bt at *
    simp (disch := omega) [go_sem, a1u, h, hlt']
    by_cases c1 : x.off ≤ i
    · by_cases d1 : (i : Int) < x.off + a05 x.shape x.wide
      ·
        by_cases c2 : y.off ≤ i
        · by_cases d2 : (i : Int) < y.off + a05 y.shape y.wide
          ·
            refine a0b ?_
            simp (disch := omega) [go_sem, h, c1, d1]
            refine a0p (a9u x.shape x.wide (by omega)) rfl rfl (by simp (disch := omega) [go_sem, a0k, a19]) [55] (by simp) (by simp (disch := omega) [go_sem, h, c1, d1]) ?_
            simp (disch := omega) [go_sem, h, c1, d1, a0k, a19]
            refine a0c (by decide) fun s2 hs2 he2 => ?_
            simp (disch := omega) [go_sem, hs2, h, c1, d1]
            refine a0b ?_
            simp (disch := omega) [go_sem, hs2, h, c2, d2]
            refine a0p (a9u y.shape y.wide (by omega)) rfl rfl (by simp (disch := omega) [go_sem, a0k, a19]) [69] (by simp) (by simp (disch := omega) [go_sem, hs2, h, c2, d2]) ?_
            simp (disch := omega) [go_sem, hs2, h, c2, d2, a0k, a19]
            refine a0c (by decide) fun s3 hs3 he3 => ?_
            have e := step true (by simp [inV, c1, d1, c2, d2])
            cases bt
            ·
              simp (disch := omega) [go_sem, hs3, hs2, h, c1, d1, c2, d2]
              refine hK (i + 1) _ ⟨by omega, ?_⟩ (by omega)
              rw [← e]
              simp (disch := omega) [go_sem, hs3, hs2, h, c1, d1, c2, d2]
            ·
              simp (disch := omega) [go_sem, hs3, hs2, h, c1, d1, c2, d2]
              refine hK (i + 1) _ ⟨by omega, ?_⟩ (by omega)
              rw [← e]
              simp (disch := omega) [go_sem, hs3, hs2, h, c1, d1, c2, d2]
          ·
            refine a0b ?_
            simp (disch := omega) [go_sem, h, c1, d1]
            refine a0p (a9u x.shape x.wide (by omega)) rfl rfl (by simp (disch := omega) [go_sem, a0k, a19]) [55] (by simp) (by simp (disch := omega) [go_sem, h, c1, d1]) ?_
            simp (disch := omega) [go_sem, h, c1, d1, a0k, a19]
            refine a0c (by decide) fun s2 hs2 he2 => ?_
            simp (disch := omega) [go_sem, hs2, h, c1, d1]
            refine a0b ?_
            simp (disch := omega) [go_sem, hs2, h, c2, d2]
            refine a0p (a9u y.shape y.wide (by omega)) rfl rfl (by simp (disch := omega) [go_sem, a0k, a19]) [69] (by simp) (by simp (disch := omega) [go_sem, hs2, h, c2, d2]) ?_
            simp (disch := omega) [go_sem, hs2, h, c2, d2, a0k, a19]
            refine a0c (by decide) fun s3 hs3 he3 => ?_
            have e := step false (by simp [inV, c1, d1, c2, d2])
            cases bt
            ·
              simp (disch := omega) [go_sem, hs3, hs2, h, c1, d1, c2, d2]
              refine hK (i + 1) _ ⟨by omega, ?_⟩ (by omega)
              rw [← e]
              simp (disch := omega) [go_sem, hs3, hs2, h, c1, d1, c2, d2]
            ·
              simp (disch := omega) [go_sem, hs3, hs2, h, c1, d1, c2, d2]
              refine hK (i + 1) _ ⟨by omega, ?_⟩ (by omega)
              rw [← e]
              simp (disch := omega) [go_sem, hs3, hs2, h, c1, d1, c2, d2]
        ·
          refine a0b ?_
          simp (disch := omega) [go_sem, h, c1, d1]
          refine a0p (a9u x.shape x.wide (by omega)) rfl rfl (by simp (disch := omega) [go_sem, a0k, a19]) [55] (by simp) (by simp (disch := omega) [go_sem, h, c1, d1]) ?_
          simp (disch := omega) [go_sem, h, c1, d1, a0k, a19]
          refine a0c (by decide) fun s2 hs2 he2 => ?_
          simp (disch := omega) [go_sem, hs2, h, c1, d1]
          refine a0b ?_
          simp (disch := omega) [go_sem, hs2, h, c2]
          refine a0c (by decide) fun s3 hs3 he3 => ?_
          have e := step false (by simp [inV, c1, d1, c2])
          cases bt
          ·
            simp (disch := omega) [go_sem, hs3, hs2, h, c1, d1, c2]
            refine hK (i + 1) _ ⟨by omega, ?_⟩ (by omega)
            rw [← e]
            simp (disch := omega) [go_sem, hs3, hs2, h, c1, d1, c2]
          ·
            simp (disch := omega) [go_sem, hs3, hs2, h, c1, d1, c2]
            refine hK (i + 1) _ ⟨by omega, ?_⟩ (by omega)
            rw [← e]
            simp (disch := omega) [go_sem, hs3, hs2, h, c1, d1, c2]
      ·
        by_cases c2 : y.off ≤ i
        · by_cases d2 : (i : Int) < y.off + a05 y.shape y.wide
          ·
            refine a0b ?_
            simp (disch := omega) [go_sem, h, c1, d1]
            refine a0p (a9u x.shape x.wide (by omega)) rfl rfl (by simp (disch := omega) [go_sem, a0k, a19]) [55] (by simp) (by simp (disch := omega) [go_sem, h, c1, d1]) ?_
            simp (disch := omega) [go_sem, h, c1, d1, a0k, a19]
            refine a0c (by decide) fun s2 hs2 he2 => ?_
            simp (disch := omega) [go_sem, hs2, h, c1, d1]
            refine a0b ?_
            simp (disch := omega) [go_sem, hs2, h, c2, d2]
            refine a0p (a9u y.shape y.wide (by omega)) rfl rfl (by simp (disch := omega) [go_sem, a0k, a19]) [69] (by simp) (by simp (disch := omega) [go_sem, hs2, h, c2, d2]) ?_
            simp (disch := omega) [go_sem, hs2, h, c2, d2, a0k, a19]
            refine a0c (by decide) fun s3 hs3 he3 => ?_
            have e := step false (by simp [inV, c1, d1, c2, d2])
            cases bt
            ·
              simp (disch := omega) [go_sem, hs3, hs2, h, c1, d1, c2, d2]
              refine hK (i + 1) _ ⟨by omega, ?_⟩ (by omega)
              rw [← e]
              simp (disch := omega) [go_sem, hs3, hs2, h, c1, d1, c2, d2]
            ·
              simp (disch := omega) [go_sem, hs3, hs2, h, c1, d1, c2, d2]
              refine hK (i + 1) _ ⟨by omega, ?_⟩ (by omega)
              rw [← e]
              simp (disch := omega) [go_sem, hs3, hs2, h, c1, d1, c2, d2]
          ·
            refine a0b ?_
            simp (disch := omega) [go_sem, h, c1, d1]
            refine a0p (a9u x.shape x.wide (by omega)) rfl rfl (by simp (disch := omega) [go_sem, a0k, a19]) [55] (by simp) (by simp (disch := omega) [go_sem, h, c1, d1]) ?_
            simp (disch := omega) [go_sem, h, c1, d1, a0k, a19]
            refine a0c (by decide) fun s2 hs2 he2 => ?_
            simp (disch := omega) [go_sem, hs2, h, c1, d1]
            refine a0b ?_
            simp (disch := omega) [go_sem, hs2, h, c2, d2]
            refine a0p (a9u y.shape y.wide (by omega)) rfl rfl (by simp (disch := omega) [go_sem, a0k, a19]) [69] (by simp) (by simp (disch := omega) [go_sem, hs2, h, c2, d2]) ?_
            simp (disch := omega) [go_sem, hs2, h, c2, d2, a0k, a19]
            refine a0c (by decide) fun s3 hs3 he3 => ?_
            have e := step false (by simp [inV, c1, d1, c2, d2])
            cases bt
            ·
              simp (disch := omega) [go_sem, hs3, hs2, h, c1, d1, c2, d2]
              refine hK (i + 1) _ ⟨by omega, ?_⟩ (by omega)
              rw [← e]
              simp (disch := omega) [go_sem, hs3, hs2, h, c1, d1, c2, d2]
            ·
              simp (disch := omega) [go_sem, hs3, hs2, h, c1, d1, c2, d2]
              refine hK (i + 1) _ ⟨by omega, ?_⟩ (by omega)
              rw [← e]
              simp (disch := omega) [go_sem, hs3, hs2, h, c1, d1, c2, d2]
        ·
          refine a0b ?_
          simp (disch := omega) [go_sem, h, c1, d1]
          refine a0p (a9u x.shape x.wide (by omega)) rfl rfl (by simp (disch := omega) [go_sem, a0k, a19]) [55] (by simp) (by simp (disch := omega) [go_sem, h, c1, d1]) ?_
          simp (disch := omega) [go_sem, h, c1, d1, a0k, a19]
          refine a0c (by decide) fun s2 hs2 he2 => ?_
          simp (disch := omega) [go_sem, hs2, h, c1, d1]
          refine a0b ?_
          simp (disch := omega) [go_sem, hs2, h, c2]
          refine a0c (by decide) fun s3 hs3 he3 => ?_
          have e := step false (by simp [inV, c1, d1, c2])
          cases bt
          ·
            simp (disch := omega) [go_sem, hs3, hs2, h, c1, d1, c2]
            refine hK (i + 1) _ ⟨by omega, ?_⟩ (by omega)
            rw [← e]
            simp (disch := omega) [go_sem, hs3, hs2, h, c1, d1, c2]
          ·
            simp (disch := omega) [go_sem, hs3, hs2, h, c1, d1, c2]
            refine hK (i + 1) _ ⟨by omega, ?_⟩ (by omega)
            rw [← e]
            simp (disch := omega) [go_sem, hs3, hs2, h, c1, d1, c2]
    ·
      by_cases c2 : y.off ≤ i
      · by_cases d2 : (i : Int) < y.off + a05 y.shape y.wide
        ·
          refine a0b ?_
          simp (disch := omega) [go_sem, h, c1]
          refine a0c (by decide) fun s2 hs2 he2 => ?_
          simp (disch := omega) [go_sem, hs2, h, c1]
          refine a0b ?_
          simp (disch := omega) [go_sem, hs2, h, c2, d2]
          refine a0p (a9u y.shape y.wide (by omega)) rfl rfl (by simp (disch := omega) [go_sem, a0k, a19]) [69] (by simp) (by simp (disch := omega) [go_sem, hs2, h, c2, d2]) ?_
          simp (disch := omega) [go_sem, hs2, h, c2, d2, a0k, a19]
          refine a0c (by decide) fun s3 hs3 he3 => ?_
          have e := step false (by simp [inV, c1, c2, d2])
          cases bt
          ·
            simp (disch := omega) [go_sem, hs3, hs2, h, c1, c2, d2]
            refine hK (i + 1) _ ⟨by omega, ?_⟩ (by omega)
            rw [← e]
            simp (disch := omega) [go_sem, hs3, hs2, h, c1, c2, d2]
          ·
            simp (disch := omega) [go_sem, hs3, hs2, h, c1, c2, d2]
            refine hK (i + 1) _ ⟨by omega, ?_⟩ (by omega)
            rw [← e]
            simp (disch := omega) [go_sem, hs3, hs2, h, c1, c2, d2]
        ·
          refine a0b ?_
          simp (disch := omega) [go_sem, h, c1]
          refine a0c (by decide) fun s2 hs2 he2 => ?_
          simp (disch := omega) [go_sem, hs2, h, c1]
          refine a0b ?_
          simp (disch := omega) [go_sem, hs2, h, c2, d2]
          refine a0p (a9u y.shape y.wide (by omega)) rfl rfl (by simp (disch := omega) [go_sem, a0k, a19]) [69] (by simp) (by simp (disch := omega) [go_sem, hs2, h, c2, d2]) ?_
          simp (disch := omega) [go_sem, hs2, h, c2, d2, a0k, a19]
          refine a0c (by decide) fun s3 hs3 he3 => ?_
          have e := step false (by simp [inV, c1, c2, d2])
          cases bt
          ·
            simp (disch := omega) [go_sem, hs3, hs2, h, c1, c2, d2]
            refine hK (i + 1) _ ⟨by omega, ?_⟩ (by omega)
            rw [← e]
            simp (disch := omega) [go_sem, hs3, hs2, h, c1, c2, d2]
          ·
            simp (disch := omega) [go_sem, hs3, hs2, h, c1, c2, d2]
            refine hK (i + 1) _ ⟨by omega, ?_⟩ (by omega)
            rw [← e]
            simp (disch := omega) [go_sem, hs3, hs2, h, c1, c2, d2]
      ·
        refine a0b ?_
        simp (disch := omega) [go_sem, h, c1]
        refine a0c (by decide) fun s2 hs2 he2 => ?_
        simp (disch := omega) [go_sem, hs2, h, c1]
        refine a0b ?_
        simp (disch := omega) [go_sem, hs2, h, c2]
        refine a0c (by decide) fun s3 hs3 he3 => ?_
        have e := step false (by simp [inV, c1, c2])
        cases bt
        ·
          simp (disch := omega) [go_sem, hs3, hs2, h, c1, c2]
          refine hK (i + 1) _ ⟨by omega, ?_⟩ (by omega)
          rw [← e]
          simp (disch := omega) [go_sem, hs3, hs2, h, c1, c2]
        ·
          simp (disch := omega) [go_sem, hs3, hs2, h, c1, c2]
          refine hK (i + 1) _ ⟨by omega, ?_⟩ (by omega)
          rw [← e]
          simp (disch := omega) [go_sem, hs3, hs2, h, c1, c2]
  · obtain rfl : i = 700 := by omega
    simp (disch := omega) [go_sem, a1u, h]
    exact hex _ (by simp (disch := omega) [go_sem, h, ← key 700 rfl])
end
end Go.Ideal.Tryd
end
