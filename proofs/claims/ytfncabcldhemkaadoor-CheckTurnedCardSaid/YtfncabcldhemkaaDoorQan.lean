/- Part Qan of the proof: a machine with trees for values, its soundness, and walks on it. -/
import Derived.Test.YtfncabcldhemkaaDoorQam
section
set_option linter.unusedVariables false
set_option linter.unusedSimpArgs false
set_option maxRecDepth 10000
namespace Go.Ideal.Tryd
attribute [local go_sem] eD eT eV
section
variable {G : GG} {bk : Nat → Nat × Nat} {Q : Exit → St → Prop} {st : St}
theorem f7w (hS : Sent G bk) (a : Ds) (ha : a.shape.length < 2 ^ 62) : ACalls pg G e5d [.agg (eD a)] (d36 bk (d2h a)) := by
  have h7 := hS.val 7 (by decide)
  by_cases he : a03 a.shape = .nil
  · by_cases c1 : a.shape.length = 2
    · obtain ⟨ash, aw⟩ := a
      obtain ⟨x, y, rfl⟩ := b6r c1
      have hr : d2h ⟨[x, y], aw⟩ = (⟨[y, x], aw⟩, .nil) := by simp [d2h, chk, he, Er.isNil]
      rw [hr]
      refine ACalls.shown (res := .tup [.agg [owI [y, x], lb aw], .lit .nilIface]) ?_ rfl
      refine b19 rfl ?_
      simp (disch := omega) [go_sem, b44]
      refine a0f (a04 hS.five.three [x, y] aw (by simp)) (a0h _) (by simp (disch := omega) [go_sem]) ?_
      simp (disch := omega) [go_sem, he, Er.isNil]
      refine a0b ?_
      simp (disch := omega) [go_sem]
      refine a0c (by decide) fun s2 hs2 hes2 => ?_
      simp (disch := omega) [go_sem, hs2]
    · have c1' : ¬ (a.shape.length : Int) = 2 := by omega
      have hr : d2h a = (dn, .s 6) := by simp only [d2h, chk, he, Er.isNil, if_true, c1, if_false]; rfl
      rw [hr]
      refine b19 rfl ?_
      simp (disch := omega) [go_sem, b44]
      refine a0f (a04 hS.five.three a.shape a.wide ha) (a0h _) (by simp (disch := omega) [go_sem]) ?_
      simp (disch := omega) [go_sem, he, Er.isNil, c1']
      refine a0b ?_
      simp (disch := omega) [go_sem, h7, dn, a0m]
      refine a0c (by decide) fun s2 hs2 hes2 => ?_
      simp (disch := omega) [go_sem, hs2, h7, dn, a0m]
  · have he' := a3m he
    have hr : d2h a = (dn, a03 a.shape) := by simp only [d2h, chk, he']; rfl
    rw [hr]
    refine b19 rfl ?_
    simp (disch := omega) [go_sem, b44]
    refine a0f (a04 hS.five.three a.shape a.wide ha) (a0h _) (by simp (disch := omega) [go_sem]) ?_
    simp (disch := omega) [go_sem, he', dn]
end
end Go.Ideal.Tryd
end
