/- Part Qaz of the proof: a machine with trees for values, its soundness, and walks on it. -/
import Derived.Test.YtfncabcldhemkaaDoorQak
import Derived.Test.YtfncabcldhemkaaDoorQaq
import Derived.Test.YtfncabcldhemkaaDoorQal
section
set_option linter.unusedVariables false
set_option linter.unusedSimpArgs false
set_option maxRecDepth 200000
namespace Go.Ideal.Tryd
attribute [local go_sem] eD eT eV eI eP
section
variable {G : GG} {bk : Nat → Nat × Nat} {Q : Exit → St → Prop} {st : St}
theorem a9x (sh : List Int) (w : Bool) : 0 ≤ a05 sh w ∧ a05 sh w ≤ 65536 := by
  have hbr := b2d sh
  unfold a05
  split <;> omega
theorem c0f (hS : Sent3 G bk) (a b : Vw) (ha : a.shape.length < 2 ^ 62) (hb : b.shape.length < 2 ^ 62) (ao : -4611686018427387904 ≤ a.off ∧ a.off < 4611686018427387904) (bo : -4611686018427387904 ≤ b.off ∧ b.off < 4611686018427387904) : ACalls pg G d03 [.agg (eV a), .agg (eV b)] (lb (a3j a b)) := by
  have ra := a9x a.shape a.wide
  have rb := a9x b.shape b.wide
  refine b83 rfl ?_
  simp (disch := omega) [go_sem, b5y]
  refine a0b ?_
  simp (disch := omega) [go_sem]
  refine a0p (b9o hS a.shape a.wide ha) rfl rfl (by simp (disch := omega) [go_sem, a0k, a19]) [9] (by simp) (by simp (disch := omega) [go_sem]) ?_
  by_cases c : a.off + a05 a.shape a.wide ≤ b.off
  · simp (disch := omega) [go_sem, a0k, a19, c]
    refine a0c (by decide) fun s2 hs2 he2 => ?_
    simp (disch := omega) [go_sem, hs2, a3j, c]
  · simp (disch := omega) [go_sem, a0k, a19, c]
    refine a0p (b9o hS b.shape b.wide hb) rfl rfl (by simp (disch := omega) [go_sem, a0k, a19]) [19] (by simp) (by simp (disch := omega) [go_sem]) ?_
    simp (disch := omega) [go_sem, a0k, a19, c]
    refine a0c (by decide) fun s2 hs2 he2 => ?_
    simp (disch := omega) [go_sem, hs2, a3j, c]
theorem d9e (p : Pl) (k : Int) (hp : p.views.length < 2 ^ 62) : ACalls pg G d4o [.agg (eP p), li k] (lb (a1x p k)) := by
  refine c31 rfl ?_
  by_cases c : 0 ≤ k <;> simp (disch := omega) [go_sem, b8d, a1x, c]
theorem d4h (i : In) : ACalls pg G d41 [.agg (eI i)] (lb (b84 i)) := by
  refine c1w rfl ?_
  by_cases c : i.op = 2
  · simp (disch := omega) [go_sem, a7r, b84, c]
  · by_cases c2 : i.op = 3
    · simp (disch := omega) [go_sem, a7r, b84, c2]
    · simp (disch := omega) [go_sem, a7r, b84, c, c2]
      refine a0d (b68 i.op) rfl rfl ?_
      simp (disch := omega) [go_sem]
theorem f6x {α : Type} : ∀ {l : List α}, l.length = 1 → ∃ x, l = [x]
  | [x], _ => ⟨x, rfl⟩
set_option maxHeartbeats 4000000 in
theorem g0c (hS : Sent G bk) (p : Pl) (i : In) (hp : p.code.length < 2 ^ 40) (hi : i.ins.length < 2 ^ 40) (ha : i.args.length < 2 ^ 40) : ACalls pg G d4d [.agg (eP p), .agg (eI i)] (a0m bk (c0k p i)) := by
  have h7 := hS.val 7 (by decide)
  have h9 := hS.val 9 (by decide)
  obtain ⟨op, dst, ins, args, frm, to⟩ := i
  simp only at hi ha
  refine c0d rfl ?_
  unfold c0k
  by_cases c3 : op = 23
  · subst c3
    by_cases q : args.length = 1 ∧ ins.length = 1
    · rw [if_pos (by exact q)]
      obtain ⟨x, rfl⟩ := f6x q.1
      have q2 : (ins.length : Int) = 1 := by omega
      by_cases n1 : x < 0
      · rw [if_pos (by exact ⟨by show 0 < b6v 23; decide, .inl n1⟩)]
        simp (disch := omega) [go_sem, a09, q2, n1]
        refine a0b ?_
        simp (disch := omega) [go_sem, q2, n1]
        refine a0c (by decide) fun s2 hs2 he2 => ?_
        simp (disch := omega) [go_sem, hs2, h9, a0m, q2, n1]
      · by_cases n2 : (p.code.length : Int) < x
        · rw [if_pos (by exact ⟨by show 0 < b6v 23; decide, .inr n2⟩)]
          simp (disch := omega) [go_sem, a09, q2, n1, n2]
          refine a0b ?_
          simp (disch := omega) [go_sem, q2, n1, n2]
          refine a0c (by decide) fun s2 hs2 he2 => ?_
          simp (disch := omega) [go_sem, hs2, h9, a0m, q2, n1, n2]
        · rw [if_neg (by rintro ⟨-, h | h⟩; exact n1 h; exact n2 h)]
          simp (disch := omega) [go_sem, a09, q2, n1, n2]
          refine a0b ?_
          simp (disch := omega) [go_sem, q2, n1, n2]
          refine a0c (by decide) fun s2 hs2 he2 => ?_
          simp (disch := omega) [go_sem, hs2, h9, a0m, q2, n1, n2]
    · rw [if_neg (by exact q)]
      by_cases q1 : args.length = 1
      · have q1' : (args.length : Int) = 1 := by omega
        have q2 : ¬ (ins.length : Int) = 1 := fun h => q ⟨q1, by omega⟩
        simp (disch := omega) [go_sem, a09, q1', q2, h7, a0m]
      · have q1' : ¬ (args.length : Int) = 1 := by omega
        simp (disch := omega) [go_sem, a09, q1', h7, a0m]
  · by_cases c4 : op = 24
    · subst c4
      by_cases q : args.length = 0 ∧ ins.length = 0
      · rw [if_pos (by exact q), if_neg (by simp [b6v])]
        have q1 : (args.length : Int) = 0 := by omega
        have q2 : (ins.length : Int) = 0 := by omega
        simp (disch := omega) [go_sem, a09, q1, q2]
        refine a0b ?_
        simp (disch := omega) [go_sem, q1, q2]
        refine a0c (by decide) fun s2 hs2 he2 => ?_
        simp (disch := omega) [go_sem, hs2, h9, a0m, q1, q2]
      · rw [if_neg (by exact q)]
        by_cases q1 : args.length = 0
        · have q1' : (args.length : Int) = 0 := by omega
          have q2 : ¬ (ins.length : Int) = 0 := fun h => q ⟨q1, by omega⟩
          have q3 : ¬ ins = [] := by rintro rfl; exact q2 rfl
          simp (disch := omega) [go_sem, a09, q1', q2, h7, a0m, q3]
        · have q1' : ¬ (args.length : Int) = 0 := by omega
          have q4 : ¬ args = [] := by rintro rfl; exact q1' rfl
          simp (disch := omega) [go_sem, a09, q1', h7, a0m, q4]
    · have ja : b6v op = 1 := by simp [b6v, c4]
      have ji : f50 op = 0 := by simp [f50, c3]
      by_cases q : args.length = 1 ∧ ins.length = 0
      · rw [if_pos (by simpa [ja, ji] using q)]
        obtain ⟨x, rfl⟩ := f6x q.1
        have q2 : (ins.length : Int) = 0 := by omega
        by_cases n1 : x < 0
        · rw [if_pos (by exact ⟨by rw [ja]; decide, .inl n1⟩)]
          simp (disch := omega) [go_sem, a09, q2, n1, c3, c4]
          refine a0b ?_
          simp (disch := omega) [go_sem, q2, n1, c3, c4]
          refine a0c (by decide) fun s2 hs2 he2 => ?_
          simp (disch := omega) [go_sem, hs2, h9, a0m, q2, n1, c3, c4]
        · by_cases n2 : (p.code.length : Int) < x
          · rw [if_pos (by exact ⟨by rw [ja]; decide, .inr n2⟩)]
            simp (disch := omega) [go_sem, a09, q2, n1, n2, c3, c4]
            refine a0b ?_
            simp (disch := omega) [go_sem, q2, n1, n2, c3, c4]
            refine a0c (by decide) fun s2 hs2 he2 => ?_
            simp (disch := omega) [go_sem, hs2, h9, a0m, q2, n1, n2, c3, c4]
          · rw [if_neg (by rintro ⟨-, h | h⟩; exact n1 h; exact n2 h)]
            simp (disch := omega) [go_sem, a09, q2, n1, n2, c3, c4]
            refine a0b ?_
            simp (disch := omega) [go_sem, q2, n1, n2, c3, c4]
            refine a0c (by decide) fun s2 hs2 he2 => ?_
            simp (disch := omega) [go_sem, hs2, h9, a0m, q2, n1, n2, c3, c4]
      · rw [if_neg (by simpa [ja, ji] using q)]
        by_cases q1 : args.length = 1
        · have q1' : (args.length : Int) = 1 := by omega
          have q2 : ¬ (ins.length : Int) = 0 := fun h => q ⟨q1, by omega⟩
          have q3 : ¬ ins = [] := by rintro rfl; exact q2 rfl
          simp (disch := omega) [go_sem, a09, q1', q2, h7, a0m, q3, c3, c4]
        · have q1' : ¬ (args.length : Int) = 1 := by omega
          simp (disch := omega) [go_sem, a09, q1', h7, a0m, c3, c4]
end
end Go.Ideal.Tryd
end
