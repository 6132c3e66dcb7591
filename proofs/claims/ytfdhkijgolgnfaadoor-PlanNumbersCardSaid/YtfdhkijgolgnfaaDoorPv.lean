/- Part Pv of the proof: a machine with trees for values, its soundness, and walks on it. -/
import Derived.Test.YtfdhkijgolgnfaaDoorPu

section
set_option linter.unusedVariables false
set_option maxRecDepth 10000
namespace Go.Ideal.Tryd
@[go_sem] def lodgelaw14_PlanNumbers_r0 : List AO := [⟨(some 4), .op (.asg (.c (.bool false))), none⟩]
@[go_sem] def lodgelaw14_PlanNumbers_r1 : List AO := [⟨(some 11), .call 32 [] [], none⟩,
  ⟨(some 5), .op (.asg (.t 11)), none⟩]
@[go_sem] def lodgelaw14_PlanNumbers_r2 : List AO := [⟨(some 12), .op (.mv (.t 5)), none⟩,
  ⟨(some 13), .op (.un .not 4 (.t 12)), none⟩]
@[go_sem] def lodgelaw14_PlanNumbers_r3 : List AO := [⟨(some 4), .op (.asg (.c (.bool false))), none⟩]
@[go_sem] def lodgelaw14_PlanNumbers_r4 : List AO := [⟨(some 14), .op (.build 74 [.lit (.int .i64 0), .sl 0 [], .lit (.bool false)] []), none⟩,
  ⟨(some 15), .op (.bslice 60 74 3 1 [.lit (.int .i64 0), .own 1 0 [], .lit (.bool false)] [(0, (.t 14))]), none⟩,
  ⟨(some 16), .op (.bslice 24 3 1 1 [.lit (.int .i64 0)] [(0, (.c (.int .i64 (1))))]), none⟩,
  ⟨(some 17), .op (.bslice 24 3 1 1 [.lit (.int .i64 0)] [(0, (.c (.int .i64 (2))))]), none⟩,
  ⟨(some 18), .op (.build 71 [.lit (.int .i64 0), .lit (.int .i64 0), .own 1 0 [], .own 1 0 [], .lit (.int .i64 0), .lit (.int .i64 0)] [(0, 0, 1, (.c (.int .i64 (22)))), (3, 3, 1, (.t 16)), (2, 2, 1, (.t 17))]), none⟩,
  ⟨(some 19), .op (.bslice 63 71 6 1 [.lit (.int .i64 0), .lit (.int .i64 0), .own 1 0 [], .own 1 0 [], .lit (.int .i64 0), .lit (.int .i64 0)] [(0, (.t 18))]), none⟩,
  ⟨(some 20), .op (.build 65 [.lit (.int .i64 0), .own 3 0 [], .own 3 0 [], .own 2 0 [], .own 6 0 [], .lit (.int .i64 0), .lit (.int .i64 0)] [(1, 1, 1, (.t 15)), (4, 4, 1, (.t 19))]), none⟩,
  ⟨(some 6), .op (.alloc 65 [.lit (.int .i64 0), .own 3 0 [], .own 3 0 [], .own 2 0 [], .own 6 0 [], .lit (.int .i64 0), .lit (.int .i64 0)]), none⟩,
  ⟨none, .op (.store 65 7 (.t 6) (.t 20)), none⟩]
@[go_sem] def lodgelaw14_PlanNumbers_r5 : List AO := [⟨(some 21), .op (.mv (.t 1)), none⟩,
  ⟨(some 22), .call 19 [(false, (.t 21)), (false, (.c (.int .i64 (8))))] [3, 3], none⟩]
@[go_sem] def lodgelaw14_PlanNumbers_r7 : List AO := [⟨(some 29), .op (.bin .eql 3 0 (.t 22) (.c (.int .i64 (0))) 3), none⟩,
  ⟨(some 28), .op (.asg (.t 29)), none⟩]
@[go_sem] def lodgelaw14_PlanNumbers_r8 : List AO := [⟨(some 30), .op (.mv (.t 0)), none⟩,
  ⟨(some 31), .op (.faddr 65 0 (.t 6) 0), none⟩,
  ⟨none, .op (.store 3 1 (.t 31) (.t 30)), none⟩]
@[go_sem] def lodgelaw14_PlanNumbers_r9 : List AO := [⟨(some 33), .op (.bin .eql 3 0 (.t 22) (.c (.int .i64 (1))) 3), none⟩,
  ⟨(some 32), .op (.asg (.t 33)), none⟩]
@[go_sem] def lodgelaw14_PlanNumbers_r10 : List AO := [⟨(some 34), .op (.mv (.t 0)), none⟩,
  ⟨(some 35), .op (.faddr 65 5 (.t 6) 5), none⟩,
  ⟨none, .op (.store 3 1 (.t 35) (.t 34)), none⟩]
@[go_sem] def lodgelaw14_PlanNumbers_r11 : List AO := [⟨(some 37), .op (.bin .eql 3 0 (.t 22) (.c (.int .i64 (2))) 3), none⟩,
  ⟨(some 36), .op (.asg (.t 37)), none⟩]
@[go_sem] def lodgelaw14_PlanNumbers_r12 : List AO := [⟨(some 38), .op (.mv (.t 0)), none⟩,
  ⟨(some 39), .op (.faddr 65 6 (.t 6) 6), none⟩,
  ⟨none, .op (.store 3 1 (.t 39) (.t 38)), none⟩]
@[go_sem] def lodgelaw14_PlanNumbers_r13 : List AO := [⟨(some 41), .op (.bin .eql 3 0 (.t 22) (.c (.int .i64 (3))) 3), none⟩,
  ⟨(some 40), .op (.asg (.t 41)), none⟩]
@[go_sem] def lodgelaw14_PlanNumbers_r14 : List AO := [⟨(some 42), .op (.faddr 65 1 (.t 6) 1), none⟩,
  ⟨(some 43), .op (.load 60 none (.t 42)), none⟩,
  ⟨(some 44), .op (.mv (.t 0)), none⟩,
  ⟨(some 45), .op (.iaddr 60 3 (.t 43) (.c (.int .i64 (0)))), none⟩,
  ⟨(some 46), .op (.faddr 74 0 (.t 45) 0), none⟩,
  ⟨none, .op (.store 3 1 (.t 46) (.t 44)), none⟩]
@[go_sem] def lodgelaw14_PlanNumbers_r15 : List AO := [⟨(some 48), .op (.bin .eql 3 0 (.t 22) (.c (.int .i64 (4))) 3), none⟩,
  ⟨(some 47), .op (.asg (.t 48)), none⟩]
@[go_sem] def lodgelaw14_PlanNumbers_r16 : List AO := [⟨(some 49), .op (.faddr 65 4 (.t 6) 4), none⟩,
  ⟨(some 50), .op (.load 63 none (.t 49)), none⟩,
  ⟨(some 51), .op (.mv (.t 0)), none⟩,
  ⟨(some 52), .op (.iaddr 63 6 (.t 50) (.c (.int .i64 (0)))), none⟩,
  ⟨(some 53), .op (.faddr 71 1 (.t 52) 1), none⟩,
  ⟨none, .op (.store 3 1 (.t 53) (.t 51)), none⟩]
@[go_sem] def lodgelaw14_PlanNumbers_r17 : List AO := [⟨(some 55), .op (.bin .eql 3 0 (.t 22) (.c (.int .i64 (5))) 3), none⟩,
  ⟨(some 54), .op (.asg (.t 55)), none⟩]
@[go_sem] def lodgelaw14_PlanNumbers_r18 : List AO := [⟨(some 56), .op (.faddr 65 4 (.t 6) 4), none⟩,
  ⟨(some 57), .op (.load 63 none (.t 56)), none⟩,
  ⟨(some 58), .op (.iaddr 63 6 (.t 57) (.c (.int .i64 (0)))), none⟩,
  ⟨(some 59), .op (.faddr 71 3 (.t 58) 3), none⟩,
  ⟨(some 60), .op (.load 24 none (.t 59)), none⟩,
  ⟨(some 61), .op (.mv (.t 0)), none⟩,
  ⟨(some 62), .op (.iaddr 24 1 (.t 60) (.c (.int .i64 (0)))), none⟩,
  ⟨none, .op (.store 3 1 (.t 62) (.t 61)), none⟩]
@[go_sem] def lodgelaw14_PlanNumbers_r19 : List AO := [⟨(some 64), .op (.bin .eql 3 0 (.t 22) (.c (.int .i64 (6))) 3), none⟩,
  ⟨(some 63), .op (.asg (.t 64)), none⟩]
@[go_sem] def lodgelaw14_PlanNumbers_r20 : List AO := [⟨(some 65), .op (.faddr 65 4 (.t 6) 4), none⟩,
  ⟨(some 66), .op (.load 63 none (.t 65)), none⟩,
  ⟨(some 67), .op (.iaddr 63 6 (.t 66) (.c (.int .i64 (0)))), none⟩,
  ⟨(some 68), .op (.faddr 71 2 (.t 67) 2), none⟩,
  ⟨(some 69), .op (.load 24 none (.t 68)), none⟩,
  ⟨(some 70), .op (.mv (.t 0)), none⟩,
  ⟨(some 71), .op (.iaddr 24 1 (.t 69) (.c (.int .i64 (0)))), none⟩,
  ⟨none, .op (.store 3 1 (.t 71) (.t 70)), none⟩]
@[go_sem] def lodgelaw14_PlanNumbers_r6 : List AO := [⟨(some 23), .op (.faddr 65 4 (.t 6) 4), none⟩,
  ⟨(some 24), .op (.load 63 none (.t 23)), none⟩,
  ⟨(some 25), .op (.mv (.t 0)), none⟩,
  ⟨(some 26), .op (.iaddr 63 6 (.t 24) (.c (.int .i64 (0)))), none⟩,
  ⟨(some 27), .op (.faddr 71 5 (.t 26) 5), none⟩,
  ⟨none, .op (.store 3 1 (.t 27) (.t 25)), none⟩]
@[go_sem] def lodgelaw14_PlanNumbers_r21 : List AO := [⟨(some 73), .op (.load 65 (some 7) (.t 6)), none⟩,
  ⟨(some 74), .call 43 [(false, (.t 73))] [65], none⟩,
  ⟨(some 72), .op (.mva (.t 74)), none⟩,
  ⟨(some 75), .op (.ext (.t 72) 0), none⟩,
  ⟨(some 76), .op (.ext (.t 72) 1), none⟩,
  ⟨(some 7), .op (.asg (.t 75)), none⟩,
  ⟨(some 8), .op (.asg (.t 76)), none⟩]
@[go_sem] def lodgelaw14_PlanNumbers_r22 : List AO := [⟨(some 77), .op (.mv (.t 0)), none⟩,
  ⟨(some 78), .op (.bin .lss 3 0 (.t 77) (.c (.int .i64 (-2147483648))) 3), none⟩,
  ⟨(some 79), .op (.mv (.t 78)), none⟩,
  ⟨(some 80), .op (.mv (.t 0)), (some (2, 79, false))⟩,
  ⟨(some 81), .op (.bin .gtr 3 0 (.t 80) (.c (.int .i64 (2147483647))) 3), (some (2, 79, false))⟩,
  ⟨(some 82), .op (.pick (.t 79) (.c (.bool true)) (.t 81)), none⟩]
@[go_sem] def lodgelaw14_PlanNumbers_r23 : List AO := [⟨(some 83), .op (.mv (.t 5)), none⟩,
  ⟨(some 84), .op (.mv (.t 83)), none⟩,
  ⟨(some 85), .op (.mv (.t 7)), (some (1, 84, true))⟩,
  ⟨(some 86), .op (.len 44 false (.t 85)), (some (1, 84, true))⟩,
  ⟨(some 87), .op (.bin .eql 3 0 (.t 86) (.c (.int .i64 (0))) 3), (some (1, 84, true))⟩,
  ⟨(some 88), .op (.pick (.t 84) (.t 87) (.c (.bool false))), none⟩,
  ⟨(some 89), .op (.mv (.t 88)), none⟩,
  ⟨(some 90), .op (.mv (.t 8)), (some (6, 89, true))⟩,
  ⟨(some 91), .call 37 [(false, (.t 90)), (false, (.c (.int .i64 (102))))] [26, 3], (some (6, 89, true))⟩,
  ⟨(some 92), .op (.pick (.t 89) (.t 91) (.c (.bool false))), none⟩,
  ⟨(some 4), .op (.asg (.t 92)), none⟩]
@[go_sem] def lodgelaw14_PlanNumbers_r24 : List AO := [⟨(some 94), .op (.mv (.t 7)), none⟩,
  ⟨(some 95), .call 42 [(false, (.t 94))] [44], none⟩,
  ⟨(some 93), .op (.mva (.t 95)), none⟩,
  ⟨(some 96), .op (.ext (.t 93) 0), none⟩,
  ⟨(some 97), .op (.ext (.t 93) 1), none⟩,
  ⟨(some 9), .op (.alloc 65 [.lit (.int .i64 0), .own 3 0 [], .own 3 0 [], .own 2 0 [], .own 6 0 [], .lit (.int .i64 0), .lit (.int .i64 0)]), none⟩,
  ⟨none, .op (.store 65 7 (.t 9) (.t 96)), none⟩,
  ⟨(some 10), .op (.asg (.t 97)), none⟩]
@[go_sem] def lodgelaw14_PlanNumbers_r25 : List AO := [⟨(some 98), .op (.mv (.t 5)), none⟩,
  ⟨(some 99), .op (.mv (.t 98)), none⟩,
  ⟨(some 100), .op (.mv (.t 8)), (some (1, 99, true))⟩,
  ⟨(some 101), .op (.bin .eql 26 2 (.t 100) (.c .nilIface) 26), (some (1, 99, true))⟩,
  ⟨(some 102), .op (.pick (.t 99) (.t 101) (.c (.bool false))), none⟩,
  ⟨(some 103), .op (.mv (.t 102)), none⟩,
  ⟨(some 104), .op (.mv (.t 10)), (some (5, 103, true))⟩,
  ⟨(some 105), .op (.bin .eql 26 2 (.t 104) (.c .nilIface) 26), (some (5, 103, true))⟩,
  ⟨(some 106), .op (.pick (.t 103) (.t 105) (.c (.bool false))), none⟩,
  ⟨(some 107), .op (.mv (.t 106)), none⟩,
  ⟨(some 108), .op (.load 65 (some 7) (.t 6)), (some (9, 107, true))⟩,
  ⟨(some 109), .op (.load 65 (some 7) (.t 9)), (some (9, 107, true))⟩,
  ⟨(some 110), .call 35 [(false, (.t 108)), (false, (.t 109))] [65, 65], (some (9, 107, true))⟩,
  ⟨(some 111), .op (.pick (.t 107) (.t 110) (.c (.bool false))), none⟩,
  ⟨(some 4), .op (.asg (.t 111)), none⟩]
def lodgelaw14_PlanNumbers_c : IC := (.seq (.reg lodgelaw14_PlanNumbers_r0) (.seq (.reg lodgelaw14_PlanNumbers_r1) (.seq (.seq (.reg lodgelaw14_PlanNumbers_r2) (.cond (.t 13) (.seq (.reg lodgelaw14_PlanNumbers_r3) .ret) .skip)) (.seq (.reg lodgelaw14_PlanNumbers_r4) (.seq (.seq (.reg lodgelaw14_PlanNumbers_r5) (.block 0 (.seq (.reg lodgelaw14_PlanNumbers_r7) (.cond (.t 28) (.reg lodgelaw14_PlanNumbers_r8) (.seq (.reg lodgelaw14_PlanNumbers_r9) (.cond (.t 32) (.reg lodgelaw14_PlanNumbers_r10) (.seq (.reg lodgelaw14_PlanNumbers_r11) (.cond (.t 36) (.reg lodgelaw14_PlanNumbers_r12) (.seq (.reg lodgelaw14_PlanNumbers_r13) (.cond (.t 40) (.reg lodgelaw14_PlanNumbers_r14) (.seq (.reg lodgelaw14_PlanNumbers_r15) (.cond (.t 47) (.reg lodgelaw14_PlanNumbers_r16) (.seq (.reg lodgelaw14_PlanNumbers_r17) (.cond (.t 54) (.reg lodgelaw14_PlanNumbers_r18) (.seq (.reg lodgelaw14_PlanNumbers_r19) (.cond (.t 63) (.reg lodgelaw14_PlanNumbers_r20) (.reg lodgelaw14_PlanNumbers_r6))))))))))))))))) (.seq (.reg lodgelaw14_PlanNumbers_r21) (.seq (.seq (.reg lodgelaw14_PlanNumbers_r22) (.cond (.t 82) (.seq (.reg lodgelaw14_PlanNumbers_r23) .ret) .skip)) (.seq (.reg lodgelaw14_PlanNumbers_r24) (.seq (.reg lodgelaw14_PlanNumbers_r25) .ret)))))))))
abbrev F_lodgelaw14_PlanNumbers : Nat := 12
theorem lodgelaw14_PlanNumbers_call {G : Nat → Option Value} {pre : List AV} {res : AV} (hsz : decide (pre.length ≤ 112) = true) (h : AW pg G 112 lodgelaw14_PlanNumbers_c (endR [(.tmp 4)] res) (St.init pre)) : ACalls pg G F_lodgelaw14_PlanNumbers pre res :=
  ACalls.of_walk (fn := Go.Proofs.Tryd.f12) (vs := [(ResultVar.tmp 4)]) (ic := lodgelaw14_PlanNumbers_c) (by kernel_rfl) (by kernel_rfl) rfl (by kernel_rfl) (by kernel_rfl) (of_decide_eq_true (by kernel_rfl)) (by kernel_rfl) (by kernel_rfl) (by kernel_rfl) (of_decide_eq_true hsz) h


end Go.Ideal.Tryd
end

section
set_option linter.unusedVariables false
set_option linter.unusedSimpArgs false
set_option maxRecDepth 10000
namespace Go.Ideal.Tryd
/-! ### PlanNumbers -/
def pN (sz off dst i a to inp out : Int) : Pl := ⟨sz, [⟨off, [], false⟩], [], [], [⟨22, dst, [i], [a], 0, to⟩], inp, out⟩
instance (x : Int) : Decidable (r32 x) := inferInstanceAs (Decidable (_ ∧ _))
theorem pN_ok {sz off dst i a to inp out : Int} (h1 : r32 sz) (h2 : r32 off) (h3 : r32 dst) (h4 : r32 i) (h5 : r32 a) (h6 : r32 to) (h7 : r32 inp) (h8 : r32 out) : plOk (pN sz off dst i a to inp out) := by
  refine ⟨h1, ⟨by simp [pN], fun v hv => ?_⟩, by simp [pN], by simp [pN], ⟨by simp [pN], fun v hv => ?_⟩, h7, h8⟩
  · simp only [pN, List.mem_singleton] at hv
    subst hv
    exact ⟨h2, by simp [dsOk]⟩
  · simp only [pN, List.mem_singleton] at hv
    subst hv
    exact ⟨by simp, h3, ⟨by simp, by simpa using h4⟩, ⟨by simp, by simpa using h5⟩, r0, h6⟩
theorem pN_nums {sz off dst i a to inp out : Int} (h : plOk (pN sz off dst i a to inp out)) : r32 sz ∧ r32 off ∧ r32 dst ∧ r32 i ∧ r32 a ∧ r32 to ∧ r32 inp ∧ r32 out := by
  obtain ⟨a1, ⟨-, a2⟩, -, -, ⟨-, a3⟩, a4, a5⟩ := h
  have b1 := a2 ⟨off, [], false⟩ (by simp [pN])
  obtain ⟨-, c1, ⟨-, c2⟩, ⟨-, c3⟩, -, c4⟩ := a3 ⟨22, dst, [i], [a], 0, to⟩ (by simp [pN])
  exact ⟨a1, b1.1, c1, c2 i (by simp), c3 a (by simp), c4, a4, a5⟩
theorem pN_bad {sz off dst i a to inp out : Int} (h : ¬ plOk (pN sz off dst i a to inp out)) : pErr (pN sz off dst i a to inp out) = .s 3 := by
  have hn : pErr (pN sz off dst i a to inp out) ≠ .nil := fun hh => h ((pErr_iff _).1 hh)
  have e1 : manyP (pN sz off dst i a to inp out) = false := by simp [manyP, pN, manyI]
  have e2 : (descsP (pN sz off dst i a to inp out)).any longD = false := by simp [descsP, pN, longD]
  have e3 : (descsP (pN sz off dst i a to inp out)).any oddD = false := by simp [descsP, pN, oddD]
  have e4 : tErr (pN sz off dst i a to inp out).consts = .nil := rfl
  unfold pErr at hn ⊢
  rw [e1, e2, e3, e4] at hn ⊢
  simp only [Bool.false_eq_true, if_false] at hn ⊢
  split
  · rfl
  · rename_i hc
    rw [if_neg hc] at hn
    exact absurd rfl hn
theorem pN_fin (sz off dst i a to inp out : Int) : (pN sz off dst i a to inp out).fin ∧ ∀ x ∈ (pN sz off dst i a to inp out).code, x.ins.length < 2 ^ 37 ∧ x.args.length < 2 ^ 37 :=
  ⟨⟨by simp [pN], by simp [pN], by simp [pN], by simp [pN], by simp [pN], by simp [pN], by simp [pN], by simp [pN]⟩, by simp [pN]⟩
section
variable {G : Nat → Option Value} {bk : Nat → Nat × Nat} {Q : Exit → St → Prop} {st : St}
set_option maxHeartbeats 4000000 in
theorem planNumbers12 (hS : Sent G bk) (n w : Int) : ACalls pg G F_lodgelaw14_PlanNumbers [li n, li w] (lb true) := by
  refine lodgelaw14_PlanNumbers_call rfl ?_
  have r1 := numb_rng (n := w) (m := 8) (by omega)
  simp (disch := omega) [go_sem, lodgelaw14_PlanNumbers_c]
  refine cal_pure (first32 hS) rfl rfl ?_
  simp (disch := omega) [go_sem]
  refine cal_pure (number19 w 8 (by omega) (by omega)) rfl rfl ?_
  rcases (show numb w 8 = 0 ∨ numb w 8 = 1 ∨ numb w 8 = 2 ∨ numb w 8 = 3 ∨ numb w 8 = 4 ∨ numb w 8 = 5 ∨ numb w 8 = 6 ∨ numb w 8 = 7 by omega) with k0 | k0 | k0 | k0 | k0 | k0 | k0 | k0
  · simp (disch := omega) [go_sem, k0]
    by_cases hr : r32 n
    · have hok : plOk (pN n 0 0 2 1 0 0 0) := pN_ok (by first | exact hr | decide) (by first | exact hr | decide) (by first | exact hr | decide) (by first | exact hr | decide) (by first | exact hr | decide) (by first | exact hr | decide) (by first | exact hr | decide) (by first | exact hr | decide)
      obtain ⟨f3, f4⟩ := pN_fin n 0 0 2 1 0 0 0
      have hA := pbytes43 (G := G) hS _ f3 f4 ((pErr_iff _).2 hok)
      have hbl := pBytes_small hok
      have hrd := pread42 (G := G) hS (byteL_pBytes hok) (by omega)
      rw [preadBack ((pErr_iff _).2 hok)] at hrd
      have hs := pSame35 (G := G) _ _ f3 f3
      generalize pBytes (pN n 0 0 2 1 0 0 0) = b at *
      refine cal_same hA rfl (by simp (disch := omega) [go_sem]) ?_
      obtain ⟨n1, n2⟩ := hr
      have n1' : ¬ n < -2147483648 := by omega
      have n2' : ¬ 2147483647 < n := by omega
      simp (disch := omega) [go_sem, n1', n2']
      refine cal_same hrd (by simp [go_sem, eP]) (by simp (disch := omega) [go_sem]) ?_
      simp (disch := omega) [go_sem, encE, eP]
      refine cal_pure hs rfl rfl ?_
      simp (disch := omega) [go_sem]
    · have he : pErr (pN n 0 0 2 1 0 0 0) = .s 3 := pN_bad fun hk => by
        obtain ⟨g1, g2, g3, g4, g5, g6, g7, g8⟩ := pN_nums hk
        first | exact hr g1 | exact hr g2 | exact hr g3 | exact hr g4 | exact hr g5 | exact hr g6 | exact hr g7 | exact hr g8
      obtain ⟨f3, f4⟩ := pN_fin n 0 0 2 1 0 0 0
      have hA := pbytes43e (G := G) hS _ f3 f4 (by rw [he]; simp)
      rw [he] at hA
      refine cal_same hA (by simp [go_sem]) (by simp (disch := omega) [go_sem]) ?_
      have hI := is37 (G := G) hS (e := .s 3) (.s (by decide)) 102
      by_cases n1 : n < -2147483648
      · simp (disch := omega) [go_sem, n1]
        refine cal_same hI rfl (by simp (disch := omega) [go_sem]) ?_
        simp (disch := omega) [go_sem, Er.flt, show codeOf 3 = 102 from rfl]
      · have n2 : 2147483647 < n := by unfold r32 at hr; omega
        simp (disch := omega) [go_sem, n1, n2]
        refine cal_same hI rfl (by simp (disch := omega) [go_sem]) ?_
        simp (disch := omega) [go_sem, Er.flt, show codeOf 3 = 102 from rfl]
  · simp (disch := omega) [go_sem, k0]
    by_cases hr : r32 n
    · have hok : plOk (pN 0 0 0 2 1 0 n 0) := pN_ok (by first | exact hr | decide) (by first | exact hr | decide) (by first | exact hr | decide) (by first | exact hr | decide) (by first | exact hr | decide) (by first | exact hr | decide) (by first | exact hr | decide) (by first | exact hr | decide)
      obtain ⟨f3, f4⟩ := pN_fin 0 0 0 2 1 0 n 0
      have hA := pbytes43 (G := G) hS _ f3 f4 ((pErr_iff _).2 hok)
      have hbl := pBytes_small hok
      have hrd := pread42 (G := G) hS (byteL_pBytes hok) (by omega)
      rw [preadBack ((pErr_iff _).2 hok)] at hrd
      have hs := pSame35 (G := G) _ _ f3 f3
      generalize pBytes (pN 0 0 0 2 1 0 n 0) = b at *
      refine cal_same hA rfl (by simp (disch := omega) [go_sem]) ?_
      obtain ⟨n1, n2⟩ := hr
      have n1' : ¬ n < -2147483648 := by omega
      have n2' : ¬ 2147483647 < n := by omega
      simp (disch := omega) [go_sem, n1', n2']
      refine cal_same hrd (by simp [go_sem, eP]) (by simp (disch := omega) [go_sem]) ?_
      simp (disch := omega) [go_sem, encE, eP]
      refine cal_pure hs rfl rfl ?_
      simp (disch := omega) [go_sem]
    · have he : pErr (pN 0 0 0 2 1 0 n 0) = .s 3 := pN_bad fun hk => by
        obtain ⟨g1, g2, g3, g4, g5, g6, g7, g8⟩ := pN_nums hk
        first | exact hr g1 | exact hr g2 | exact hr g3 | exact hr g4 | exact hr g5 | exact hr g6 | exact hr g7 | exact hr g8
      obtain ⟨f3, f4⟩ := pN_fin 0 0 0 2 1 0 n 0
      have hA := pbytes43e (G := G) hS _ f3 f4 (by rw [he]; simp)
      rw [he] at hA
      refine cal_same hA (by simp [go_sem]) (by simp (disch := omega) [go_sem]) ?_
      have hI := is37 (G := G) hS (e := .s 3) (.s (by decide)) 102
      by_cases n1 : n < -2147483648
      · simp (disch := omega) [go_sem, n1]
        refine cal_same hI rfl (by simp (disch := omega) [go_sem]) ?_
        simp (disch := omega) [go_sem, Er.flt, show codeOf 3 = 102 from rfl]
      · have n2 : 2147483647 < n := by unfold r32 at hr; omega
        simp (disch := omega) [go_sem, n1, n2]
        refine cal_same hI rfl (by simp (disch := omega) [go_sem]) ?_
        simp (disch := omega) [go_sem, Er.flt, show codeOf 3 = 102 from rfl]
  · simp (disch := omega) [go_sem, k0]
    by_cases hr : r32 n
    · have hok : plOk (pN 0 0 0 2 1 0 0 n) := pN_ok (by first | exact hr | decide) (by first | exact hr | decide) (by first | exact hr | decide) (by first | exact hr | decide) (by first | exact hr | decide) (by first | exact hr | decide) (by first | exact hr | decide) (by first | exact hr | decide)
      obtain ⟨f3, f4⟩ := pN_fin 0 0 0 2 1 0 0 n
      have hA := pbytes43 (G := G) hS _ f3 f4 ((pErr_iff _).2 hok)
      have hbl := pBytes_small hok
      have hrd := pread42 (G := G) hS (byteL_pBytes hok) (by omega)
      rw [preadBack ((pErr_iff _).2 hok)] at hrd
      have hs := pSame35 (G := G) _ _ f3 f3
      generalize pBytes (pN 0 0 0 2 1 0 0 n) = b at *
      refine cal_same hA rfl (by simp (disch := omega) [go_sem]) ?_
      obtain ⟨n1, n2⟩ := hr
      have n1' : ¬ n < -2147483648 := by omega
      have n2' : ¬ 2147483647 < n := by omega
      simp (disch := omega) [go_sem, n1', n2']
      refine cal_same hrd (by simp [go_sem, eP]) (by simp (disch := omega) [go_sem]) ?_
      simp (disch := omega) [go_sem, encE, eP]
      refine cal_pure hs rfl rfl ?_
      simp (disch := omega) [go_sem]
    · have he : pErr (pN 0 0 0 2 1 0 0 n) = .s 3 := pN_bad fun hk => by
        obtain ⟨g1, g2, g3, g4, g5, g6, g7, g8⟩ := pN_nums hk
        first | exact hr g1 | exact hr g2 | exact hr g3 | exact hr g4 | exact hr g5 | exact hr g6 | exact hr g7 | exact hr g8
      obtain ⟨f3, f4⟩ := pN_fin 0 0 0 2 1 0 0 n
      have hA := pbytes43e (G := G) hS _ f3 f4 (by rw [he]; simp)
      rw [he] at hA
      refine cal_same hA (by simp [go_sem]) (by simp (disch := omega) [go_sem]) ?_
      have hI := is37 (G := G) hS (e := .s 3) (.s (by decide)) 102
      by_cases n1 : n < -2147483648
      · simp (disch := omega) [go_sem, n1]
        refine cal_same hI rfl (by simp (disch := omega) [go_sem]) ?_
        simp (disch := omega) [go_sem, Er.flt, show codeOf 3 = 102 from rfl]
      · have n2 : 2147483647 < n := by unfold r32 at hr; omega
        simp (disch := omega) [go_sem, n1, n2]
        refine cal_same hI rfl (by simp (disch := omega) [go_sem]) ?_
        simp (disch := omega) [go_sem, Er.flt, show codeOf 3 = 102 from rfl]
  · simp (disch := omega) [go_sem, k0]
    by_cases hr : r32 n
    · have hok : plOk (pN 0 n 0 2 1 0 0 0) := pN_ok (by first | exact hr | decide) (by first | exact hr | decide) (by first | exact hr | decide) (by first | exact hr | decide) (by first | exact hr | decide) (by first | exact hr | decide) (by first | exact hr | decide) (by first | exact hr | decide)
      obtain ⟨f3, f4⟩ := pN_fin 0 n 0 2 1 0 0 0
      have hA := pbytes43 (G := G) hS _ f3 f4 ((pErr_iff _).2 hok)
      have hbl := pBytes_small hok
      have hrd := pread42 (G := G) hS (byteL_pBytes hok) (by omega)
      rw [preadBack ((pErr_iff _).2 hok)] at hrd
      have hs := pSame35 (G := G) _ _ f3 f3
      generalize pBytes (pN 0 n 0 2 1 0 0 0) = b at *
      refine cal_same hA rfl (by simp (disch := omega) [go_sem]) ?_
      obtain ⟨n1, n2⟩ := hr
      have n1' : ¬ n < -2147483648 := by omega
      have n2' : ¬ 2147483647 < n := by omega
      simp (disch := omega) [go_sem, n1', n2']
      refine cal_same hrd (by simp [go_sem, eP]) (by simp (disch := omega) [go_sem]) ?_
      simp (disch := omega) [go_sem, encE, eP]
      refine cal_pure hs rfl rfl ?_
      simp (disch := omega) [go_sem]
    · have he : pErr (pN 0 n 0 2 1 0 0 0) = .s 3 := pN_bad fun hk => by
        obtain ⟨g1, g2, g3, g4, g5, g6, g7, g8⟩ := pN_nums hk
        first | exact hr g1 | exact hr g2 | exact hr g3 | exact hr g4 | exact hr g5 | exact hr g6 | exact hr g7 | exact hr g8
      obtain ⟨f3, f4⟩ := pN_fin 0 n 0 2 1 0 0 0
      have hA := pbytes43e (G := G) hS _ f3 f4 (by rw [he]; simp)
      rw [he] at hA
      refine cal_same hA (by simp [go_sem]) (by simp (disch := omega) [go_sem]) ?_
      have hI := is37 (G := G) hS (e := .s 3) (.s (by decide)) 102
      by_cases n1 : n < -2147483648
      · simp (disch := omega) [go_sem, n1]
        refine cal_same hI rfl (by simp (disch := omega) [go_sem]) ?_
        simp (disch := omega) [go_sem, Er.flt, show codeOf 3 = 102 from rfl]
      · have n2 : 2147483647 < n := by unfold r32 at hr; omega
        simp (disch := omega) [go_sem, n1, n2]
        refine cal_same hI rfl (by simp (disch := omega) [go_sem]) ?_
        simp (disch := omega) [go_sem, Er.flt, show codeOf 3 = 102 from rfl]
  · simp (disch := omega) [go_sem, k0]
    by_cases hr : r32 n
    · have hok : plOk (pN 0 0 n 2 1 0 0 0) := pN_ok (by first | exact hr | decide) (by first | exact hr | decide) (by first | exact hr | decide) (by first | exact hr | decide) (by first | exact hr | decide) (by first | exact hr | decide) (by first | exact hr | decide) (by first | exact hr | decide)
      obtain ⟨f3, f4⟩ := pN_fin 0 0 n 2 1 0 0 0
      have hA := pbytes43 (G := G) hS _ f3 f4 ((pErr_iff _).2 hok)
      have hbl := pBytes_small hok
      have hrd := pread42 (G := G) hS (byteL_pBytes hok) (by omega)
      rw [preadBack ((pErr_iff _).2 hok)] at hrd
      have hs := pSame35 (G := G) _ _ f3 f3
      generalize pBytes (pN 0 0 n 2 1 0 0 0) = b at *
      refine cal_same hA rfl (by simp (disch := omega) [go_sem]) ?_
      obtain ⟨n1, n2⟩ := hr
      have n1' : ¬ n < -2147483648 := by omega
      have n2' : ¬ 2147483647 < n := by omega
      simp (disch := omega) [go_sem, n1', n2']
      refine cal_same hrd (by simp [go_sem, eP]) (by simp (disch := omega) [go_sem]) ?_
      simp (disch := omega) [go_sem, encE, eP]
      refine cal_pure hs rfl rfl ?_
      simp (disch := omega) [go_sem]
    · have he : pErr (pN 0 0 n 2 1 0 0 0) = .s 3 := pN_bad fun hk => by
        obtain ⟨g1, g2, g3, g4, g5, g6, g7, g8⟩ := pN_nums hk
        first | exact hr g1 | exact hr g2 | exact hr g3 | exact hr g4 | exact hr g5 | exact hr g6 | exact hr g7 | exact hr g8
      obtain ⟨f3, f4⟩ := pN_fin 0 0 n 2 1 0 0 0
      have hA := pbytes43e (G := G) hS _ f3 f4 (by rw [he]; simp)
      rw [he] at hA
      refine cal_same hA (by simp [go_sem]) (by simp (disch := omega) [go_sem]) ?_
      have hI := is37 (G := G) hS (e := .s 3) (.s (by decide)) 102
      by_cases n1 : n < -2147483648
      · simp (disch := omega) [go_sem, n1]
        refine cal_same hI rfl (by simp (disch := omega) [go_sem]) ?_
        simp (disch := omega) [go_sem, Er.flt, show codeOf 3 = 102 from rfl]
      · have n2 : 2147483647 < n := by unfold r32 at hr; omega
        simp (disch := omega) [go_sem, n1, n2]
        refine cal_same hI rfl (by simp (disch := omega) [go_sem]) ?_
        simp (disch := omega) [go_sem, Er.flt, show codeOf 3 = 102 from rfl]
  · simp (disch := omega) [go_sem, k0]
    by_cases hr : r32 n
    · have hok : plOk (pN 0 0 0 2 n 0 0 0) := pN_ok (by first | exact hr | decide) (by first | exact hr | decide) (by first | exact hr | decide) (by first | exact hr | decide) (by first | exact hr | decide) (by first | exact hr | decide) (by first | exact hr | decide) (by first | exact hr | decide)
      obtain ⟨f3, f4⟩ := pN_fin 0 0 0 2 n 0 0 0
      have hA := pbytes43 (G := G) hS _ f3 f4 ((pErr_iff _).2 hok)
      have hbl := pBytes_small hok
      have hrd := pread42 (G := G) hS (byteL_pBytes hok) (by omega)
      rw [preadBack ((pErr_iff _).2 hok)] at hrd
      have hs := pSame35 (G := G) _ _ f3 f3
      generalize pBytes (pN 0 0 0 2 n 0 0 0) = b at *
      refine cal_same hA rfl (by simp (disch := omega) [go_sem]) ?_
      obtain ⟨n1, n2⟩ := hr
      have n1' : ¬ n < -2147483648 := by omega
      have n2' : ¬ 2147483647 < n := by omega
      simp (disch := omega) [go_sem, n1', n2']
      refine cal_same hrd (by simp [go_sem, eP]) (by simp (disch := omega) [go_sem]) ?_
      simp (disch := omega) [go_sem, encE, eP]
      refine cal_pure hs rfl rfl ?_
      simp (disch := omega) [go_sem]
    · have he : pErr (pN 0 0 0 2 n 0 0 0) = .s 3 := pN_bad fun hk => by
        obtain ⟨g1, g2, g3, g4, g5, g6, g7, g8⟩ := pN_nums hk
        first | exact hr g1 | exact hr g2 | exact hr g3 | exact hr g4 | exact hr g5 | exact hr g6 | exact hr g7 | exact hr g8
      obtain ⟨f3, f4⟩ := pN_fin 0 0 0 2 n 0 0 0
      have hA := pbytes43e (G := G) hS _ f3 f4 (by rw [he]; simp)
      rw [he] at hA
      refine cal_same hA (by simp [go_sem]) (by simp (disch := omega) [go_sem]) ?_
      have hI := is37 (G := G) hS (e := .s 3) (.s (by decide)) 102
      by_cases n1 : n < -2147483648
      · simp (disch := omega) [go_sem, n1]
        refine cal_same hI rfl (by simp (disch := omega) [go_sem]) ?_
        simp (disch := omega) [go_sem, Er.flt, show codeOf 3 = 102 from rfl]
      · have n2 : 2147483647 < n := by unfold r32 at hr; omega
        simp (disch := omega) [go_sem, n1, n2]
        refine cal_same hI rfl (by simp (disch := omega) [go_sem]) ?_
        simp (disch := omega) [go_sem, Er.flt, show codeOf 3 = 102 from rfl]
  · simp (disch := omega) [go_sem, k0]
    by_cases hr : r32 n
    · have hok : plOk (pN 0 0 0 n 1 0 0 0) := pN_ok (by first | exact hr | decide) (by first | exact hr | decide) (by first | exact hr | decide) (by first | exact hr | decide) (by first | exact hr | decide) (by first | exact hr | decide) (by first | exact hr | decide) (by first | exact hr | decide)
      obtain ⟨f3, f4⟩ := pN_fin 0 0 0 n 1 0 0 0
      have hA := pbytes43 (G := G) hS _ f3 f4 ((pErr_iff _).2 hok)
      have hbl := pBytes_small hok
      have hrd := pread42 (G := G) hS (byteL_pBytes hok) (by omega)
      rw [preadBack ((pErr_iff _).2 hok)] at hrd
      have hs := pSame35 (G := G) _ _ f3 f3
      generalize pBytes (pN 0 0 0 n 1 0 0 0) = b at *
      refine cal_same hA rfl (by simp (disch := omega) [go_sem]) ?_
      obtain ⟨n1, n2⟩ := hr
      have n1' : ¬ n < -2147483648 := by omega
      have n2' : ¬ 2147483647 < n := by omega
      simp (disch := omega) [go_sem, n1', n2']
      refine cal_same hrd (by simp [go_sem, eP]) (by simp (disch := omega) [go_sem]) ?_
      simp (disch := omega) [go_sem, encE, eP]
      refine cal_pure hs rfl rfl ?_
      simp (disch := omega) [go_sem]
    · have he : pErr (pN 0 0 0 n 1 0 0 0) = .s 3 := pN_bad fun hk => by
        obtain ⟨g1, g2, g3, g4, g5, g6, g7, g8⟩ := pN_nums hk
        first | exact hr g1 | exact hr g2 | exact hr g3 | exact hr g4 | exact hr g5 | exact hr g6 | exact hr g7 | exact hr g8
      obtain ⟨f3, f4⟩ := pN_fin 0 0 0 n 1 0 0 0
      have hA := pbytes43e (G := G) hS _ f3 f4 (by rw [he]; simp)
      rw [he] at hA
      refine cal_same hA (by simp [go_sem]) (by simp (disch := omega) [go_sem]) ?_
      have hI := is37 (G := G) hS (e := .s 3) (.s (by decide)) 102
      by_cases n1 : n < -2147483648
      · simp (disch := omega) [go_sem, n1]
        refine cal_same hI rfl (by simp (disch := omega) [go_sem]) ?_
        simp (disch := omega) [go_sem, Er.flt, show codeOf 3 = 102 from rfl]
      · have n2 : 2147483647 < n := by unfold r32 at hr; omega
        simp (disch := omega) [go_sem, n1, n2]
        refine cal_same hI rfl (by simp (disch := omega) [go_sem]) ?_
        simp (disch := omega) [go_sem, Er.flt, show codeOf 3 = 102 from rfl]
  · simp (disch := omega) [go_sem, k0]
    by_cases hr : r32 n
    · have hok : plOk (pN 0 0 0 2 1 n 0 0) := pN_ok (by first | exact hr | decide) (by first | exact hr | decide) (by first | exact hr | decide) (by first | exact hr | decide) (by first | exact hr | decide) (by first | exact hr | decide) (by first | exact hr | decide) (by first | exact hr | decide)
      obtain ⟨f3, f4⟩ := pN_fin 0 0 0 2 1 n 0 0
      have hA := pbytes43 (G := G) hS _ f3 f4 ((pErr_iff _).2 hok)
      have hbl := pBytes_small hok
      have hrd := pread42 (G := G) hS (byteL_pBytes hok) (by omega)
      rw [preadBack ((pErr_iff _).2 hok)] at hrd
      have hs := pSame35 (G := G) _ _ f3 f3
      generalize pBytes (pN 0 0 0 2 1 n 0 0) = b at *
      refine cal_same hA rfl (by simp (disch := omega) [go_sem]) ?_
      obtain ⟨n1, n2⟩ := hr
      have n1' : ¬ n < -2147483648 := by omega
      have n2' : ¬ 2147483647 < n := by omega
      simp (disch := omega) [go_sem, n1', n2']
      refine cal_same hrd (by simp [go_sem, eP]) (by simp (disch := omega) [go_sem]) ?_
      simp (disch := omega) [go_sem, encE, eP]
      refine cal_pure hs rfl rfl ?_
      simp (disch := omega) [go_sem]
    · have he : pErr (pN 0 0 0 2 1 n 0 0) = .s 3 := pN_bad fun hk => by
        obtain ⟨g1, g2, g3, g4, g5, g6, g7, g8⟩ := pN_nums hk
        first | exact hr g1 | exact hr g2 | exact hr g3 | exact hr g4 | exact hr g5 | exact hr g6 | exact hr g7 | exact hr g8
      obtain ⟨f3, f4⟩ := pN_fin 0 0 0 2 1 n 0 0
      have hA := pbytes43e (G := G) hS _ f3 f4 (by rw [he]; simp)
      rw [he] at hA
      refine cal_same hA (by simp [go_sem]) (by simp (disch := omega) [go_sem]) ?_
      have hI := is37 (G := G) hS (e := .s 3) (.s (by decide)) 102
      by_cases n1 : n < -2147483648
      · simp (disch := omega) [go_sem, n1]
        refine cal_same hI rfl (by simp (disch := omega) [go_sem]) ?_
        simp (disch := omega) [go_sem, Er.flt, show codeOf 3 = 102 from rfl]
      · have n2 : 2147483647 < n := by unfold r32 at hr; omega
        simp (disch := omega) [go_sem, n1, n2]
        refine cal_same hI rfl (by simp (disch := omega) [go_sem]) ?_
        simp (disch := omega) [go_sem, Er.flt, show codeOf 3 = 102 from rfl]
end
end Go.Ideal.Tryd
end
