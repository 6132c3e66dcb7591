/- Part Pq of the proof: a machine with trees for values, its soundness, and walks on it. -/
import Derived.Test.YtfdhkijgolgnfaaDoorPk

section
set_option linter.unusedVariables false
set_option maxRecDepth 10000
namespace Go.Ideal.Tryd
@[go_sem] theorem lodgelaw14_PlanAgain_fnB : fnB pg 10 = true := by kernel_rfl

@[go_sem] def lodgelaw14_PlanBounds_r0 : List AO := [⟨(some 4), .op (.asg (.c (.bool false))), none⟩]
@[go_sem] def lodgelaw14_PlanBounds_r1 : List AO := [⟨(some 12), .call 32 [] [], none⟩,
  ⟨(some 5), .op (.asg (.t 12)), none⟩]
@[go_sem] def lodgelaw14_PlanBounds_r2 : List AO := [⟨(some 13), .op (.mv (.t 5)), none⟩,
  ⟨(some 14), .op (.un .not 4 (.t 13)), none⟩]
@[go_sem] def lodgelaw14_PlanBounds_r3 : List AO := [⟨(some 4), .op (.asg (.c (.bool false))), none⟩]
@[go_sem] def lodgelaw14_PlanBounds_r4 : List AO := [⟨(some 6), .op (.alloc 65 [.lit (.int .i64 0), .own 3 0 [], .own 3 0 [], .own 2 0 [], .own 6 0 [], .lit (.int .i64 0), .lit (.int .i64 0)]), none⟩]
@[go_sem] def lodgelaw14_PlanBounds_r5 : List AO := [⟨(some 7), .op (.asg (.c (.int .i64 (0)))), none⟩]
@[go_sem] def lodgelaw14_PlanBounds_r6 : List AO := [⟨(some 15), .op (.mv (.t 0)), none⟩,
  ⟨(some 16), .call 19 [(false, (.t 15)), (false, (.c (.int .i64 (4))))] [3, 3], none⟩]
@[go_sem] def lodgelaw14_PlanBounds_r10 : List AO := [⟨(some 23), .op (.bin .eql 3 0 (.t 16) (.c (.int .i64 (0))) 3), none⟩,
  ⟨(some 22), .op (.asg (.t 23)), none⟩]
@[go_sem] def lodgelaw14_PlanBounds_r11 : List AO := [⟨(some 24), .op (.mv (.t 1)), none⟩,
  ⟨(some 25), .call 19 [(false, (.t 24)), (false, (.c (.int .i64 (200))))] [3, 3], none⟩,
  ⟨(some 1), .op (.asg (.t 25)), none⟩]
@[go_sem] def lodgelaw14_PlanBounds_r12 : List AO := [⟨(some 26), .op (.mv (.t 1)), none⟩,
  ⟨(some 27), .op (.mks 60 74 3 40 [.lit (.int .i64 0), .own 1 0 [], .lit (.bool false)] (.t 26) (.t 26)), none⟩,
  ⟨(some 28), .op (.faddr 65 1 (.t 6) 1), none⟩,
  ⟨none, .op (.store 60 1 (.t 28) (.t 27)), none⟩]
@[go_sem] def lodgelaw14_PlanBounds_r13 : List AO := [⟨(some 7), .op (.asg (.c (.int .i64 (128)))), none⟩]
@[go_sem] def lodgelaw14_PlanBounds_r14 : List AO := [⟨(some 30), .op (.bin .eql 3 0 (.t 16) (.c (.int .i64 (1))) 3), none⟩,
  ⟨(some 29), .op (.asg (.t 30)), none⟩]
@[go_sem] def lodgelaw14_PlanBounds_r15 : List AO := [⟨(some 31), .op (.mv (.t 1)), none⟩,
  ⟨(some 32), .call 19 [(false, (.t 31)), (false, (.c (.int .i64 (14))))] [3, 3], none⟩,
  ⟨(some 1), .op (.asg (.t 32)), none⟩]
@[go_sem] def lodgelaw14_PlanBounds_r16 : List AO := [⟨(some 33), .op (.mv (.t 1)), none⟩,
  ⟨(some 34), .op (.mks 24 3 1 8 [.lit (.int .i64 0)] (.t 33) (.t 33)), none⟩,
  ⟨(some 35), .op (.build 71 [.lit (.int .i64 0), .lit (.int .i64 0), .own 1 0 [], .own 1 0 [], .lit (.int .i64 0), .lit (.int .i64 0)] [(0, 0, 1, (.c (.int .i64 (24)))), (2, 2, 1, (.t 34))]), none⟩,
  ⟨(some 36), .op (.bslice 63 71 6 1 [.lit (.int .i64 0), .lit (.int .i64 0), .own 1 0 [], .own 1 0 [], .lit (.int .i64 0), .lit (.int .i64 0)] [(0, (.t 35))]), none⟩,
  ⟨(some 37), .op (.faddr 65 4 (.t 6) 4), none⟩,
  ⟨none, .op (.store 63 1 (.t 37) (.t 36)), none⟩]
@[go_sem] def lodgelaw14_PlanBounds_r17 : List AO := [⟨(some 7), .op (.asg (.c (.int .i64 (8)))), none⟩]
@[go_sem] def lodgelaw14_PlanBounds_r18 : List AO := [⟨(some 39), .op (.bin .eql 3 0 (.t 16) (.c (.int .i64 (2))) 3), none⟩,
  ⟨(some 38), .op (.asg (.t 39)), none⟩]
@[go_sem] def lodgelaw14_PlanBounds_r19 : List AO := [⟨(some 40), .op (.mv (.t 1)), none⟩,
  ⟨(some 41), .call 19 [(false, (.t 40)), (false, (.c (.int .i64 (14))))] [3, 3], none⟩,
  ⟨(some 1), .op (.asg (.t 41)), none⟩]
@[go_sem] def lodgelaw14_PlanBounds_r20 : List AO := [⟨(some 42), .op (.mv (.t 1)), none⟩,
  ⟨(some 43), .op (.mks 24 3 1 8 [.lit (.int .i64 0)] (.t 42) (.t 42)), none⟩,
  ⟨(some 44), .op (.build 71 [.lit (.int .i64 0), .lit (.int .i64 0), .own 1 0 [], .own 1 0 [], .lit (.int .i64 0), .lit (.int .i64 0)] [(0, 0, 1, (.c (.int .i64 (24)))), (3, 3, 1, (.t 43))]), none⟩,
  ⟨(some 45), .op (.bslice 63 71 6 1 [.lit (.int .i64 0), .lit (.int .i64 0), .own 1 0 [], .own 1 0 [], .lit (.int .i64 0), .lit (.int .i64 0)] [(0, (.t 44))]), none⟩,
  ⟨(some 46), .op (.faddr 65 4 (.t 6) 4), none⟩,
  ⟨none, .op (.store 63 1 (.t 46) (.t 45)), none⟩]
@[go_sem] def lodgelaw14_PlanBounds_r21 : List AO := [⟨(some 7), .op (.asg (.c (.int .i64 (8)))), none⟩]
@[go_sem] def lodgelaw14_PlanBounds_r7 : List AO := [⟨(some 17), .op (.mv (.t 1)), none⟩,
  ⟨(some 18), .call 19 [(false, (.t 17)), (false, (.c (.int .i64 (14))))] [3, 3], none⟩,
  ⟨(some 1), .op (.asg (.t 18)), none⟩]
@[go_sem] def lodgelaw14_PlanBounds_r8 : List AO := [⟨(some 19), .op (.mv (.t 1)), none⟩,
  ⟨(some 20), .op (.mks 62 54 2 32 [.own 1 0 [], .lit (.bool false)] (.t 19) (.t 19)), none⟩,
  ⟨(some 21), .op (.faddr 65 3 (.t 6) 3), none⟩,
  ⟨none, .op (.store 62 1 (.t 21) (.t 20)), none⟩]
@[go_sem] def lodgelaw14_PlanBounds_r9 : List AO := [⟨(some 7), .op (.asg (.c (.int .i64 (8)))), none⟩]
@[go_sem] def lodgelaw14_PlanBounds_r22 : List AO := [⟨(some 48), .op (.load 65 (some 7) (.t 6)), none⟩,
  ⟨(some 49), .call 43 [(false, (.t 48))] [65], none⟩,
  ⟨(some 47), .op (.mva (.t 49)), none⟩,
  ⟨(some 50), .op (.ext (.t 47) 0), none⟩,
  ⟨(some 51), .op (.ext (.t 47) 1), none⟩,
  ⟨(some 8), .op (.asg (.t 50)), none⟩,
  ⟨(some 9), .op (.asg (.t 51)), none⟩]
@[go_sem] def lodgelaw14_PlanBounds_r23 : List AO := [⟨(some 52), .op (.mv (.t 1)), none⟩,
  ⟨(some 53), .op (.mv (.t 7)), none⟩,
  ⟨(some 54), .op (.bin .gtr 3 0 (.t 52) (.t 53) 3), none⟩]
@[go_sem] def lodgelaw14_PlanBounds_r24 : List AO := [⟨(some 55), .op (.mv (.t 5)), none⟩,
  ⟨(some 56), .op (.mv (.t 55)), none⟩,
  ⟨(some 57), .op (.mv (.t 8)), (some (1, 56, true))⟩,
  ⟨(some 58), .op (.len 44 false (.t 57)), (some (1, 56, true))⟩,
  ⟨(some 59), .op (.bin .eql 3 0 (.t 58) (.c (.int .i64 (0))) 3), (some (1, 56, true))⟩,
  ⟨(some 60), .op (.pick (.t 56) (.t 59) (.c (.bool false))), none⟩,
  ⟨(some 61), .op (.mv (.t 60)), none⟩,
  ⟨(some 62), .op (.mv (.t 9)), (some (6, 61, true))⟩,
  ⟨(some 63), .call 37 [(false, (.t 62)), (false, (.c (.int .i64 (104))))] [26, 3], (some (6, 61, true))⟩,
  ⟨(some 64), .op (.pick (.t 61) (.t 63) (.c (.bool false))), none⟩,
  ⟨(some 4), .op (.asg (.t 64)), none⟩]
@[go_sem] def lodgelaw14_PlanBounds_r25 : List AO := [⟨(some 66), .op (.mv (.t 8)), none⟩,
  ⟨(some 67), .call 42 [(false, (.t 66))] [44], none⟩,
  ⟨(some 65), .op (.mva (.t 67)), none⟩,
  ⟨(some 68), .op (.ext (.t 65) 0), none⟩,
  ⟨(some 69), .op (.ext (.t 65) 1), none⟩,
  ⟨(some 10), .op (.alloc 65 [.lit (.int .i64 0), .own 3 0 [], .own 3 0 [], .own 2 0 [], .own 6 0 [], .lit (.int .i64 0), .lit (.int .i64 0)]), none⟩,
  ⟨none, .op (.store 65 7 (.t 10) (.t 68)), none⟩,
  ⟨(some 11), .op (.asg (.t 69)), none⟩]
@[go_sem] def lodgelaw14_PlanBounds_r26 : List AO := [⟨(some 70), .op (.mv (.t 5)), none⟩,
  ⟨(some 71), .op (.mv (.t 70)), none⟩,
  ⟨(some 72), .op (.mv (.t 9)), (some (1, 71, true))⟩,
  ⟨(some 73), .op (.bin .eql 26 2 (.t 72) (.c .nilIface) 26), (some (1, 71, true))⟩,
  ⟨(some 74), .op (.pick (.t 71) (.t 73) (.c (.bool false))), none⟩,
  ⟨(some 75), .op (.mv (.t 74)), none⟩,
  ⟨(some 76), .op (.mv (.t 11)), (some (5, 75, true))⟩,
  ⟨(some 77), .op (.bin .eql 26 2 (.t 76) (.c .nilIface) 26), (some (5, 75, true))⟩,
  ⟨(some 78), .op (.pick (.t 75) (.t 77) (.c (.bool false))), none⟩,
  ⟨(some 79), .op (.mv (.t 78)), none⟩,
  ⟨(some 80), .op (.load 65 (some 7) (.t 6)), (some (9, 79, true))⟩,
  ⟨(some 81), .op (.load 65 (some 7) (.t 10)), (some (9, 79, true))⟩,
  ⟨(some 82), .call 35 [(false, (.t 80)), (false, (.t 81))] [65, 65], (some (9, 79, true))⟩,
  ⟨(some 83), .op (.pick (.t 79) (.t 82) (.c (.bool false))), none⟩,
  ⟨(some 4), .op (.asg (.t 83)), none⟩]
def lodgelaw14_PlanBounds_c : IC := (.seq (.reg lodgelaw14_PlanBounds_r0) (.seq (.reg lodgelaw14_PlanBounds_r1) (.seq (.seq (.reg lodgelaw14_PlanBounds_r2) (.cond (.t 14) (.seq (.reg lodgelaw14_PlanBounds_r3) .ret) .skip)) (.seq (.reg lodgelaw14_PlanBounds_r4) (.seq (.reg lodgelaw14_PlanBounds_r5) (.seq (.seq (.reg lodgelaw14_PlanBounds_r6) (.block 0 (.seq (.reg lodgelaw14_PlanBounds_r10) (.cond (.t 22) (.seq (.reg lodgelaw14_PlanBounds_r11) (.seq (.reg lodgelaw14_PlanBounds_r12) (.reg lodgelaw14_PlanBounds_r13))) (.seq (.reg lodgelaw14_PlanBounds_r14) (.cond (.t 29) (.seq (.reg lodgelaw14_PlanBounds_r15) (.seq (.reg lodgelaw14_PlanBounds_r16) (.reg lodgelaw14_PlanBounds_r17))) (.seq (.reg lodgelaw14_PlanBounds_r18) (.cond (.t 38) (.seq (.reg lodgelaw14_PlanBounds_r19) (.seq (.reg lodgelaw14_PlanBounds_r20) (.reg lodgelaw14_PlanBounds_r21))) (.seq (.reg lodgelaw14_PlanBounds_r7) (.seq (.reg lodgelaw14_PlanBounds_r8) (.reg lodgelaw14_PlanBounds_r9))))))))))) (.seq (.reg lodgelaw14_PlanBounds_r22) (.seq (.seq (.reg lodgelaw14_PlanBounds_r23) (.cond (.t 54) (.seq (.reg lodgelaw14_PlanBounds_r24) .ret) .skip)) (.seq (.reg lodgelaw14_PlanBounds_r25) (.seq (.reg lodgelaw14_PlanBounds_r26) .ret))))))))))
abbrev F_lodgelaw14_PlanBounds : Nat := 11
theorem lodgelaw14_PlanBounds_call {G : Nat → Option Value} {pre : List AV} {res : AV} (hsz : decide (pre.length ≤ 84) = true) (h : AW pg G 84 lodgelaw14_PlanBounds_c (endR [(.tmp 4)] res) (St.init pre)) : ACalls pg G F_lodgelaw14_PlanBounds pre res :=
  ACalls.of_walk (fn := Go.Proofs.Tryd.f11) (vs := [(ResultVar.tmp 4)]) (ic := lodgelaw14_PlanBounds_c) (by kernel_rfl) (by kernel_rfl) rfl (by kernel_rfl) (by kernel_rfl) (of_decide_eq_true (by kernel_rfl)) (by kernel_rfl) (by kernel_rfl) (by kernel_rfl) (of_decide_eq_true hsz) h
@[go_sem] theorem lodgelaw14_PlanBounds_fnB : fnB pg 11 = true := by kernel_rfl

@[go_sem] theorem lodgelaw14_PlanNumbers_fnB : fnB pg 12 = true := by kernel_rfl

@[go_sem] def plan_Read_r0 : List AO := [⟨(some 2), .op (.alloc 65 [.lit (.int .i64 0), .own 3 0 [], .own 3 0 [], .own 2 0 [], .own 6 0 [], .lit (.int .i64 0), .lit (.int .i64 0)]), none⟩,
  ⟨(some 3), .op (.asg (.c .nilIface)), none⟩]
@[go_sem] def plan_Read_r1 : List AO := [⟨(some 13), .op (.mv (.t 0)), none⟩,
  ⟨(some 14), .op (.build 130 [.own 1 0 [], .lit (.int .i64 0), .lit .nilIface] [(0, 0, 1, (.t 13))]), none⟩,
  ⟨(some 15), .op (.box 130 3 (.t 14)), none⟩,
  ⟨(some 4), .op (.asg (.t 15)), none⟩]
@[go_sem] def plan_Read_r2 : List AO := [⟨(some 16), .op (.mv (.t 4)), none⟩,
  ⟨(some 17), .callx (.f 81) [(false, (.c (.string ⟨#[76,80]⟩)))] [.x (.t 16), .p 0] [128, 9], none⟩]
@[go_sem] def plan_Read_r3 : List AO := [⟨(some 18), .op (.mv (.t 4)), none⟩,
  ⟨(some 19), .callx (.f 86) [] [.x (.t 18)] [128], none⟩,
  ⟨(some 20), .op (.build 65 [.lit (.int .i64 0), .own 3 0 [], .own 3 0 [], .own 2 0 [], .own 6 0 [], .lit (.int .i64 0), .lit (.int .i64 0)] [(0, 0, 1, (.t 19))]), none⟩,
  ⟨(some 5), .op (.alloc 65 [.lit (.int .i64 0), .own 3 0 [], .own 3 0 [], .own 2 0 [], .own 6 0 [], .lit (.int .i64 0), .lit (.int .i64 0)]), none⟩,
  ⟨none, .op (.store 65 7 (.t 5) (.t 20)), none⟩]
@[go_sem] def plan_Read_r4 : List AO := [⟨(some 21), .op (.mv (.t 4)), none⟩,
  ⟨(some 22), .op (.mv (.t 4)), none⟩,
  ⟨(some 23), .op (.mkf 83 [(.t 22)] []), none⟩,
  ⟨(some 24), .callx (.f 82) [(false, (.c (.int .i64 (128))))] [.x (.t 21), .p 0, .x (.t 23)] [128, 3, 133], none⟩,
  ⟨(some 6), .op (.asg (.t 24)), none⟩]
@[go_sem] def plan_Read_r5 : List AO := [⟨(some 25), .op (.mv (.t 6)), none⟩,
  ⟨(some 26), .op (.bin .gtr 3 0 (.t 25) (.c (.int .i64 (0))) 3), none⟩,
  ⟨(some 27), .op (.mv (.t 26)), none⟩,
  ⟨(some 28), .op (.mv (.t 4)), (some (2, 27, true))⟩,
  ⟨(some 29), .op (.nilck (.t 28)), (some (2, 27, true))⟩,
  ⟨(some 30), .op (.faddr 130 2 (.t 29) 2), (some (2, 27, true))⟩,
  ⟨(some 31), .op (.load 26 none (.t 30)), (some (2, 27, true))⟩,
  ⟨(some 32), .op (.bin .eql 26 2 (.t 31) (.c .nilIface) 26), (some (2, 27, true))⟩,
  ⟨(some 33), .op (.pick (.t 27) (.t 32) (.c (.bool false))), none⟩]
@[go_sem] def plan_Read_r7 : List AO := [⟨(some 36), .op (.mv (.t 4)), none⟩,
  ⟨(some 37), .callx (.f 86) [] [.x (.t 36)] [128], none⟩,
  ⟨(some 7), .op (.asg (.t 37)), none⟩]
@[go_sem] def plan_Read_r8 : List AO := [⟨(some 38), .op (.faddr 65 1 (.t 5) 1), none⟩,
  ⟨(some 39), .op (.load 60 none (.t 38)), none⟩,
  ⟨(some 40), .op (.mv (.t 7)), none⟩,
  ⟨(some 41), .op (.mv (.t 4)), none⟩,
  ⟨(some 42), .callx (.f 92) [] [.x (.t 41)] [128], none⟩,
  ⟨(some 43), .op (.build 74 [.lit (.int .i64 0), .own 1 0 [], .lit (.bool false)] [(0, 0, 1, (.t 40)), (1, 1, 2, (.t 42))]), none⟩,
  ⟨(some 44), .op (.bslice 60 74 3 1 [.lit (.int .i64 0), .own 1 0 [], .lit (.bool false)] [(0, (.t 43))]), none⟩,
  ⟨(some 45), .op (.app 60 74 3 40 (.t 39) (.t 44)), none⟩,
  ⟨(some 46), .op (.faddr 65 1 (.t 5) 1), none⟩,
  ⟨none, .op (.store 60 1 (.t 46) (.t 45)), none⟩]
@[go_sem] def plan_Read_r6 : List AO := [⟨(some 34), .op (.mv (.t 6)), none⟩,
  ⟨(some 35), .op (.bin .sub 3 0 (.t 34) (.c (.int .i64 (1))) 3), none⟩,
  ⟨(some 6), .op (.asg (.t 35)), none⟩]
def plan_Read_l0 : IC := (.seq (.seq (.reg plan_Read_r5) (.cond (.t 33) .skip (.exit 0))) (.seq (.block 1 (.seq (.reg plan_Read_r7) (.draw plan_Read_r8 [[], [0], [], [], [3], [2, 4], [5], [1, 6, 4], [0, 1, 2, 3, 4, 5, 6, 7], [8, 7, 7, 0, 1, 2, 3, 4, 5, 6, 7]]))) (.reg plan_Read_r6)))
@[go_sem] def plan_Read_r9 : List AO := [⟨(some 47), .op (.mv (.t 4)), none⟩,
  ⟨(some 48), .op (.mv (.t 4)), none⟩,
  ⟨(some 49), .op (.mkf 83 [(.t 48)] []), none⟩,
  ⟨(some 50), .callx (.f 82) [(false, (.c (.int .i64 (64))))] [.x (.t 47), .p 0, .x (.t 49)] [128, 3, 133], none⟩,
  ⟨(some 8), .op (.asg (.c (.int .i64 (0)))), none⟩,
  ⟨(some 9), .op (.asg (.t 50)), none⟩]
@[go_sem] def plan_Read_r10 : List AO := [⟨(some 51), .op (.mv (.t 8)), none⟩,
  ⟨(some 52), .op (.mv (.t 9)), none⟩,
  ⟨(some 53), .op (.bin .lss 3 0 (.t 51) (.t 52) 3), none⟩,
  ⟨(some 54), .op (.mv (.t 53)), none⟩,
  ⟨(some 55), .op (.mv (.t 4)), (some (3, 54, true))⟩,
  ⟨(some 56), .op (.nilck (.t 55)), (some (3, 54, true))⟩,
  ⟨(some 57), .op (.faddr 130 2 (.t 56) 2), (some (3, 54, true))⟩,
  ⟨(some 58), .op (.load 26 none (.t 57)), (some (3, 54, true))⟩,
  ⟨(some 59), .op (.bin .eql 26 2 (.t 58) (.c .nilIface) 26), (some (3, 54, true))⟩,
  ⟨(some 60), .op (.pick (.t 54) (.t 59) (.c (.bool false))), none⟩]
@[go_sem] def plan_Read_r12 : List AO := [⟨(some 63), .op (.faddr 65 2 (.t 5) 2), none⟩,
  ⟨(some 64), .op (.load 61 none (.t 63)), none⟩,
  ⟨(some 65), .op (.mv (.t 4)), none⟩,
  ⟨(some 66), .op (.mv (.t 8)), none⟩,
  ⟨(some 67), .callx (.f 87) [(false, (.t 66))] [.x (.t 65), .p 0] [128, 3], none⟩,
  ⟨(some 68), .op (.bslice 61 56 3 1 [.own 1 0 [], .lit (.bool false), .own 1 0 []] [(0, (.t 67))]), none⟩,
  ⟨(some 69), .op (.app 61 56 3 56 (.t 64) (.t 68)), none⟩,
  ⟨(some 70), .op (.faddr 65 2 (.t 5) 2), none⟩,
  ⟨none, .op (.store 61 1 (.t 70) (.t 69)), none⟩]
@[go_sem] def plan_Read_r11 : List AO := [⟨(some 61), .op (.mv (.t 8)), none⟩,
  ⟨(some 62), .op (.bin .add 3 0 (.t 61) (.c (.int .i64 (1))) 3), none⟩,
  ⟨(some 8), .op (.asg (.t 62)), none⟩]
def plan_Read_l1 : IC := (.seq (.seq (.reg plan_Read_r10) (.cond (.t 60) .skip (.exit 2))) (.seq (.block 3 (.draw plan_Read_r12 [[], [0], [], [], [2, 3], [4], [1, 5, 4], [0, 1, 2, 3, 4, 5, 6], [7, 6, 6, 0, 1, 2, 3, 4, 5, 6]])) (.reg plan_Read_r11)))
@[go_sem] def plan_Read_r13 : List AO := [⟨(some 71), .op (.mv (.t 4)), none⟩,
  ⟨(some 72), .op (.mv (.t 4)), none⟩,
  ⟨(some 73), .op (.mkf 83 [(.t 72)] []), none⟩,
  ⟨(some 74), .callx (.f 82) [(false, (.c (.int .i64 (8))))] [.x (.t 71), .p 0, .x (.t 73)] [128, 3, 133], none⟩,
  ⟨(some 10), .op (.asg (.t 74)), none⟩]
@[go_sem] def plan_Read_r14 : List AO := [⟨(some 75), .op (.mv (.t 10)), none⟩,
  ⟨(some 76), .op (.bin .gtr 3 0 (.t 75) (.c (.int .i64 (0))) 3), none⟩,
  ⟨(some 77), .op (.mv (.t 76)), none⟩,
  ⟨(some 78), .op (.mv (.t 4)), (some (2, 77, true))⟩,
  ⟨(some 79), .op (.nilck (.t 78)), (some (2, 77, true))⟩,
  ⟨(some 80), .op (.faddr 130 2 (.t 79) 2), (some (2, 77, true))⟩,
  ⟨(some 81), .op (.load 26 none (.t 80)), (some (2, 77, true))⟩,
  ⟨(some 82), .op (.bin .eql 26 2 (.t 81) (.c .nilIface) 26), (some (2, 77, true))⟩,
  ⟨(some 83), .op (.pick (.t 77) (.t 82) (.c (.bool false))), none⟩]
@[go_sem] def plan_Read_r16 : List AO := [⟨(some 86), .op (.faddr 65 3 (.t 5) 3), none⟩,
  ⟨(some 87), .op (.load 62 none (.t 86)), none⟩,
  ⟨(some 88), .op (.mv (.t 4)), none⟩,
  ⟨(some 89), .callx (.f 92) [] [.x (.t 88)] [128], none⟩,
  ⟨(some 90), .op (.bslice 62 54 2 1 [.own 1 0 [], .lit (.bool false)] [(0, (.t 89))]), none⟩,
  ⟨(some 91), .op (.app 62 54 2 32 (.t 87) (.t 90)), none⟩,
  ⟨(some 92), .op (.faddr 65 3 (.t 5) 3), none⟩,
  ⟨none, .op (.store 62 1 (.t 92) (.t 91)), none⟩]
@[go_sem] def plan_Read_r15 : List AO := [⟨(some 84), .op (.mv (.t 10)), none⟩,
  ⟨(some 85), .op (.bin .sub 3 0 (.t 84) (.c (.int .i64 (1))) 3), none⟩,
  ⟨(some 10), .op (.asg (.t 85)), none⟩]
def plan_Read_l2 : IC := (.seq (.seq (.reg plan_Read_r14) (.cond (.t 83) .skip (.exit 4))) (.seq (.block 5 (.draw plan_Read_r16 [[], [0], [], [2], [3], [1, 4, 3], [0, 1, 2, 3, 4, 5], [6, 5, 5, 0, 1, 2, 3, 4, 5]])) (.reg plan_Read_r15)))
@[go_sem] def plan_Read_r17 : List AO := [⟨(some 93), .op (.mv (.t 4)), none⟩,
  ⟨(some 94), .op (.mv (.t 4)), none⟩,
  ⟨(some 95), .op (.mkf 83 [(.t 94)] []), none⟩,
  ⟨(some 96), .callx (.f 82) [(false, (.c (.int .i64 (2048))))] [.x (.t 93), .p 0, .x (.t 95)] [128, 3, 133], none⟩,
  ⟨(some 11), .op (.asg (.t 96)), none⟩]
@[go_sem] def plan_Read_r18 : List AO := [⟨(some 97), .op (.mv (.t 11)), none⟩,
  ⟨(some 98), .op (.bin .gtr 3 0 (.t 97) (.c (.int .i64 (0))) 3), none⟩,
  ⟨(some 99), .op (.mv (.t 98)), none⟩,
  ⟨(some 100), .op (.mv (.t 4)), (some (2, 99, true))⟩,
  ⟨(some 101), .op (.nilck (.t 100)), (some (2, 99, true))⟩,
  ⟨(some 102), .op (.faddr 130 2 (.t 101) 2), (some (2, 99, true))⟩,
  ⟨(some 103), .op (.load 26 none (.t 102)), (some (2, 99, true))⟩,
  ⟨(some 104), .op (.bin .eql 26 2 (.t 103) (.c .nilIface) 26), (some (2, 99, true))⟩,
  ⟨(some 105), .op (.pick (.t 99) (.t 104) (.c (.bool false))), none⟩]
@[go_sem] def plan_Read_r20 : List AO := [⟨(some 108), .op (.faddr 65 4 (.t 5) 4), none⟩,
  ⟨(some 109), .op (.load 63 none (.t 108)), none⟩,
  ⟨(some 110), .op (.mv (.t 4)), none⟩,
  ⟨(some 111), .callx (.f 93) [] [.x (.t 110)] [128], none⟩,
  ⟨(some 112), .op (.bslice 63 71 6 1 [.lit (.int .i64 0), .lit (.int .i64 0), .own 1 0 [], .own 1 0 [], .lit (.int .i64 0), .lit (.int .i64 0)] [(0, (.t 111))]), none⟩,
  ⟨(some 113), .op (.app 63 71 6 80 (.t 109) (.t 112)), none⟩,
  ⟨(some 114), .op (.faddr 65 4 (.t 5) 4), none⟩,
  ⟨none, .op (.store 63 1 (.t 114) (.t 113)), none⟩]
@[go_sem] def plan_Read_r19 : List AO := [⟨(some 106), .op (.mv (.t 11)), none⟩,
  ⟨(some 107), .op (.bin .sub 3 0 (.t 106) (.c (.int .i64 (1))) 3), none⟩,
  ⟨(some 11), .op (.asg (.t 107)), none⟩]
def plan_Read_l3 : IC := (.seq (.seq (.reg plan_Read_r18) (.cond (.t 105) .skip (.exit 6))) (.seq (.block 7 (.draw plan_Read_r20 [[], [0], [], [2], [3], [1, 4, 3], [0, 1, 2, 3, 4, 5], [6, 5, 5, 0, 1, 2, 3, 4, 5]])) (.reg plan_Read_r19)))
@[go_sem] def plan_Read_r21 : List AO := [⟨(some 115), .op (.mv (.t 4)), none⟩,
  ⟨(some 116), .callx (.f 86) [] [.x (.t 115)] [128], none⟩,
  ⟨(some 117), .op (.mv (.t 4)), none⟩,
  ⟨(some 118), .callx (.f 86) [] [.x (.t 117)] [128], none⟩,
  ⟨(some 119), .op (.faddr 65 5 (.t 5) 5), none⟩,
  ⟨none, .op (.store 3 1 (.t 119) (.t 116)), none⟩,
  ⟨(some 120), .op (.faddr 65 6 (.t 5) 6), none⟩,
  ⟨none, .op (.store 3 1 (.t 120) (.t 118)), none⟩]
@[go_sem] def plan_Read_r22 : List AO := [⟨(some 121), .op (.mv (.t 4)), none⟩,
  ⟨(some 122), .callx (.f 88) [] [.x (.t 121)] [128], none⟩,
  ⟨(some 12), .op (.asg (.t 122)), none⟩]
@[go_sem] def plan_Read_r23 : List AO := [⟨(some 123), .op (.mv (.t 12)), none⟩,
  ⟨(some 124), .op (.bin .neq 26 2 (.t 123) (.c .nilIface) 26), none⟩]
@[go_sem] def plan_Read_r24 : List AO := [⟨(some 125), .op (.build 65 [.lit (.int .i64 0), .sl 0 [], .sl 0 [], .sl 0 [], .sl 0 [], .lit (.int .i64 0), .lit (.int .i64 0)] []), none⟩,
  ⟨(some 126), .op (.mv (.t 12)), none⟩,
  ⟨none, .op (.store 65 7 (.t 2) (.t 125)), none⟩,
  ⟨(some 3), .op (.asg (.t 126)), none⟩]
@[go_sem] def plan_Read_r25 : List AO := [⟨(some 127), .op (.load 65 (some 7) (.t 5)), none⟩,
  ⟨none, .op (.store 65 7 (.t 2) (.t 127)), none⟩,
  ⟨(some 3), .op (.asg (.c .nilIface)), none⟩]
def plan_Read_c : IC := (.seq (.reg plan_Read_r0) (.seq (.reg plan_Read_r1) (.seq (.reg plan_Read_r2) (.seq (.reg plan_Read_r3) (.seq (.seq (.reg plan_Read_r4) (.block 0 (.loop plan_Read_l0))) (.seq (.seq (.reg plan_Read_r9) (.block 2 (.loop plan_Read_l1))) (.seq (.seq (.reg plan_Read_r13) (.block 4 (.loop plan_Read_l2))) (.seq (.seq (.reg plan_Read_r17) (.block 6 (.loop plan_Read_l3))) (.seq (.reg plan_Read_r21) (.seq (.seq (.reg plan_Read_r22) (.seq (.reg plan_Read_r23) (.cond (.t 124) (.seq (.reg plan_Read_r24) .ret) .skip))) (.seq (.reg plan_Read_r25) .ret)))))))))))
abbrev F_plan_Read : Nat := 42
theorem plan_Read_call {G : Nat → Option Value} {pre : List AV} {res : AV} (hsz : decide (pre.length ≤ 128) = true) (h : AW pg G 128 plan_Read_c (endR [(.cells 2 7), (.tmp 3)] res) (St.init pre)) : ACalls pg G F_plan_Read pre res :=
  ACalls.of_walk (fn := Go.Proofs.Tryd.f42) (vs := [(ResultVar.cell 2 65), (ResultVar.tmp 3)]) (ic := plan_Read_c) (by kernel_rfl) (by kernel_rfl) rfl (by kernel_rfl) (by kernel_rfl) (of_decide_eq_true (by kernel_rfl)) (by kernel_rfl) (by kernel_rfl) (by kernel_rfl) (of_decide_eq_true hsz) h
@[go_sem] theorem plan_Read_fnB : fnB pg 42 = true := by kernel_rfl

@[go_sem] def plan_Bytes_r0 : List AO := [⟨(some 1), .op (.box 65 7 (.t 0)), none⟩,
  ⟨(some 2), .op (.asg (.nl 1)), none⟩,
  ⟨(some 3), .op (.asg (.c .nilIface)), none⟩]
@[go_sem] def plan_Bytes_r1 : List AO := [⟨(some 14), .op (.load 65 (some 7) (.t 1)), none⟩,
  ⟨(some 15), .call 94 [(false, (.t 14))] [65], none⟩,
  ⟨(some 4), .op (.asg (.t 15)), none⟩]
@[go_sem] def plan_Bytes_r2 : List AO := [⟨(some 16), .op (.mv (.t 4)), none⟩,
  ⟨(some 17), .op (.bin .neq 26 2 (.t 16) (.c .nilIface) 26), none⟩]
@[go_sem] def plan_Bytes_r3 : List AO := [⟨(some 18), .op (.mv (.t 4)), none⟩,
  ⟨(some 2), .op (.asg (.nl 1)), none⟩,
  ⟨(some 3), .op (.asg (.t 18)), none⟩]
@[go_sem] def plan_Bytes_r4 : List AO := [⟨(some 19), .op (.bslice 44 5 1 2 [.lit (.int .u8 0)] [(0, (.c (.int .u8 (76)))), (1, (.c (.int .u8 (80))))]), none⟩,
  ⟨(some 20), .op (.conv 44 44 .keep (.t 19)), none⟩,
  ⟨(some 21), .op (.build 105 [.own 1 0 []] [(0, 0, 1, (.t 20))]), none⟩,
  ⟨(some 22), .op (.box 105 1 (.t 21)), none⟩,
  ⟨(some 5), .op (.asg (.t 22)), none⟩]
@[go_sem] def plan_Bytes_r5 : List AO := [⟨(some 23), .op (.mv (.t 5)), none⟩,
  ⟨(some 24), .op (.faddr 65 0 (.t 1) 0), none⟩,
  ⟨(some 25), .op (.load 3 none (.t 24)), none⟩,
  ⟨(some 26), .callx (.f 55) [(false, (.t 25))] [.x (.t 23), .p 0] [103, 3], none⟩]
@[go_sem] def plan_Bytes_r6 : List AO := [⟨(some 27), .op (.mv (.t 5)), none⟩,
  ⟨(some 28), .op (.faddr 65 1 (.t 1) 1), none⟩,
  ⟨(some 29), .op (.load 60 none (.t 28)), none⟩,
  ⟨(some 30), .op (.len 60 false (.t 29)), none⟩,
  ⟨(some 31), .callx (.f 53) [(false, (.t 30))] [.x (.t 27), .p 0] [103, 3], none⟩]
@[go_sem] def plan_Bytes_r7 : List AO := [⟨(some 32), .op (.faddr 65 1 (.t 1) 1), none⟩,
  ⟨(some 33), .op (.load 60 none (.t 32)), none⟩,
  ⟨(some 34), .op (.len 60 false (.t 33)), none⟩,
  ⟨(some 35), .op (.mv (.c (.int .i64 (0)))), none⟩]
@[go_sem] def plan_Bytes_r8 : List AO := [⟨(some 36), .op (.bin .lss 3 0 (.t 35) (.t 34) 3), none⟩]
@[go_sem] def plan_Bytes_r9 : List AO := [⟨(some 37), .op (.iaddr 60 3 (.t 33) (.t 35)), none⟩,
  ⟨(some 38), .op (.load 74 (some 3) (.t 37)), none⟩,
  ⟨(some 7), .op (.alloc 74 [.lit (.int .i64 0), .own 1 0 [], .lit (.bool false)]), none⟩,
  ⟨none, .op (.store 74 3 (.t 7) (.t 38)), none⟩]
@[go_sem] def plan_Bytes_r10 : List AO := [⟨(some 39), .op (.mv (.t 5)), none⟩,
  ⟨(some 40), .op (.faddr 74 0 (.t 7) 0), none⟩,
  ⟨(some 41), .op (.load 3 none (.t 40)), none⟩,
  ⟨(some 42), .callx (.f 55) [(false, (.t 41))] [.x (.t 39), .p 0] [103, 3], none⟩]
@[go_sem] def plan_Bytes_r11 : List AO := [⟨(some 43), .op (.mv (.t 5)), none⟩,
  ⟨(some 44), .op (.faddr 74 1 (.t 7) 1), none⟩,
  ⟨(some 45), .op (.load 54 (some 2) (.t 44)), none⟩,
  ⟨(some 46), .callx (.f 95) [(false, (.t 45))] [.x (.t 43), .p 0] [103, 54], none⟩]
@[go_sem] def plan_Bytes_r12 : List AO := [⟨(some 47), .op (.bin .add 3 0 (.t 35) (.c (.int .i64 (1))) 3), none⟩,
  ⟨(some 35), .op (.mv (.t 47)), none⟩]
def plan_Bytes_l0 : IC := (.seq (.reg plan_Bytes_r8) (.seq (.cond (.t 36) .skip (.exit 0)) (.seq (.block 1 (.seq (.reg plan_Bytes_r9) (.seq (.reg plan_Bytes_r10) (.reg plan_Bytes_r11)))) (.reg plan_Bytes_r12))))
@[go_sem] def plan_Bytes_r13 : List AO := [⟨(some 48), .op (.mv (.t 5)), none⟩,
  ⟨(some 49), .op (.faddr 65 2 (.t 1) 2), none⟩,
  ⟨(some 50), .op (.load 61 none (.t 49)), none⟩,
  ⟨(some 51), .op (.len 61 false (.t 50)), none⟩,
  ⟨(some 52), .callx (.f 53) [(false, (.t 51))] [.x (.t 48), .p 0] [103, 3], none⟩]
@[go_sem] def plan_Bytes_r14 : List AO := [⟨(some 53), .op (.faddr 65 2 (.t 1) 2), none⟩,
  ⟨(some 54), .op (.load 61 none (.t 53)), none⟩,
  ⟨(some 55), .op (.len 61 false (.t 54)), none⟩,
  ⟨(some 56), .op (.mv (.c (.int .i64 (0)))), none⟩]
@[go_sem] def plan_Bytes_r15 : List AO := [⟨(some 57), .op (.bin .lss 3 0 (.t 56) (.t 55) 3), none⟩]
@[go_sem] def plan_Bytes_r16 : List AO := [⟨(some 58), .op (.iaddr 61 3 (.t 54) (.t 56)), none⟩,
  ⟨(some 59), .op (.load 56 (some 3) (.t 58)), none⟩,
  ⟨(some 9), .op (.alloc 56 [.own 1 0 [], .lit (.bool false), .own 1 0 []]), none⟩,
  ⟨none, .op (.store 56 3 (.t 9) (.t 59)), none⟩]
@[go_sem] def plan_Bytes_r17 : List AO := [⟨(some 60), .op (.mv (.t 5)), none⟩,
  ⟨(some 61), .op (.mv (.t 5)), none⟩,
  ⟨(some 62), .op (.nilck (.t 61)), none⟩,
  ⟨(some 63), .op (.faddr 105 0 (.t 62) 0), none⟩,
  ⟨(some 64), .op (.load 44 none (.t 63)), none⟩,
  ⟨(some 65), .op (.load 56 (some 3) (.t 9)), none⟩,
  ⟨(some 66), .call 56 [(false, (.t 65))] [56], none⟩,
  ⟨(some 67), .op (.app 44 5 1 1 (.t 64) (.t 66)), none⟩,
  ⟨(some 68), .op (.nilck (.t 60)), none⟩,
  ⟨(some 69), .op (.faddr 105 0 (.t 68) 0), none⟩,
  ⟨none, .op (.store 44 1 (.t 69) (.t 67)), none⟩]
@[go_sem] def plan_Bytes_r18 : List AO := [⟨(some 70), .op (.bin .add 3 0 (.t 56) (.c (.int .i64 (1))) 3), none⟩,
  ⟨(some 56), .op (.mv (.t 70)), none⟩]
def plan_Bytes_l1 : IC := (.seq (.reg plan_Bytes_r15) (.seq (.cond (.t 57) .skip (.exit 2)) (.seq (.block 3 (.seq (.reg plan_Bytes_r16) (.draw plan_Bytes_r17 [[], [], [1], [2], [3], [], [5], [4, 6, 6], [0, 0, 1, 2, 3, 4, 5, 6, 7], [8, 0, 1, 2, 3, 4, 5, 6, 7], [9, 7, 7, 0, 1, 2, 3, 4, 5, 6, 7]]))) (.reg plan_Bytes_r18))))
@[go_sem] def plan_Bytes_r19 : List AO := [⟨(some 71), .op (.mv (.t 5)), none⟩,
  ⟨(some 72), .op (.faddr 65 3 (.t 1) 3), none⟩,
  ⟨(some 73), .op (.load 62 none (.t 72)), none⟩,
  ⟨(some 74), .op (.len 62 false (.t 73)), none⟩,
  ⟨(some 75), .callx (.f 53) [(false, (.t 74))] [.x (.t 71), .p 0] [103, 3], none⟩]
@[go_sem] def plan_Bytes_r20 : List AO := [⟨(some 76), .op (.faddr 65 3 (.t 1) 3), none⟩,
  ⟨(some 77), .op (.load 62 none (.t 76)), none⟩,
  ⟨(some 78), .op (.len 62 false (.t 77)), none⟩,
  ⟨(some 79), .op (.mv (.c (.int .i64 (0)))), none⟩]
@[go_sem] def plan_Bytes_r21 : List AO := [⟨(some 80), .op (.bin .lss 3 0 (.t 79) (.t 78) 3), none⟩]
@[go_sem] def plan_Bytes_r22 : List AO := [⟨(some 81), .op (.iaddr 62 2 (.t 77) (.t 79)), none⟩,
  ⟨(some 82), .op (.load 54 (some 2) (.t 81)), none⟩,
  ⟨(some 11), .op (.alloc 54 [.own 1 0 [], .lit (.bool false)]), none⟩,
  ⟨none, .op (.store 54 2 (.t 11) (.t 82)), none⟩]
@[go_sem] def plan_Bytes_r23 : List AO := [⟨(some 83), .op (.mv (.t 5)), none⟩,
  ⟨(some 84), .op (.load 54 (some 2) (.t 11)), none⟩,
  ⟨(some 85), .callx (.f 95) [(false, (.t 84))] [.x (.t 83), .p 0] [103, 54], none⟩]
@[go_sem] def plan_Bytes_r24 : List AO := [⟨(some 86), .op (.bin .add 3 0 (.t 79) (.c (.int .i64 (1))) 3), none⟩,
  ⟨(some 79), .op (.mv (.t 86)), none⟩]
def plan_Bytes_l2 : IC := (.seq (.reg plan_Bytes_r21) (.seq (.cond (.t 80) .skip (.exit 4)) (.seq (.block 5 (.seq (.reg plan_Bytes_r22) (.reg plan_Bytes_r23))) (.reg plan_Bytes_r24))))
@[go_sem] def plan_Bytes_r25 : List AO := [⟨(some 87), .op (.mv (.t 5)), none⟩,
  ⟨(some 88), .op (.faddr 65 4 (.t 1) 4), none⟩,
  ⟨(some 89), .op (.load 63 none (.t 88)), none⟩,
  ⟨(some 90), .op (.len 63 false (.t 89)), none⟩,
  ⟨(some 91), .callx (.f 53) [(false, (.t 90))] [.x (.t 87), .p 0] [103, 3], none⟩]
@[go_sem] def plan_Bytes_r26 : List AO := [⟨(some 92), .op (.faddr 65 4 (.t 1) 4), none⟩,
  ⟨(some 93), .op (.load 63 none (.t 92)), none⟩,
  ⟨(some 94), .op (.len 63 false (.t 93)), none⟩,
  ⟨(some 95), .op (.mv (.c (.int .i64 (0)))), none⟩]
@[go_sem] def plan_Bytes_r27 : List AO := [⟨(some 96), .op (.bin .lss 3 0 (.t 95) (.t 94) 3), none⟩]
@[go_sem] def plan_Bytes_r28 : List AO := [⟨(some 97), .op (.iaddr 63 6 (.t 93) (.t 95)), none⟩,
  ⟨(some 98), .op (.load 71 (some 6) (.t 97)), none⟩,
  ⟨(some 13), .op (.alloc 71 [.lit (.int .i64 0), .lit (.int .i64 0), .own 1 0 [], .own 1 0 [], .lit (.int .i64 0), .lit (.int .i64 0)]), none⟩,
  ⟨none, .op (.store 71 6 (.t 13) (.t 98)), none⟩]
@[go_sem] def plan_Bytes_r29 : List AO := [⟨(some 99), .op (.mv (.t 5)), none⟩,
  ⟨(some 100), .op (.load 71 (some 6) (.t 13)), none⟩,
  ⟨(some 101), .callx (.f 96) [(false, (.t 100))] [.x (.t 99), .p 0] [103, 71], none⟩]
@[go_sem] def plan_Bytes_r30 : List AO := [⟨(some 102), .op (.bin .add 3 0 (.t 95) (.c (.int .i64 (1))) 3), none⟩,
  ⟨(some 95), .op (.mv (.t 102)), none⟩]
def plan_Bytes_l3 : IC := (.seq (.reg plan_Bytes_r27) (.seq (.cond (.t 96) .skip (.exit 6)) (.seq (.block 7 (.seq (.reg plan_Bytes_r28) (.reg plan_Bytes_r29))) (.reg plan_Bytes_r30))))
@[go_sem] def plan_Bytes_r31 : List AO := [⟨(some 103), .op (.mv (.t 5)), none⟩,
  ⟨(some 104), .op (.faddr 65 5 (.t 1) 5), none⟩,
  ⟨(some 105), .op (.load 3 none (.t 104)), none⟩,
  ⟨(some 106), .callx (.f 55) [(false, (.t 105))] [.x (.t 103), .p 0] [103, 3], none⟩]
@[go_sem] def plan_Bytes_r32 : List AO := [⟨(some 107), .op (.mv (.t 5)), none⟩,
  ⟨(some 108), .op (.faddr 65 6 (.t 1) 6), none⟩,
  ⟨(some 109), .op (.load 3 none (.t 108)), none⟩,
  ⟨(some 110), .callx (.f 55) [(false, (.t 109))] [.x (.t 107), .p 0] [103, 3], none⟩]
@[go_sem] def plan_Bytes_r33 : List AO := [⟨(some 111), .op (.mv (.t 5)), none⟩,
  ⟨(some 112), .op (.nilck (.t 111)), none⟩,
  ⟨(some 113), .op (.faddr 105 0 (.t 112) 0), none⟩,
  ⟨(some 114), .op (.load 44 none (.t 113)), none⟩,
  ⟨(some 2), .op (.asg (.t 114)), none⟩,
  ⟨(some 3), .op (.asg (.c .nilIface)), none⟩]
def plan_Bytes_c : IC := (.seq (.reg plan_Bytes_r0) (.seq (.seq (.reg plan_Bytes_r1) (.seq (.reg plan_Bytes_r2) (.cond (.t 17) (.seq (.reg plan_Bytes_r3) .ret) .skip))) (.seq (.reg plan_Bytes_r4) (.seq (.reg plan_Bytes_r5) (.seq (.reg plan_Bytes_r6) (.seq (.seq (.reg plan_Bytes_r7) (.block 0 (.loop plan_Bytes_l0))) (.seq (.reg plan_Bytes_r13) (.seq (.seq (.reg plan_Bytes_r14) (.block 2 (.loop plan_Bytes_l1))) (.seq (.reg plan_Bytes_r19) (.seq (.seq (.reg plan_Bytes_r20) (.block 4 (.loop plan_Bytes_l2))) (.seq (.reg plan_Bytes_r25) (.seq (.seq (.reg plan_Bytes_r26) (.block 6 (.loop plan_Bytes_l3))) (.seq (.reg plan_Bytes_r31) (.seq (.reg plan_Bytes_r32) (.seq (.reg plan_Bytes_r33) .ret)))))))))))))))
abbrev F_plan_Bytes : Nat := 43
theorem plan_Bytes_call {G : Nat → Option Value} {pre : List AV} {res : AV} (hsz : decide (pre.length ≤ 115) = true) (h : AW pg G 115 plan_Bytes_c (endR [(.tmp 2), (.tmp 3)] res) (St.init pre)) : ACalls pg G F_plan_Bytes pre res :=
  ACalls.of_walk (fn := Go.Proofs.Tryd.f43) (vs := [(ResultVar.tmp 2), (ResultVar.tmp 3)]) (ic := plan_Bytes_c) (by kernel_rfl) (by kernel_rfl) rfl (by kernel_rfl) (by kernel_rfl) (of_decide_eq_true (by kernel_rfl)) (by kernel_rfl) (by kernel_rfl) (by kernel_rfl) (of_decide_eq_true hsz) h
@[go_sem] theorem plan_Bytes_fnB : fnB pg 43 = true := by kernel_rfl

@[go_sem] def plan_Reader_Desc_r0 : List AO := [⟨(some 2), .op (.alloc 54 [.own 1 0 [], .lit (.bool false)]), none⟩]
@[go_sem] def plan_Reader_Desc_r1 : List AO := [⟨(some 7), .op (.mv (.t 0)), none⟩,
  ⟨(some 8), .op (.nilck (.t 7)), none⟩,
  ⟨(some 9), .op (.faddr 130 1 (.t 8) 1), none⟩,
  ⟨(some 10), .op (.load 3 none (.t 9)), none⟩,
  ⟨(some 3), .op (.asg (.t 10)), none⟩]
@[go_sem] def plan_Reader_Desc_r2 : List AO := [⟨(some 11), .op (.mv (.t 0)), none⟩,
  ⟨(some 12), .callx (.f 84) [] [.x (.t 11)] [128], none⟩,
  ⟨(some 4), .op (.asg (.t 12)), none⟩]
@[go_sem] def plan_Reader_Desc_r3 : List AO := [⟨(some 13), .op (.mv (.t 0)), none⟩,
  ⟨(some 14), .op (.nilck (.t 13)), none⟩,
  ⟨(some 15), .op (.faddr 130 2 (.t 14) 2), none⟩,
  ⟨(some 16), .op (.load 26 none (.t 15)), none⟩,
  ⟨(some 17), .op (.bin .eql 26 2 (.t 16) (.c .nilIface) 26), none⟩,
  ⟨(some 18), .op (.mv (.t 17)), none⟩,
  ⟨(some 19), .op (.mv (.t 4)), (some (5, 18, true))⟩,
  ⟨(some 20), .op (.bin .geq 3 0 (.t 19) (.c (.int .i64 (16))) 3), (some (5, 18, true))⟩,
  ⟨(some 21), .op (.pick (.t 18) (.t 20) (.c (.bool false))), none⟩]
@[go_sem] def plan_Reader_Desc_r4 : List AO := [⟨(some 22), .op (.mv (.t 0)), none⟩,
  ⟨(some 23), .op (.mv (.t 3)), none⟩,
  ⟨(some 24), .op (.load 26 none (.g 5)), none⟩,
  ⟨(some 25), .callx (.f 121) [(false, (.t 23)), (false, (.t 24))] [.x (.t 22), .p 0, .p 1] [128, 3, 26], none⟩]
@[go_sem] def plan_Reader_Desc_r5 : List AO := [⟨(some 26), .op (.mv (.t 4)), none⟩,
  ⟨(some 27), .op (.bin .and 3 0 (.t 26) (.c (.int .i64 (8))) 3), none⟩,
  ⟨(some 28), .op (.bin .neq 3 0 (.t 27) (.c (.int .i64 (0))) 3), none⟩,
  ⟨(some 29), .op (.build 54 [.own 1 0 [], .lit (.bool false)] [(1, 1, 1, (.t 28))]), none⟩,
  ⟨(some 5), .op (.alloc 54 [.own 1 0 [], .lit (.bool false)]), none⟩,
  ⟨none, .op (.store 54 2 (.t 5) (.t 29)), none⟩]
@[go_sem] def plan_Reader_Desc_r6 : List AO := [⟨(some 30), .op (.mv (.t 4)), none⟩,
  ⟨(some 31), .op (.bin .andNot 3 0 (.t 30) (.c (.int .i64 (8))) 3), none⟩,
  ⟨(some 6), .op (.asg (.t 31)), none⟩]
@[go_sem] def plan_Reader_Desc_r7 : List AO := [⟨(some 32), .op (.mv (.t 6)), none⟩,
  ⟨(some 33), .op (.bin .gtr 3 0 (.t 32) (.c (.int .i64 (0))) 3), none⟩,
  ⟨(some 34), .op (.mv (.t 33)), none⟩,
  ⟨(some 35), .op (.mv (.t 0)), (some (2, 34, true))⟩,
  ⟨(some 36), .op (.nilck (.t 35)), (some (2, 34, true))⟩,
  ⟨(some 37), .op (.faddr 130 2 (.t 36) 2), (some (2, 34, true))⟩,
  ⟨(some 38), .op (.load 26 none (.t 37)), (some (2, 34, true))⟩,
  ⟨(some 39), .op (.bin .eql 26 2 (.t 38) (.c .nilIface) 26), (some (2, 34, true))⟩,
  ⟨(some 40), .op (.pick (.t 34) (.t 39) (.c (.bool false))), none⟩]
@[go_sem] def plan_Reader_Desc_r9 : List AO := [⟨(some 43), .op (.faddr 54 0 (.t 5) 0), none⟩,
  ⟨(some 44), .op (.load 24 none (.t 43)), none⟩,
  ⟨(some 45), .op (.mv (.t 0)), none⟩,
  ⟨(some 46), .callx (.f 83) [] [.x (.t 45)] [128], none⟩,
  ⟨(some 47), .op (.bslice 24 3 1 1 [.lit (.int .i64 0)] [(0, (.t 46))]), none⟩,
  ⟨(some 48), .op (.app 24 3 1 8 (.t 44) (.t 47)), none⟩,
  ⟨(some 49), .op (.faddr 54 0 (.t 5) 0), none⟩,
  ⟨none, .op (.store 24 1 (.t 49) (.t 48)), none⟩]
@[go_sem] def plan_Reader_Desc_r8 : List AO := [⟨(some 41), .op (.mv (.t 6)), none⟩,
  ⟨(some 42), .op (.bin .sub 3 0 (.t 41) (.c (.int .i64 (1))) 3), none⟩,
  ⟨(some 6), .op (.asg (.t 42)), none⟩]
def plan_Reader_Desc_l0 : IC := (.seq (.seq (.reg plan_Reader_Desc_r7) (.cond (.t 40) .skip (.exit 0))) (.seq (.block 1 (.draw plan_Reader_Desc_r9 [[], [0], [], [2], [3], [1, 4, 3], [0, 1, 2, 3, 4, 5], [6, 5, 5, 0, 1, 2, 3, 4, 5]])) (.reg plan_Reader_Desc_r8)))
@[go_sem] def plan_Reader_Desc_r10 : List AO := [⟨(some 50), .op (.load 54 (some 2) (.t 5)), none⟩,
  ⟨none, .op (.store 54 2 (.t 2) (.t 50)), none⟩]
def plan_Reader_Desc_c : IC := (.seq (.reg plan_Reader_Desc_r0) (.seq (.reg plan_Reader_Desc_r1) (.seq (.reg plan_Reader_Desc_r2) (.seq (.seq (.reg plan_Reader_Desc_r3) (.cond (.t 21) (.reg plan_Reader_Desc_r4) .skip)) (.seq (.reg plan_Reader_Desc_r5) (.seq (.seq (.reg plan_Reader_Desc_r6) (.block 0 (.loop plan_Reader_Desc_l0))) (.seq (.reg plan_Reader_Desc_r10) .ret)))))))
abbrev F_plan_Reader_Desc : Nat := 92
@[go_sem] theorem plan_Reader_Desc_fnB : fnB pg 92 = true := by kernel_rfl
theorem plan_Reader_Desc_callX {G : Nat → Option Value} {pre : List AV} {res : AV} {posts : List (Nat × AV)} {pins : List Nat} (hpin : plan_Reader_Desc_c.pin pins = true) (hpo : posts.map (·.1) = pins) (hpr : (pins.all fun t => !([(ResultVar.cell 2 54)].map rvT).contains t && decide (t < pre.length)) = true) (hnr : (posts.all fun p => noRef p.2) = true) (hsz : decide (pre.length ≤ 51) = true) (h : AW pg G 51 plan_Reader_Desc_c (endRX [(.cells 2 2)] res posts) (St.init pre)) : ACallsX pg G F_plan_Reader_Desc pre res posts :=
  ACallsX.of_walk (fn := Go.Proofs.Tryd.f92) (vs := [(ResultVar.cell 2 54)]) (ic := plan_Reader_Desc_c) (by kernel_rfl) (by kernel_rfl) rfl (by kernel_rfl) (by kernel_rfl) (of_decide_eq_true (by kernel_rfl)) (by kernel_rfl) (by kernel_rfl) (by kernel_rfl) hpin (of_decide_eq_true hsz) hpo hpr hnr h

@[go_sem] def plan_Reader_instr_r0 : List AO := [⟨(some 2), .op (.alloc 71 [.lit (.int .i64 0), .lit (.int .i64 0), .own 1 0 [], .own 1 0 [], .lit (.int .i64 0), .lit (.int .i64 0)]), none⟩]
@[go_sem] def plan_Reader_instr_r1 : List AO := [⟨(some 4), .op (.mv (.t 0)), none⟩,
  ⟨(some 5), .callx (.f 84) [] [.x (.t 4)] [128], none⟩,
  ⟨(some 6), .op (.mv (.t 0)), none⟩,
  ⟨(some 7), .callx (.f 86) [] [.x (.t 6)] [128], none⟩,
  ⟨(some 8), .op (.build 71 [.lit (.int .i64 0), .lit (.int .i64 0), .own 1 0 [], .own 1 0 [], .lit (.int .i64 0), .lit (.int .i64 0)] [(0, 0, 1, (.t 5)), (1, 1, 1, (.t 7))]), none⟩,
  ⟨(some 3), .op (.alloc 71 [.lit (.int .i64 0), .lit (.int .i64 0), .own 1 0 [], .own 1 0 [], .lit (.int .i64 0), .lit (.int .i64 0)]), none⟩,
  ⟨none, .op (.store 71 6 (.t 3) (.t 8)), none⟩]
@[go_sem] def plan_Reader_instr_r2 : List AO := [⟨(some 9), .op (.mv (.t 0)), none⟩,
  ⟨(some 10), .op (.mv (.t 0)), none⟩,
  ⟨(some 11), .op (.mkf 86 [(.t 10)] []), none⟩,
  ⟨(some 12), .callx (.f 85) [] [.x (.t 9), .x (.t 11)] [128, 133], none⟩,
  ⟨(some 13), .op (.mv (.t 0)), none⟩,
  ⟨(some 14), .op (.mv (.t 0)), none⟩,
  ⟨(some 15), .op (.mkf 86 [(.t 14)] []), none⟩,
  ⟨(some 16), .callx (.f 85) [] [.x (.t 13), .x (.t 15)] [128, 133], none⟩,
  ⟨(some 17), .op (.faddr 71 2 (.t 3) 2), none⟩,
  ⟨none, .op (.store 24 1 (.t 17) (.t 12)), none⟩,
  ⟨(some 18), .op (.faddr 71 3 (.t 3) 3), none⟩,
  ⟨none, .op (.store 24 1 (.t 18) (.t 16)), none⟩]
@[go_sem] def plan_Reader_instr_r3 : List AO := [⟨(some 19), .op (.mv (.t 0)), none⟩,
  ⟨(some 20), .callx (.f 86) [] [.x (.t 19)] [128], none⟩,
  ⟨(some 21), .op (.mv (.t 0)), none⟩,
  ⟨(some 22), .callx (.f 86) [] [.x (.t 21)] [128], none⟩,
  ⟨(some 23), .op (.faddr 71 4 (.t 3) 4), none⟩,
  ⟨none, .op (.store 3 1 (.t 23) (.t 20)), none⟩,
  ⟨(some 24), .op (.faddr 71 5 (.t 3) 5), none⟩,
  ⟨none, .op (.store 3 1 (.t 24) (.t 22)), none⟩]
@[go_sem] def plan_Reader_instr_r4 : List AO := [⟨(some 25), .op (.load 71 (some 6) (.t 3)), none⟩,
  ⟨none, .op (.store 71 6 (.t 2) (.t 25)), none⟩]
def plan_Reader_instr_c : IC := (.seq (.reg plan_Reader_instr_r0) (.seq (.reg plan_Reader_instr_r1) (.seq (.reg plan_Reader_instr_r2) (.seq (.reg plan_Reader_instr_r3) (.seq (.reg plan_Reader_instr_r4) .ret)))))
abbrev F_plan_Reader_instr : Nat := 93
@[go_sem] theorem plan_Reader_instr_fnB : fnB pg 93 = true := by kernel_rfl
theorem plan_Reader_instr_callX {G : Nat → Option Value} {pre : List AV} {res : AV} {posts : List (Nat × AV)} {pins : List Nat} (hpin : plan_Reader_instr_c.pin pins = true) (hpo : posts.map (·.1) = pins) (hpr : (pins.all fun t => !([(ResultVar.cell 2 71)].map rvT).contains t && decide (t < pre.length)) = true) (hnr : (posts.all fun p => noRef p.2) = true) (hsz : decide (pre.length ≤ 26) = true) (h : AW pg G 26 plan_Reader_instr_c (endRX [(.cells 2 6)] res posts) (St.init pre)) : ACallsX pg G F_plan_Reader_instr pre res posts :=
  ACallsX.of_walk (fn := Go.Proofs.Tryd.f93) (vs := [(ResultVar.cell 2 71)]) (ic := plan_Reader_instr_c) (by kernel_rfl) (by kernel_rfl) rfl (by kernel_rfl) (by kernel_rfl) (of_decide_eq_true (by kernel_rfl)) (by kernel_rfl) (by kernel_rfl) (by kernel_rfl) hpin (of_decide_eq_true hsz) hpo hpr hnr h

@[go_sem] def plan_fair_r0 : List AO := [⟨(some 1), .op (.box 65 7 (.t 0)), none⟩,
  ⟨(some 2), .op (.asg (.c .nilIface)), none⟩]
@[go_sem] def plan_fair_r1 : List AO := [⟨(some 12), .op (.faddr 65 1 (.t 1) 1), none⟩,
  ⟨(some 13), .op (.load 60 none (.t 12)), none⟩,
  ⟨(some 14), .op (.len 60 false (.t 13)), none⟩,
  ⟨(some 15), .op (.bin .gtr 3 0 (.t 14) (.c (.int .i64 (128))) 3), none⟩,
  ⟨(some 16), .op (.mv (.t 15)), none⟩,
  ⟨(some 17), .op (.faddr 65 2 (.t 1) 2), (some (4, 16, false))⟩,
  ⟨(some 18), .op (.load 61 none (.t 17)), (some (4, 16, false))⟩,
  ⟨(some 19), .op (.len 61 false (.t 18)), (some (4, 16, false))⟩,
  ⟨(some 20), .op (.bin .gtr 3 0 (.t 19) (.c (.int .i64 (64))) 3), (some (4, 16, false))⟩,
  ⟨(some 21), .op (.pick (.t 16) (.c (.bool true)) (.t 20)), none⟩,
  ⟨(some 22), .op (.mv (.t 21)), none⟩,
  ⟨(some 23), .op (.faddr 65 3 (.t 1) 3), (some (10, 22, false))⟩,
  ⟨(some 24), .op (.load 62 none (.t 23)), (some (10, 22, false))⟩,
  ⟨(some 25), .op (.len 62 false (.t 24)), (some (10, 22, false))⟩,
  ⟨(some 26), .op (.bin .gtr 3 0 (.t 25) (.c (.int .i64 (8))) 3), (some (10, 22, false))⟩,
  ⟨(some 27), .op (.pick (.t 22) (.c (.bool true)) (.t 26)), none⟩,
  ⟨(some 28), .op (.mv (.t 27)), none⟩,
  ⟨(some 29), .op (.faddr 65 4 (.t 1) 4), (some (16, 28, false))⟩,
  ⟨(some 30), .op (.load 63 none (.t 29)), (some (16, 28, false))⟩,
  ⟨(some 31), .op (.len 63 false (.t 30)), (some (16, 28, false))⟩,
  ⟨(some 32), .op (.bin .gtr 3 0 (.t 31) (.c (.int .i64 (2048))) 3), (some (16, 28, false))⟩,
  ⟨(some 33), .op (.pick (.t 28) (.c (.bool true)) (.t 32)), none⟩,
  ⟨(some 34), .op (.mv (.t 33)), none⟩,
  ⟨(some 35), .op (.faddr 65 4 (.t 1) 4), (some (22, 34, false))⟩,
  ⟨(some 36), .op (.load 63 none (.t 35)), (some (22, 34, false))⟩,
  ⟨(some 37), .callx (.f 125) [(false, (.t 36))] [.p 0, .x (.f 126)] [63, 168], (some (22, 34, false))⟩,
  ⟨(some 38), .op (.pick (.t 34) (.c (.bool true)) (.t 37)), none⟩]
@[go_sem] def plan_fair_r2 : List AO := [⟨(some 39), .op (.load 26 none (.g 2)), none⟩,
  ⟨(some 2), .op (.asg (.t 39)), none⟩]
@[go_sem] def plan_fair_r3 : List AO := [⟨(some 40), .op (.load 65 (some 7) (.t 1)), none⟩,
  ⟨(some 41), .call 127 [(false, (.t 40))] [65], none⟩,
  ⟨(some 3), .op (.asg (.t 41)), none⟩]
@[go_sem] def plan_fair_r4 : List AO := [⟨(some 42), .op (.mv (.t 3)), none⟩,
  ⟨(some 43), .callx (.f 128) [(false, (.t 42))] [.p 0, .x (.f 129)] [62, 114], none⟩]
@[go_sem] def plan_fair_r5 : List AO := [⟨(some 44), .op (.load 26 none (.g 2)), none⟩,
  ⟨(some 2), .op (.asg (.t 44)), none⟩]
@[go_sem] def plan_fair_r6 : List AO := [⟨(some 45), .op (.faddr 65 0 (.t 1) 0), none⟩,
  ⟨(some 46), .op (.load 3 none (.t 45)), none⟩,
  ⟨(some 47), .op (.faddr 65 5 (.t 1) 5), none⟩,
  ⟨(some 48), .op (.load 3 none (.t 47)), none⟩,
  ⟨(some 49), .op (.faddr 65 6 (.t 1) 6), none⟩,
  ⟨(some 50), .op (.load 3 none (.t 49)), none⟩,
  ⟨(some 51), .op (.bslice 24 3 1 3 [.lit (.int .i64 0)] [(0, (.t 46)), (1, (.t 48)), (2, (.t 50))]), none⟩,
  ⟨(some 4), .op (.asg (.t 51)), none⟩]
@[go_sem] def plan_fair_r7 : List AO := [⟨(some 52), .op (.faddr 65 1 (.t 1) 1), none⟩,
  ⟨(some 53), .op (.load 60 none (.t 52)), none⟩,
  ⟨(some 54), .op (.len 60 false (.t 53)), none⟩,
  ⟨(some 55), .op (.mv (.c (.int .i64 (0)))), none⟩]
@[go_sem] def plan_fair_r8 : List AO := [⟨(some 56), .op (.bin .lss 3 0 (.t 55) (.t 54) 3), none⟩]
@[go_sem] def plan_fair_r9 : List AO := [⟨(some 57), .op (.iaddr 60 3 (.t 53) (.t 55)), none⟩,
  ⟨(some 58), .op (.load 74 (some 3) (.t 57)), none⟩,
  ⟨(some 6), .op (.alloc 74 [.lit (.int .i64 0), .own 1 0 [], .lit (.bool false)]), none⟩,
  ⟨none, .op (.store 74 3 (.t 6) (.t 58)), none⟩]
@[go_sem] def plan_fair_r10 : List AO := [⟨(some 59), .op (.mv (.t 4)), none⟩,
  ⟨(some 60), .op (.faddr 74 0 (.t 6) 0), none⟩,
  ⟨(some 61), .op (.load 3 none (.t 60)), none⟩,
  ⟨(some 62), .op (.bslice 24 3 1 1 [.lit (.int .i64 0)] [(0, (.t 61))]), none⟩,
  ⟨(some 63), .op (.app 24 3 1 8 (.t 59) (.t 62)), none⟩,
  ⟨(some 4), .op (.asg (.t 63)), none⟩]
@[go_sem] def plan_fair_r11 : List AO := [⟨(some 64), .op (.bin .add 3 0 (.t 55) (.c (.int .i64 (1))) 3), none⟩,
  ⟨(some 55), .op (.mv (.t 64)), none⟩]
def plan_fair_l0 : IC := (.seq (.reg plan_fair_r8) (.seq (.cond (.t 56) .skip (.exit 0)) (.seq (.block 1 (.seq (.reg plan_fair_r9) (.reg plan_fair_r10))) (.reg plan_fair_r11))))
@[go_sem] def plan_fair_r12 : List AO := [⟨(some 65), .op (.mv (.t 3)), none⟩,
  ⟨(some 66), .op (.len 62 false (.t 65)), none⟩,
  ⟨(some 67), .op (.mv (.c (.int .i64 (0)))), none⟩]
@[go_sem] def plan_fair_r13 : List AO := [⟨(some 68), .op (.bin .lss 3 0 (.t 67) (.t 66) 3), none⟩]
@[go_sem] def plan_fair_r14 : List AO := [⟨(some 69), .op (.iaddr 62 2 (.t 65) (.t 67)), none⟩,
  ⟨(some 70), .op (.load 54 (some 2) (.t 69)), none⟩,
  ⟨(some 8), .op (.alloc 54 [.own 1 0 [], .lit (.bool false)]), none⟩,
  ⟨none, .op (.store 54 2 (.t 8) (.t 70)), none⟩]
@[go_sem] def plan_fair_r15 : List AO := [⟨(some 71), .op (.faddr 54 0 (.t 8) 0), none⟩,
  ⟨(some 72), .op (.load 24 none (.t 71)), none⟩,
  ⟨(some 73), .callx (.f 105) [(false, (.t 72))] [.p 0, .x (.f 130)] [24, 109], none⟩]
@[go_sem] def plan_fair_r16 : List AO := [⟨(some 74), .op (.load 26 none (.g 3)), none⟩,
  ⟨(some 2), .op (.asg (.t 74)), none⟩]
@[go_sem] def plan_fair_r17 : List AO := [⟨(some 75), .op (.bin .add 3 0 (.t 67) (.c (.int .i64 (1))) 3), none⟩,
  ⟨(some 67), .op (.mv (.t 75)), none⟩]
def plan_fair_l1 : IC := (.seq (.reg plan_fair_r13) (.seq (.cond (.t 68) .skip (.exit 2)) (.seq (.block 3 (.seq (.reg plan_fair_r14) (.seq (.reg plan_fair_r15) (.cond (.t 73) (.seq (.reg plan_fair_r16) .ret) .skip)))) (.reg plan_fair_r17))))
@[go_sem] def plan_fair_r18 : List AO := [⟨(some 76), .op (.mv (.t 4)), none⟩,
  ⟨(some 77), .callx (.f 105) [(false, (.t 76))] [.p 0, .x (.f 131)] [24, 109], none⟩,
  ⟨(some 78), .op (.mv (.t 77)), none⟩,
  ⟨(some 79), .op (.faddr 65 4 (.t 1) 4), (some (2, 78, false))⟩,
  ⟨(some 80), .op (.load 63 none (.t 79)), (some (2, 78, false))⟩,
  ⟨(some 81), .callx (.f 125) [(false, (.t 80))] [.p 0, .x (.f 132)] [63, 168], (some (2, 78, false))⟩,
  ⟨(some 82), .op (.pick (.t 78) (.c (.bool true)) (.t 81)), none⟩]
@[go_sem] def plan_fair_r19 : List AO := [⟨(some 83), .op (.load 26 none (.g 3)), none⟩,
  ⟨(some 2), .op (.asg (.t 83)), none⟩]
@[go_sem] def plan_fair_r20 : List AO := [⟨(some 84), .op (.faddr 65 2 (.t 1) 2), none⟩,
  ⟨(some 85), .op (.load 61 none (.t 84)), none⟩,
  ⟨(some 86), .op (.len 61 false (.t 85)), none⟩,
  ⟨(some 87), .op (.mv (.c (.int .i64 (0)))), none⟩]
@[go_sem] def plan_fair_r21 : List AO := [⟨(some 88), .op (.bin .lss 3 0 (.t 87) (.t 86) 3), none⟩]
@[go_sem] def plan_fair_r22 : List AO := [⟨(some 89), .op (.iaddr 61 3 (.t 85) (.t 87)), none⟩,
  ⟨(some 90), .op (.load 56 (some 3) (.t 89)), none⟩,
  ⟨(some 10), .op (.alloc 56 [.own 1 0 [], .lit (.bool false), .own 1 0 []]), none⟩,
  ⟨none, .op (.store 56 3 (.t 10) (.t 90)), none⟩]
@[go_sem] def plan_fair_r23 : List AO := [⟨(some 91), .op (.load 56 (some 3) (.t 10)), none⟩,
  ⟨(some 92), .call 108 [(false, (.t 91))] [56], none⟩,
  ⟨(some 11), .op (.asg (.t 92)), none⟩]
@[go_sem] def plan_fair_r24 : List AO := [⟨(some 93), .op (.mv (.t 11)), none⟩,
  ⟨(some 94), .op (.bin .neq 26 2 (.t 93) (.c .nilIface) 26), none⟩]
@[go_sem] def plan_fair_r25 : List AO := [⟨(some 95), .op (.mv (.t 11)), none⟩,
  ⟨(some 2), .op (.asg (.t 95)), none⟩]
@[go_sem] def plan_fair_r26 : List AO := [⟨(some 96), .op (.bin .add 3 0 (.t 87) (.c (.int .i64 (1))) 3), none⟩,
  ⟨(some 87), .op (.mv (.t 96)), none⟩]
def plan_fair_l2 : IC := (.seq (.reg plan_fair_r21) (.seq (.cond (.t 88) .skip (.exit 4)) (.seq (.block 5 (.seq (.reg plan_fair_r22) (.seq (.reg plan_fair_r23) (.seq (.reg plan_fair_r24) (.cond (.t 94) (.seq (.reg plan_fair_r25) .ret) .skip))))) (.reg plan_fair_r26))))
@[go_sem] def plan_fair_r27 : List AO := [⟨(some 2), .op (.asg (.c .nilIface)), none⟩]
def plan_fair_c : IC := (.seq (.reg plan_fair_r0) (.seq (.seq (.reg plan_fair_r1) (.cond (.t 38) (.seq (.reg plan_fair_r2) .ret) .skip)) (.seq (.reg plan_fair_r3) (.seq (.seq (.reg plan_fair_r4) (.cond (.t 43) (.seq (.reg plan_fair_r5) .ret) .skip)) (.seq (.reg plan_fair_r6) (.seq (.seq (.reg plan_fair_r7) (.block 0 (.loop plan_fair_l0))) (.seq (.seq (.reg plan_fair_r12) (.block 2 (.loop plan_fair_l1))) (.seq (.seq (.reg plan_fair_r18) (.cond (.t 82) (.seq (.reg plan_fair_r19) .ret) .skip)) (.seq (.seq (.reg plan_fair_r20) (.block 4 (.loop plan_fair_l2))) (.seq (.reg plan_fair_r27) .ret))))))))))
abbrev F_plan_fair : Nat := 94
theorem plan_fair_call {G : Nat → Option Value} {pre : List AV} {res : AV} (hsz : decide (pre.length ≤ 97) = true) (h : AW pg G 97 plan_fair_c (endR [(.tmp 2)] res) (St.init pre)) : ACalls pg G F_plan_fair pre res :=
  ACalls.of_walk (fn := Go.Proofs.Tryd.f94) (vs := [(ResultVar.tmp 2)]) (ic := plan_fair_c) (by kernel_rfl) (by kernel_rfl) rfl (by kernel_rfl) (by kernel_rfl) (of_decide_eq_true (by kernel_rfl)) (by kernel_rfl) (by kernel_rfl) (by kernel_rfl) (of_decide_eq_true hsz) h
@[go_sem] theorem plan_fair_fnB : fnB pg 94 = true := by kernel_rfl

@[go_sem] def plan_Writer_Desc_r0 : List AO := [⟨(some 3), .op (.box 54 2 (.t 1)), none⟩]
@[go_sem] def plan_Writer_Desc_r1 : List AO := [⟨(some 7), .op (.faddr 54 0 (.t 3) 0), none⟩,
  ⟨(some 8), .op (.load 24 none (.t 7)), none⟩,
  ⟨(some 9), .op (.len 24 false (.t 8)), none⟩,
  ⟨(some 4), .op (.asg (.t 9)), none⟩]
@[go_sem] def plan_Writer_Desc_r2 : List AO := [⟨(some 10), .op (.faddr 54 1 (.t 3) 1), none⟩,
  ⟨(some 11), .op (.load 4 none (.t 10)), none⟩]
@[go_sem] def plan_Writer_Desc_r3 : List AO := [⟨(some 12), .op (.mv (.t 4)), none⟩,
  ⟨(some 13), .op (.bin .add 3 0 (.t 12) (.c (.int .i64 (8))) 3), none⟩,
  ⟨(some 4), .op (.asg (.t 13)), none⟩]
@[go_sem] def plan_Writer_Desc_r4 : List AO := [⟨(some 14), .op (.mv (.t 0)), none⟩,
  ⟨(some 15), .op (.mv (.t 4)), none⟩,
  ⟨(some 16), .callx (.f 54) [(false, (.t 15))] [.x (.t 14), .p 0] [103, 3], none⟩]
@[go_sem] def plan_Writer_Desc_r5 : List AO := [⟨(some 17), .op (.faddr 54 0 (.t 3) 0), none⟩,
  ⟨(some 18), .op (.load 24 none (.t 17)), none⟩,
  ⟨(some 19), .op (.len 24 false (.t 18)), none⟩,
  ⟨(some 20), .op (.mv (.c (.int .i64 (0)))), none⟩]
@[go_sem] def plan_Writer_Desc_r6 : List AO := [⟨(some 21), .op (.bin .lss 3 0 (.t 20) (.t 19) 3), none⟩]
@[go_sem] def plan_Writer_Desc_r7 : List AO := [⟨(some 22), .op (.iaddr 24 1 (.t 18) (.t 20)), none⟩,
  ⟨(some 23), .op (.load 3 none (.t 22)), none⟩,
  ⟨(some 6), .op (.asg (.t 23)), none⟩]
@[go_sem] def plan_Writer_Desc_r8 : List AO := [⟨(some 24), .op (.mv (.t 0)), none⟩,
  ⟨(some 25), .op (.mv (.t 6)), none⟩,
  ⟨(some 26), .callx (.f 53) [(false, (.t 25))] [.x (.t 24), .p 0] [103, 3], none⟩]
@[go_sem] def plan_Writer_Desc_r9 : List AO := [⟨(some 27), .op (.bin .add 3 0 (.t 20) (.c (.int .i64 (1))) 3), none⟩,
  ⟨(some 20), .op (.mv (.t 27)), none⟩]
def plan_Writer_Desc_l0 : IC := (.seq (.reg plan_Writer_Desc_r6) (.seq (.cond (.t 21) .skip (.exit 0)) (.seq (.block 1 (.seq (.reg plan_Writer_Desc_r7) (.reg plan_Writer_Desc_r8))) (.reg plan_Writer_Desc_r9))))
def plan_Writer_Desc_c : IC := (.seq (.reg plan_Writer_Desc_r0) (.seq (.reg plan_Writer_Desc_r1) (.seq (.seq (.reg plan_Writer_Desc_r2) (.cond (.t 11) (.reg plan_Writer_Desc_r3) .skip)) (.seq (.reg plan_Writer_Desc_r4) (.seq (.reg plan_Writer_Desc_r5) (.block 0 (.loop plan_Writer_Desc_l0)))))))
abbrev F_plan_Writer_Desc : Nat := 95
@[go_sem] theorem plan_Writer_Desc_fnB : fnB pg 95 = true := by kernel_rfl
theorem plan_Writer_Desc_callX {G : Nat → Option Value} {pre : List AV} {res : AV} {posts : List (Nat × AV)} {pins : List Nat} (hpin : plan_Writer_Desc_c.pin pins = true) (hpo : posts.map (·.1) = pins) (hpr : (pins.all fun t => !([].map rvT).contains t && decide (t < pre.length)) = true) (hnr : (posts.all fun p => noRef p.2) = true) (hsz : decide (pre.length ≤ 28) = true) (h : AW pg G 28 plan_Writer_Desc_c (endRX [] res posts) (St.init pre)) : ACallsX pg G F_plan_Writer_Desc pre res posts :=
  ACallsX.of_walk (fn := Go.Proofs.Tryd.f95) (vs := []) (ic := plan_Writer_Desc_c) (by kernel_rfl) (by kernel_rfl) rfl (by kernel_rfl) (by kernel_rfl) (of_decide_eq_true (by kernel_rfl)) (by kernel_rfl) (by kernel_rfl) (by kernel_rfl) hpin (of_decide_eq_true hsz) hpo hpr hnr h

@[go_sem] def plan_Writer_instr_r0 : List AO := [⟨(some 3), .op (.box 71 6 (.t 1)), none⟩]
@[go_sem] def plan_Writer_instr_r1 : List AO := [⟨(some 8), .op (.mv (.t 0)), none⟩,
  ⟨(some 9), .op (.faddr 71 0 (.t 3) 0), none⟩,
  ⟨(some 10), .op (.load 3 none (.t 9)), none⟩,
  ⟨(some 11), .callx (.f 54) [(false, (.t 10))] [.x (.t 8), .p 0] [103, 3], none⟩]
@[go_sem] def plan_Writer_instr_r2 : List AO := [⟨(some 12), .op (.mv (.t 0)), none⟩,
  ⟨(some 13), .op (.faddr 71 1 (.t 3) 1), none⟩,
  ⟨(some 14), .op (.load 3 none (.t 13)), none⟩,
  ⟨(some 15), .callx (.f 55) [(false, (.t 14))] [.x (.t 12), .p 0] [103, 3], none⟩]
@[go_sem] def plan_Writer_instr_r3 : List AO := [⟨(some 16), .op (.faddr 71 2 (.t 3) 2), none⟩,
  ⟨(some 17), .op (.load 24 none (.t 16)), none⟩,
  ⟨(some 18), .op (.faddr 71 3 (.t 3) 3), none⟩,
  ⟨(some 19), .op (.load 24 none (.t 18)), none⟩,
  ⟨(some 20), .op (.bslice 22 24 1 2 [.own 1 0 []] [(0, (.t 17)), (1, (.t 19))]), none⟩,
  ⟨(some 21), .op (.len 22 false (.t 20)), none⟩,
  ⟨(some 22), .op (.mv (.c (.int .i64 (0)))), none⟩]
@[go_sem] def plan_Writer_instr_r4 : List AO := [⟨(some 23), .op (.bin .lss 3 0 (.t 22) (.t 21) 3), none⟩]
@[go_sem] def plan_Writer_instr_r5 : List AO := [⟨(some 24), .op (.iaddr 22 1 (.t 20) (.t 22)), none⟩,
  ⟨(some 25), .op (.load 24 none (.t 24)), none⟩,
  ⟨(some 5), .op (.asg (.t 25)), none⟩]
@[go_sem] def plan_Writer_instr_r6 : List AO := [⟨(some 26), .op (.mv (.t 0)), none⟩,
  ⟨(some 27), .op (.mv (.t 5)), none⟩,
  ⟨(some 28), .op (.len 24 false (.t 27)), none⟩,
  ⟨(some 29), .callx (.f 54) [(false, (.t 28))] [.x (.t 26), .p 0] [103, 3], none⟩]
@[go_sem] def plan_Writer_instr_r7 : List AO := [⟨(some 30), .op (.mv (.t 5)), none⟩,
  ⟨(some 31), .op (.len 24 false (.t 30)), none⟩,
  ⟨(some 32), .op (.mv (.c (.int .i64 (0)))), none⟩]
@[go_sem] def plan_Writer_instr_r8 : List AO := [⟨(some 33), .op (.bin .lss 3 0 (.t 32) (.t 31) 3), none⟩]
@[go_sem] def plan_Writer_instr_r9 : List AO := [⟨(some 34), .op (.iaddr 24 1 (.t 30) (.t 32)), none⟩,
  ⟨(some 35), .op (.load 3 none (.t 34)), none⟩,
  ⟨(some 7), .op (.asg (.t 35)), none⟩]
@[go_sem] def plan_Writer_instr_r10 : List AO := [⟨(some 36), .op (.mv (.t 0)), none⟩,
  ⟨(some 37), .op (.mv (.t 7)), none⟩,
  ⟨(some 38), .callx (.f 55) [(false, (.t 37))] [.x (.t 36), .p 0] [103, 3], none⟩]
@[go_sem] def plan_Writer_instr_r11 : List AO := [⟨(some 39), .op (.bin .add 3 0 (.t 32) (.c (.int .i64 (1))) 3), none⟩,
  ⟨(some 32), .op (.mv (.t 39)), none⟩]
def plan_Writer_instr_l0 : IC := (.seq (.reg plan_Writer_instr_r8) (.seq (.cond (.t 33) .skip (.exit 2)) (.seq (.block 3 (.seq (.reg plan_Writer_instr_r9) (.reg plan_Writer_instr_r10))) (.reg plan_Writer_instr_r11))))
@[go_sem] def plan_Writer_instr_r12 : List AO := [⟨(some 40), .op (.bin .add 3 0 (.t 22) (.c (.int .i64 (1))) 3), none⟩,
  ⟨(some 22), .op (.mv (.t 40)), none⟩]
def plan_Writer_instr_l1 : IC := (.seq (.reg plan_Writer_instr_r4) (.seq (.cond (.t 23) .skip (.exit 0)) (.seq (.block 1 (.seq (.reg plan_Writer_instr_r5) (.seq (.reg plan_Writer_instr_r6) (.seq (.reg plan_Writer_instr_r7) (.block 2 (.loop plan_Writer_instr_l0)))))) (.reg plan_Writer_instr_r12))))
@[go_sem] def plan_Writer_instr_r13 : List AO := [⟨(some 41), .op (.mv (.t 0)), none⟩,
  ⟨(some 42), .op (.faddr 71 4 (.t 3) 4), none⟩,
  ⟨(some 43), .op (.load 3 none (.t 42)), none⟩,
  ⟨(some 44), .callx (.f 55) [(false, (.t 43))] [.x (.t 41), .p 0] [103, 3], none⟩]
@[go_sem] def plan_Writer_instr_r14 : List AO := [⟨(some 45), .op (.mv (.t 0)), none⟩,
  ⟨(some 46), .op (.faddr 71 5 (.t 3) 5), none⟩,
  ⟨(some 47), .op (.load 3 none (.t 46)), none⟩,
  ⟨(some 48), .callx (.f 55) [(false, (.t 47))] [.x (.t 45), .p 0] [103, 3], none⟩]
def plan_Writer_instr_c : IC := (.seq (.reg plan_Writer_instr_r0) (.seq (.reg plan_Writer_instr_r1) (.seq (.reg plan_Writer_instr_r2) (.seq (.seq (.reg plan_Writer_instr_r3) (.block 0 (.loop plan_Writer_instr_l1))) (.seq (.reg plan_Writer_instr_r13) (.reg plan_Writer_instr_r14))))))
abbrev F_plan_Writer_instr : Nat := 96
@[go_sem] theorem plan_Writer_instr_fnB : fnB pg 96 = true := by kernel_rfl
theorem plan_Writer_instr_callX {G : Nat → Option Value} {pre : List AV} {res : AV} {posts : List (Nat × AV)} {pins : List Nat} (hpin : plan_Writer_instr_c.pin pins = true) (hpo : posts.map (·.1) = pins) (hpr : (pins.all fun t => !([].map rvT).contains t && decide (t < pre.length)) = true) (hnr : (posts.all fun p => noRef p.2) = true) (hsz : decide (pre.length ≤ 49) = true) (h : AW pg G 49 plan_Writer_instr_c (endRX [] res posts) (St.init pre)) : ACallsX pg G F_plan_Writer_instr pre res posts :=
  ACallsX.of_walk (fn := Go.Proofs.Tryd.f96) (vs := []) (ic := plan_Writer_instr_c) (by kernel_rfl) (by kernel_rfl) rfl (by kernel_rfl) (by kernel_rfl) (of_decide_eq_true (by kernel_rfl)) (by kernel_rfl) (by kernel_rfl) (by kernel_rfl) hpin (of_decide_eq_true hsz) hpo hpr hnr h

@[go_sem] def slices_ContainsFunc_Instr_r0 : List AO := [⟨(some 4), .op (.asg (.c (.bool false))), none⟩]
@[go_sem] def slices_ContainsFunc_Instr_r1 : List AO := [⟨(some 5), .op (.mv (.t 0)), none⟩,
  ⟨(some 6), .op (.mv (.t 1)), none⟩,
  ⟨(some 7), .callx (.f 152) [(false, (.t 5))] [.p 0, .x (.t 6)] [63, 168], none⟩,
  ⟨(some 8), .op (.bin .geq 3 0 (.t 7) (.c (.int .i64 (0))) 3), none⟩,
  ⟨(some 4), .op (.asg (.t 8)), none⟩]
def slices_ContainsFunc_Instr_c : IC := (.seq (.reg slices_ContainsFunc_Instr_r0) (.seq (.reg slices_ContainsFunc_Instr_r1) .ret))
abbrev F_slices_ContainsFunc_Instr : Nat := 125
@[go_sem] theorem slices_ContainsFunc_Instr_fnB : fnB pg 125 = true := by kernel_rfl
theorem slices_ContainsFunc_Instr_callX {G : Nat → Option Value} {pre : List AV} {res : AV} {posts : List (Nat × AV)} {pins : List Nat} (hpin : slices_ContainsFunc_Instr_c.pin pins = true) (hpo : posts.map (·.1) = pins) (hpr : (pins.all fun t => !([(ResultVar.tmp 4)].map rvT).contains t && decide (t < pre.length)) = true) (hnr : (posts.all fun p => noRef p.2) = true) (hsz : decide (pre.length ≤ 9) = true) (h : AW pg G 9 slices_ContainsFunc_Instr_c (endRX [(.tmp 4)] res posts) (St.init pre)) : ACallsX pg G F_slices_ContainsFunc_Instr pre res posts :=
  ACallsX.of_walk (fn := Go.Proofs.Tryd.f125) (vs := [(ResultVar.tmp 4)]) (ic := slices_ContainsFunc_Instr_c) (by kernel_rfl) (by kernel_rfl) rfl (by kernel_rfl) (by kernel_rfl) (of_decide_eq_true (by kernel_rfl)) (by kernel_rfl) (by kernel_rfl) (by kernel_rfl) hpin (of_decide_eq_true hsz) hpo hpr hnr h

@[go_sem] def plan_many_r0 : List AO := [⟨(some 1), .op (.box 71 6 (.t 0)), none⟩,
  ⟨(some 2), .op (.asg (.c (.bool false))), none⟩]
@[go_sem] def plan_many_r1 : List AO := [⟨(some 3), .op (.faddr 71 2 (.t 1) 2), none⟩,
  ⟨(some 4), .op (.load 24 none (.t 3)), none⟩,
  ⟨(some 5), .op (.len 24 false (.t 4)), none⟩,
  ⟨(some 6), .op (.bin .gtr 3 0 (.t 5) (.c (.int .i64 (8))) 3), none⟩,
  ⟨(some 7), .op (.mv (.t 6)), none⟩,
  ⟨(some 8), .op (.faddr 71 3 (.t 1) 3), (some (4, 7, false))⟩,
  ⟨(some 9), .op (.load 24 none (.t 8)), (some (4, 7, false))⟩,
  ⟨(some 10), .op (.len 24 false (.t 9)), (some (4, 7, false))⟩,
  ⟨(some 11), .op (.bin .gtr 3 0 (.t 10) (.c (.int .i64 (8))) 3), (some (4, 7, false))⟩,
  ⟨(some 12), .op (.pick (.t 7) (.c (.bool true)) (.t 11)), none⟩,
  ⟨(some 2), .op (.asg (.t 12)), none⟩]
def plan_many_c : IC := (.seq (.reg plan_many_r0) (.seq (.reg plan_many_r1) .ret))
abbrev F_plan_many : Nat := 126
theorem plan_many_call {G : Nat → Option Value} {pre : List AV} {res : AV} (hsz : decide (pre.length ≤ 13) = true) (h : AW pg G 13 plan_many_c (endR [(.tmp 2)] res) (St.init pre)) : ACalls pg G F_plan_many pre res :=
  ACalls.of_walk (fn := Go.Proofs.Tryd.f126) (vs := [(ResultVar.tmp 2)]) (ic := plan_many_c) (by kernel_rfl) (by kernel_rfl) rfl (by kernel_rfl) (by kernel_rfl) (of_decide_eq_true (by kernel_rfl)) (by kernel_rfl) (by kernel_rfl) (by kernel_rfl) (of_decide_eq_true hsz) h
@[go_sem] theorem plan_many_fnB : fnB pg 126 = true := by kernel_rfl

@[go_sem] def plan_descs_r0 : List AO := [⟨(some 1), .op (.box 65 7 (.t 0)), none⟩,
  ⟨(some 2), .op (.asg (.nl 2)), none⟩]
@[go_sem] def plan_descs_r1 : List AO := [⟨(some 3), .op (.asg (.nl 2)), none⟩]
@[go_sem] def plan_descs_r2 : List AO := [⟨(some 6), .op (.faddr 65 1 (.t 1) 1), none⟩,
  ⟨(some 7), .op (.load 60 none (.t 6)), none⟩,
  ⟨(some 8), .op (.len 60 false (.t 7)), none⟩,
  ⟨(some 9), .op (.mv (.c (.int .i64 (0)))), none⟩]
@[go_sem] def plan_descs_r3 : List AO := [⟨(some 10), .op (.bin .lss 3 0 (.t 9) (.t 8) 3), none⟩]
@[go_sem] def plan_descs_r4 : List AO := [⟨(some 11), .op (.iaddr 60 3 (.t 7) (.t 9)), none⟩,
  ⟨(some 12), .op (.load 74 (some 3) (.t 11)), none⟩,
  ⟨(some 5), .op (.alloc 74 [.lit (.int .i64 0), .own 1 0 [], .lit (.bool false)]), none⟩,
  ⟨none, .op (.store 74 3 (.t 5) (.t 12)), none⟩]
@[go_sem] def plan_descs_r5 : List AO := [⟨(some 13), .op (.mv (.t 3)), none⟩,
  ⟨(some 14), .op (.faddr 74 1 (.t 5) 1), none⟩,
  ⟨(some 15), .op (.load 54 (some 2) (.t 14)), none⟩,
  ⟨(some 16), .op (.bslice 62 54 2 1 [.own 1 0 [], .lit (.bool false)] [(0, (.t 15))]), none⟩,
  ⟨(some 17), .op (.app 62 54 2 32 (.t 13) (.t 16)), none⟩,
  ⟨(some 3), .op (.asg (.t 17)), none⟩]
@[go_sem] def plan_descs_r6 : List AO := [⟨(some 18), .op (.bin .add 3 0 (.t 9) (.c (.int .i64 (1))) 3), none⟩,
  ⟨(some 9), .op (.mv (.t 18)), none⟩]
def plan_descs_l0 : IC := (.seq (.reg plan_descs_r3) (.seq (.cond (.t 10) .skip (.exit 0)) (.seq (.block 1 (.seq (.reg plan_descs_r4) (.reg plan_descs_r5))) (.reg plan_descs_r6))))
@[go_sem] def plan_descs_r7 : List AO := [⟨(some 19), .op (.mv (.t 3)), none⟩,
  ⟨(some 20), .op (.faddr 65 3 (.t 1) 3), none⟩,
  ⟨(some 21), .op (.load 62 none (.t 20)), none⟩,
  ⟨(some 22), .op (.app 62 54 2 32 (.t 19) (.t 21)), none⟩,
  ⟨(some 2), .op (.asg (.t 22)), none⟩]
def plan_descs_c : IC := (.seq (.reg plan_descs_r0) (.seq (.reg plan_descs_r1) (.seq (.seq (.reg plan_descs_r2) (.block 0 (.loop plan_descs_l0))) (.seq (.reg plan_descs_r7) .ret))))
abbrev F_plan_descs : Nat := 127
theorem plan_descs_call {G : Nat → Option Value} {pre : List AV} {res : AV} (hsz : decide (pre.length ≤ 23) = true) (h : AW pg G 23 plan_descs_c (endR [(.tmp 2)] res) (St.init pre)) : ACalls pg G F_plan_descs pre res :=
  ACalls.of_walk (fn := Go.Proofs.Tryd.f127) (vs := [(ResultVar.tmp 2)]) (ic := plan_descs_c) (by kernel_rfl) (by kernel_rfl) rfl (by kernel_rfl) (by kernel_rfl) (of_decide_eq_true (by kernel_rfl)) (by kernel_rfl) (by kernel_rfl) (by kernel_rfl) (of_decide_eq_true hsz) h
@[go_sem] theorem plan_descs_fnB : fnB pg 127 = true := by kernel_rfl

@[go_sem] def slices_ContainsFunc_Desc_r0 : List AO := [⟨(some 4), .op (.asg (.c (.bool false))), none⟩]
@[go_sem] def slices_ContainsFunc_Desc_r1 : List AO := [⟨(some 5), .op (.mv (.t 0)), none⟩,
  ⟨(some 6), .op (.mv (.t 1)), none⟩,
  ⟨(some 7), .callx (.f 153) [(false, (.t 5))] [.p 0, .x (.t 6)] [62, 114], none⟩,
  ⟨(some 8), .op (.bin .geq 3 0 (.t 7) (.c (.int .i64 (0))) 3), none⟩,
  ⟨(some 4), .op (.asg (.t 8)), none⟩]
def slices_ContainsFunc_Desc_c : IC := (.seq (.reg slices_ContainsFunc_Desc_r0) (.seq (.reg slices_ContainsFunc_Desc_r1) .ret))
abbrev F_slices_ContainsFunc_Desc : Nat := 128
@[go_sem] theorem slices_ContainsFunc_Desc_fnB : fnB pg 128 = true := by kernel_rfl
theorem slices_ContainsFunc_Desc_callX {G : Nat → Option Value} {pre : List AV} {res : AV} {posts : List (Nat × AV)} {pins : List Nat} (hpin : slices_ContainsFunc_Desc_c.pin pins = true) (hpo : posts.map (·.1) = pins) (hpr : (pins.all fun t => !([(ResultVar.tmp 4)].map rvT).contains t && decide (t < pre.length)) = true) (hnr : (posts.all fun p => noRef p.2) = true) (hsz : decide (pre.length ≤ 9) = true) (h : AW pg G 9 slices_ContainsFunc_Desc_c (endRX [(.tmp 4)] res posts) (St.init pre)) : ACallsX pg G F_slices_ContainsFunc_Desc pre res posts :=
  ACallsX.of_walk (fn := Go.Proofs.Tryd.f128) (vs := [(ResultVar.tmp 4)]) (ic := slices_ContainsFunc_Desc_c) (by kernel_rfl) (by kernel_rfl) rfl (by kernel_rfl) (by kernel_rfl) (of_decide_eq_true (by kernel_rfl)) (by kernel_rfl) (by kernel_rfl) (by kernel_rfl) hpin (of_decide_eq_true hsz) hpo hpr hnr h

@[go_sem] def plan_fair_1_r0 : List AO := [⟨(some 1), .op (.box 54 2 (.t 0)), none⟩,
  ⟨(some 2), .op (.asg (.c (.bool false))), none⟩]
@[go_sem] def plan_fair_1_r1 : List AO := [⟨(some 3), .op (.faddr 54 0 (.t 1) 0), none⟩,
  ⟨(some 4), .op (.load 24 none (.t 3)), none⟩,
  ⟨(some 5), .op (.len 24 false (.t 4)), none⟩,
  ⟨(some 6), .op (.bin .gtr 3 0 (.t 5) (.c (.int .i64 (7))) 3), none⟩,
  ⟨(some 2), .op (.asg (.t 6)), none⟩]
def plan_fair_1_c : IC := (.seq (.reg plan_fair_1_r0) (.seq (.reg plan_fair_1_r1) .ret))
abbrev F_plan_fair_1 : Nat := 129
theorem plan_fair_1_call {G : Nat → Option Value} {pre : List AV} {res : AV} (hsz : decide (pre.length ≤ 7) = true) (h : AW pg G 7 plan_fair_1_c (endR [(.tmp 2)] res) (St.init pre)) : ACalls pg G F_plan_fair_1 pre res :=
  ACalls.of_walk (fn := Go.Proofs.Tryd.f129) (vs := [(ResultVar.tmp 2)]) (ic := plan_fair_1_c) (by kernel_rfl) (by kernel_rfl) rfl (by kernel_rfl) (by kernel_rfl) (of_decide_eq_true (by kernel_rfl)) (by kernel_rfl) (by kernel_rfl) (by kernel_rfl) (of_decide_eq_true hsz) h
@[go_sem] theorem plan_fair_1_fnB : fnB pg 129 = true := by kernel_rfl

@[go_sem] def plan_fair_2_r0 : List AO := [⟨(some 2), .op (.asg (.c (.bool false))), none⟩]
@[go_sem] def plan_fair_2_r1 : List AO := [⟨(some 3), .op (.mv (.t 0)), none⟩,
  ⟨(some 4), .op (.bin .lss 3 0 (.t 3) (.c (.int .i64 (0))) 3), none⟩,
  ⟨(some 5), .op (.mv (.t 4)), none⟩,
  ⟨(some 6), .op (.mv (.t 0)), (some (2, 5, false))⟩,
  ⟨(some 7), .op (.bin .gtr 3 0 (.t 6) (.c (.int .i64 (65535))) 3), (some (2, 5, false))⟩,
  ⟨(some 8), .op (.pick (.t 5) (.c (.bool true)) (.t 7)), none⟩,
  ⟨(some 2), .op (.asg (.t 8)), none⟩]
def plan_fair_2_c : IC := (.seq (.reg plan_fair_2_r0) (.seq (.reg plan_fair_2_r1) .ret))
abbrev F_plan_fair_2 : Nat := 130
theorem plan_fair_2_call {G : Nat → Option Value} {pre : List AV} {res : AV} (hsz : decide (pre.length ≤ 9) = true) (h : AW pg G 9 plan_fair_2_c (endR [(.tmp 2)] res) (St.init pre)) : ACalls pg G F_plan_fair_2 pre res :=
  ACalls.of_walk (fn := Go.Proofs.Tryd.f130) (vs := [(ResultVar.tmp 2)]) (ic := plan_fair_2_c) (by kernel_rfl) (by kernel_rfl) rfl (by kernel_rfl) (by kernel_rfl) (of_decide_eq_true (by kernel_rfl)) (by kernel_rfl) (by kernel_rfl) (by kernel_rfl) (of_decide_eq_true hsz) h
@[go_sem] theorem plan_fair_2_fnB : fnB pg 130 = true := by kernel_rfl

@[go_sem] def plan_fair_3_r0 : List AO := [⟨(some 2), .op (.asg (.c (.bool false))), none⟩]
@[go_sem] def plan_fair_3_r1 : List AO := [⟨(some 3), .op (.mv (.t 0)), none⟩,
  ⟨(some 4), .call 107 [(false, (.t 3))] [3], none⟩,
  ⟨(some 5), .op (.un .not 4 (.t 4)), none⟩,
  ⟨(some 2), .op (.asg (.t 5)), none⟩]
def plan_fair_3_c : IC := (.seq (.reg plan_fair_3_r0) (.seq (.reg plan_fair_3_r1) .ret))
abbrev F_plan_fair_3 : Nat := 131
theorem plan_fair_3_call {G : Nat → Option Value} {pre : List AV} {res : AV} (hsz : decide (pre.length ≤ 6) = true) (h : AW pg G 6 plan_fair_3_c (endR [(.tmp 2)] res) (St.init pre)) : ACalls pg G F_plan_fair_3 pre res :=
  ACalls.of_walk (fn := Go.Proofs.Tryd.f131) (vs := [(ResultVar.tmp 2)]) (ic := plan_fair_3_c) (by kernel_rfl) (by kernel_rfl) rfl (by kernel_rfl) (by kernel_rfl) (of_decide_eq_true (by kernel_rfl)) (by kernel_rfl) (by kernel_rfl) (by kernel_rfl) (of_decide_eq_true hsz) h
@[go_sem] theorem plan_fair_3_fnB : fnB pg 131 = true := by kernel_rfl

@[go_sem] def plan_fair_4_r0 : List AO := [⟨(some 1), .op (.box 71 6 (.t 0)), none⟩,
  ⟨(some 2), .op (.asg (.c (.bool false))), none⟩]
@[go_sem] def plan_fair_4_r1 : List AO := [⟨(some 3), .op (.load 71 (some 6) (.t 1)), none⟩,
  ⟨(some 4), .call 133 [(false, (.t 3))] [71], none⟩,
  ⟨(some 5), .op (.un .not 4 (.t 4)), none⟩,
  ⟨(some 2), .op (.asg (.t 5)), none⟩]
def plan_fair_4_c : IC := (.seq (.reg plan_fair_4_r0) (.seq (.reg plan_fair_4_r1) .ret))
abbrev F_plan_fair_4 : Nat := 132
theorem plan_fair_4_call {G : Nat → Option Value} {pre : List AV} {res : AV} (hsz : decide (pre.length ≤ 6) = true) (h : AW pg G 6 plan_fair_4_c (endR [(.tmp 2)] res) (St.init pre)) : ACalls pg G F_plan_fair_4 pre res :=
  ACalls.of_walk (fn := Go.Proofs.Tryd.f132) (vs := [(ResultVar.tmp 2)]) (ic := plan_fair_4_c) (by kernel_rfl) (by kernel_rfl) rfl (by kernel_rfl) (by kernel_rfl) (of_decide_eq_true (by kernel_rfl)) (by kernel_rfl) (by kernel_rfl) (by kernel_rfl) (of_decide_eq_true hsz) h
@[go_sem] theorem plan_fair_4_fnB : fnB pg 132 = true := by kernel_rfl

@[go_sem] def plan_told_r0 : List AO := [⟨(some 1), .op (.box 71 6 (.t 0)), none⟩,
  ⟨(some 2), .op (.asg (.c (.bool false))), none⟩]
@[go_sem] def plan_told_r1 : List AO := [⟨(some 5), .op (.faddr 71 1 (.t 1) 1), none⟩,
  ⟨(some 6), .op (.load 3 none (.t 5)), none⟩,
  ⟨(some 7), .op (.faddr 71 4 (.t 1) 4), none⟩,
  ⟨(some 8), .op (.load 3 none (.t 7)), none⟩,
  ⟨(some 9), .op (.faddr 71 5 (.t 1) 5), none⟩,
  ⟨(some 10), .op (.load 3 none (.t 9)), none⟩,
  ⟨(some 11), .op (.bslice 24 3 1 3 [.lit (.int .i64 0)] [(0, (.t 6)), (1, (.t 8)), (2, (.t 10))]), none⟩,
  ⟨(some 12), .op (.faddr 71 2 (.t 1) 2), none⟩,
  ⟨(some 13), .op (.load 24 none (.t 12)), none⟩,
  ⟨(some 14), .op (.faddr 71 3 (.t 1) 3), none⟩,
  ⟨(some 15), .op (.load 24 none (.t 14)), none⟩,
  ⟨(some 16), .op (.bslice 22 24 1 3 [.own 1 0 []] [(0, (.t 11)), (1, (.t 13)), (2, (.t 15))]), none⟩,
  ⟨(some 17), .call 154 [(false, (.t 16))] [22], none⟩,
  ⟨(some 18), .op (.len 24 false (.t 17)), none⟩,
  ⟨(some 19), .op (.mv (.c (.int .i64 (0)))), none⟩]
@[go_sem] def plan_told_r2 : List AO := [⟨(some 20), .op (.bin .lss 3 0 (.t 19) (.t 18) 3), none⟩]
@[go_sem] def plan_told_r3 : List AO := [⟨(some 21), .op (.iaddr 24 1 (.t 17) (.t 19)), none⟩,
  ⟨(some 22), .op (.load 3 none (.t 21)), none⟩,
  ⟨(some 4), .op (.asg (.t 22)), none⟩]
@[go_sem] def plan_told_r4 : List AO := [⟨(some 23), .op (.mv (.t 4)), none⟩,
  ⟨(some 24), .call 107 [(false, (.t 23))] [3], none⟩,
  ⟨(some 25), .op (.un .not 4 (.t 24)), none⟩]
@[go_sem] def plan_told_r5 : List AO := [⟨(some 2), .op (.asg (.c (.bool false))), none⟩]
@[go_sem] def plan_told_r6 : List AO := [⟨(some 26), .op (.bin .add 3 0 (.t 19) (.c (.int .i64 (1))) 3), none⟩,
  ⟨(some 19), .op (.mv (.t 26)), none⟩]
def plan_told_l0 : IC := (.seq (.reg plan_told_r2) (.seq (.cond (.t 20) .skip (.exit 0)) (.seq (.block 1 (.seq (.reg plan_told_r3) (.seq (.reg plan_told_r4) (.cond (.t 25) (.seq (.reg plan_told_r5) .ret) .skip)))) (.reg plan_told_r6))))
@[go_sem] def plan_told_r7 : List AO := [⟨(some 27), .op (.faddr 71 0 (.t 1) 0), none⟩,
  ⟨(some 28), .op (.load 3 none (.t 27)), none⟩,
  ⟨(some 29), .op (.bin .geq 3 0 (.t 28) (.c (.int .i64 (0))) 3), none⟩,
  ⟨(some 30), .op (.mv (.t 29)), none⟩,
  ⟨(some 31), .op (.faddr 71 0 (.t 1) 0), (some (3, 30, true))⟩,
  ⟨(some 32), .op (.load 3 none (.t 31)), (some (3, 30, true))⟩,
  ⟨(some 33), .op (.bin .leq 3 0 (.t 32) (.c (.int .i64 (255))) 3), (some (3, 30, true))⟩,
  ⟨(some 34), .op (.pick (.t 30) (.t 33) (.c (.bool false))), none⟩,
  ⟨(some 2), .op (.asg (.t 34)), none⟩]
def plan_told_c : IC := (.seq (.reg plan_told_r0) (.seq (.seq (.reg plan_told_r1) (.block 0 (.loop plan_told_l0))) (.seq (.reg plan_told_r7) .ret)))
abbrev F_plan_told : Nat := 133
theorem plan_told_call {G : Nat → Option Value} {pre : List AV} {res : AV} (hsz : decide (pre.length ≤ 35) = true) (h : AW pg G 35 plan_told_c (endR [(.tmp 2)] res) (St.init pre)) : ACalls pg G F_plan_told pre res :=
  ACalls.of_walk (fn := Go.Proofs.Tryd.f133) (vs := [(ResultVar.tmp 2)]) (ic := plan_told_c) (by kernel_rfl) (by kernel_rfl) rfl (by kernel_rfl) (by kernel_rfl) (of_decide_eq_true (by kernel_rfl)) (by kernel_rfl) (by kernel_rfl) (by kernel_rfl) (of_decide_eq_true hsz) h
@[go_sem] theorem plan_told_fnB : fnB pg 133 = true := by kernel_rfl

@[go_sem] def slices_IndexFunc_Instr_r0 : List AO := [⟨(some 4), .op (.asg (.c (.int .i64 (0)))), none⟩]
@[go_sem] def slices_IndexFunc_Instr_r1 : List AO := [⟨(some 6), .op (.mv (.t 0)), none⟩,
  ⟨(some 7), .op (.len 63 false (.t 6)), none⟩,
  ⟨(some 8), .op (.mv (.c (.int .i64 (0)))), none⟩]
@[go_sem] def slices_IndexFunc_Instr_r2 : List AO := [⟨(some 9), .op (.bin .lss 3 0 (.t 8) (.t 7) 3), none⟩]
@[go_sem] def slices_IndexFunc_Instr_r3 : List AO := [⟨(some 10), .op (.mv (.t 8)), none⟩,
  ⟨(some 5), .op (.asg (.t 10)), none⟩]
@[go_sem] def slices_IndexFunc_Instr_r4 : List AO := [⟨(some 11), .op (.mv (.t 1)), none⟩,
  ⟨(some 12), .op (.mv (.t 0)), none⟩,
  ⟨(some 13), .op (.mv (.t 5)), none⟩,
  ⟨(some 14), .op (.iaddr 63 6 (.t 12) (.t 13)), none⟩,
  ⟨(some 15), .op (.load 71 (some 6) (.t 14)), none⟩,
  ⟨(some 16), .callx (.t 11) [(false, (.t 15))] [.p 0] [71], none⟩]
@[go_sem] def slices_IndexFunc_Instr_r5 : List AO := [⟨(some 17), .op (.mv (.t 5)), none⟩,
  ⟨(some 4), .op (.asg (.t 17)), none⟩]
@[go_sem] def slices_IndexFunc_Instr_r6 : List AO := [⟨(some 18), .op (.bin .add 3 0 (.t 8) (.c (.int .i64 (1))) 3), none⟩,
  ⟨(some 8), .op (.mv (.t 18)), none⟩]
def slices_IndexFunc_Instr_l0 : IC := (.seq (.reg slices_IndexFunc_Instr_r2) (.seq (.cond (.t 9) .skip (.exit 0)) (.seq (.block 1 (.seq (.reg slices_IndexFunc_Instr_r3) (.seq (.reg slices_IndexFunc_Instr_r4) (.cond (.t 16) (.seq (.reg slices_IndexFunc_Instr_r5) .ret) .skip)))) (.reg slices_IndexFunc_Instr_r6))))
@[go_sem] def slices_IndexFunc_Instr_r7 : List AO := [⟨(some 4), .op (.asg (.c (.int .i64 (-1)))), none⟩]
def slices_IndexFunc_Instr_c : IC := (.seq (.reg slices_IndexFunc_Instr_r0) (.seq (.seq (.reg slices_IndexFunc_Instr_r1) (.block 0 (.loop slices_IndexFunc_Instr_l0))) (.seq (.reg slices_IndexFunc_Instr_r7) .ret)))
abbrev F_slices_IndexFunc_Instr : Nat := 152
@[go_sem] theorem slices_IndexFunc_Instr_fnB : fnB pg 152 = true := by kernel_rfl
theorem slices_IndexFunc_Instr_callX {G : Nat → Option Value} {pre : List AV} {res : AV} {posts : List (Nat × AV)} {pins : List Nat} (hpin : slices_IndexFunc_Instr_c.pin pins = true) (hpo : posts.map (·.1) = pins) (hpr : (pins.all fun t => !([(ResultVar.tmp 4)].map rvT).contains t && decide (t < pre.length)) = true) (hnr : (posts.all fun p => noRef p.2) = true) (hsz : decide (pre.length ≤ 19) = true) (h : AW pg G 19 slices_IndexFunc_Instr_c (endRX [(.tmp 4)] res posts) (St.init pre)) : ACallsX pg G F_slices_IndexFunc_Instr pre res posts :=
  ACallsX.of_walk (fn := Go.Proofs.Tryd.f152) (vs := [(ResultVar.tmp 4)]) (ic := slices_IndexFunc_Instr_c) (by kernel_rfl) (by kernel_rfl) rfl (by kernel_rfl) (by kernel_rfl) (of_decide_eq_true (by kernel_rfl)) (by kernel_rfl) (by kernel_rfl) (by kernel_rfl) hpin (of_decide_eq_true hsz) hpo hpr hnr h

@[go_sem] def slices_IndexFunc_Desc_r0 : List AO := [⟨(some 4), .op (.asg (.c (.int .i64 (0)))), none⟩]
@[go_sem] def slices_IndexFunc_Desc_r1 : List AO := [⟨(some 6), .op (.mv (.t 0)), none⟩,
  ⟨(some 7), .op (.len 62 false (.t 6)), none⟩,
  ⟨(some 8), .op (.mv (.c (.int .i64 (0)))), none⟩]
@[go_sem] def slices_IndexFunc_Desc_r2 : List AO := [⟨(some 9), .op (.bin .lss 3 0 (.t 8) (.t 7) 3), none⟩]
@[go_sem] def slices_IndexFunc_Desc_r3 : List AO := [⟨(some 10), .op (.mv (.t 8)), none⟩,
  ⟨(some 5), .op (.asg (.t 10)), none⟩]
@[go_sem] def slices_IndexFunc_Desc_r4 : List AO := [⟨(some 11), .op (.mv (.t 1)), none⟩,
  ⟨(some 12), .op (.mv (.t 0)), none⟩,
  ⟨(some 13), .op (.mv (.t 5)), none⟩,
  ⟨(some 14), .op (.iaddr 62 2 (.t 12) (.t 13)), none⟩,
  ⟨(some 15), .op (.load 54 (some 2) (.t 14)), none⟩,
  ⟨(some 16), .callx (.t 11) [(false, (.t 15))] [.p 0] [54], none⟩]
@[go_sem] def slices_IndexFunc_Desc_r5 : List AO := [⟨(some 17), .op (.mv (.t 5)), none⟩,
  ⟨(some 4), .op (.asg (.t 17)), none⟩]
@[go_sem] def slices_IndexFunc_Desc_r6 : List AO := [⟨(some 18), .op (.bin .add 3 0 (.t 8) (.c (.int .i64 (1))) 3), none⟩,
  ⟨(some 8), .op (.mv (.t 18)), none⟩]
def slices_IndexFunc_Desc_l0 : IC := (.seq (.reg slices_IndexFunc_Desc_r2) (.seq (.cond (.t 9) .skip (.exit 0)) (.seq (.block 1 (.seq (.reg slices_IndexFunc_Desc_r3) (.seq (.reg slices_IndexFunc_Desc_r4) (.cond (.t 16) (.seq (.reg slices_IndexFunc_Desc_r5) .ret) .skip)))) (.reg slices_IndexFunc_Desc_r6))))
@[go_sem] def slices_IndexFunc_Desc_r7 : List AO := [⟨(some 4), .op (.asg (.c (.int .i64 (-1)))), none⟩]
def slices_IndexFunc_Desc_c : IC := (.seq (.reg slices_IndexFunc_Desc_r0) (.seq (.seq (.reg slices_IndexFunc_Desc_r1) (.block 0 (.loop slices_IndexFunc_Desc_l0))) (.seq (.reg slices_IndexFunc_Desc_r7) .ret)))
abbrev F_slices_IndexFunc_Desc : Nat := 153
@[go_sem] theorem slices_IndexFunc_Desc_fnB : fnB pg 153 = true := by kernel_rfl
theorem slices_IndexFunc_Desc_callX {G : Nat → Option Value} {pre : List AV} {res : AV} {posts : List (Nat × AV)} {pins : List Nat} (hpin : slices_IndexFunc_Desc_c.pin pins = true) (hpo : posts.map (·.1) = pins) (hpr : (pins.all fun t => !([(ResultVar.tmp 4)].map rvT).contains t && decide (t < pre.length)) = true) (hnr : (posts.all fun p => noRef p.2) = true) (hsz : decide (pre.length ≤ 19) = true) (h : AW pg G 19 slices_IndexFunc_Desc_c (endRX [(.tmp 4)] res posts) (St.init pre)) : ACallsX pg G F_slices_IndexFunc_Desc pre res posts :=
  ACallsX.of_walk (fn := Go.Proofs.Tryd.f153) (vs := [(ResultVar.tmp 4)]) (ic := slices_IndexFunc_Desc_c) (by kernel_rfl) (by kernel_rfl) rfl (by kernel_rfl) (by kernel_rfl) (of_decide_eq_true (by kernel_rfl)) (by kernel_rfl) (by kernel_rfl) (by kernel_rfl) hpin (of_decide_eq_true hsz) hpo hpr hnr h

@[go_sem] def slices_Concat_int_r0 : List AO := [⟨(some 2), .op (.asg (.nl 1)), none⟩]
@[go_sem] def slices_Concat_int_r1 : List AO := [⟨(some 3), .op (.asg (.c (.int .i64 (0)))), none⟩]
@[go_sem] def slices_Concat_int_r2 : List AO := [⟨(some 9), .op (.mv (.t 0)), none⟩,
  ⟨(some 10), .op (.len 22 false (.t 9)), none⟩,
  ⟨(some 11), .op (.mv (.c (.int .i64 (0)))), none⟩]
@[go_sem] def slices_Concat_int_r3 : List AO := [⟨(some 12), .op (.bin .lss 3 0 (.t 11) (.t 10) 3), none⟩]
@[go_sem] def slices_Concat_int_r4 : List AO := [⟨(some 13), .op (.iaddr 22 1 (.t 9) (.t 11)), none⟩,
  ⟨(some 14), .op (.load 24 none (.t 13)), none⟩,
  ⟨(some 5), .op (.asg (.t 14)), none⟩]
@[go_sem] def slices_Concat_int_r5 : List AO := [⟨(some 15), .op (.mv (.t 3)), none⟩,
  ⟨(some 16), .op (.mv (.t 5)), none⟩,
  ⟨(some 17), .op (.len 24 false (.t 16)), none⟩,
  ⟨(some 18), .op (.bin .add 3 0 (.t 15) (.t 17) 3), none⟩,
  ⟨(some 3), .op (.asg (.t 18)), none⟩]
@[go_sem] def slices_Concat_int_r6 : List AO := [⟨(some 19), .op (.mv (.t 3)), none⟩,
  ⟨(some 20), .op (.bin .lss 3 0 (.t 19) (.c (.int .i64 (0))) 3), none⟩]
@[go_sem] def slices_Concat_int_r7 : List AO := [⟨(some 21), .op (.mki 9 (.c (.string ⟨#[108,101,110,32,111,117,116,32,111,102,32,114,97,110,103,101]⟩))), none⟩,
  ⟨none, .bad (.panic (.tmp 21)), none⟩]
@[go_sem] def slices_Concat_int_r8 : List AO := [⟨(some 22), .op (.bin .add 3 0 (.t 11) (.c (.int .i64 (1))) 3), none⟩,
  ⟨(some 11), .op (.mv (.t 22)), none⟩]
def slices_Concat_int_l0 : IC := (.seq (.reg slices_Concat_int_r3) (.seq (.cond (.t 12) .skip (.exit 0)) (.seq (.block 1 (.seq (.reg slices_Concat_int_r4) (.seq (.reg slices_Concat_int_r5) (.seq (.reg slices_Concat_int_r6) (.cond (.t 20) (.reg slices_Concat_int_r7) .skip))))) (.reg slices_Concat_int_r8))))
@[go_sem] def slices_Concat_int_r9 : List AO := [⟨(some 23), .op (.mv (.t 3)), none⟩,
  ⟨(some 24), .call 170 [(false, (.c (.slice none 0 0))), (false, (.t 23))] [24, 3], none⟩,
  ⟨(some 6), .op (.asg (.t 24)), none⟩]
@[go_sem] def slices_Concat_int_r10 : List AO := [⟨(some 25), .op (.mv (.t 0)), none⟩,
  ⟨(some 26), .op (.len 22 false (.t 25)), none⟩,
  ⟨(some 27), .op (.mv (.c (.int .i64 (0)))), none⟩]
@[go_sem] def slices_Concat_int_r11 : List AO := [⟨(some 28), .op (.bin .lss 3 0 (.t 27) (.t 26) 3), none⟩]
@[go_sem] def slices_Concat_int_r12 : List AO := [⟨(some 29), .op (.iaddr 22 1 (.t 25) (.t 27)), none⟩,
  ⟨(some 30), .op (.load 24 none (.t 29)), none⟩,
  ⟨(some 8), .op (.asg (.t 30)), none⟩]
@[go_sem] def slices_Concat_int_r13 : List AO := [⟨(some 31), .op (.mv (.t 6)), none⟩,
  ⟨(some 32), .op (.mv (.t 8)), none⟩,
  ⟨(some 33), .op (.app 24 3 1 8 (.t 31) (.t 32)), none⟩,
  ⟨(some 6), .op (.asg (.t 33)), none⟩]
@[go_sem] def slices_Concat_int_r14 : List AO := [⟨(some 34), .op (.bin .add 3 0 (.t 27) (.c (.int .i64 (1))) 3), none⟩,
  ⟨(some 27), .op (.mv (.t 34)), none⟩]
def slices_Concat_int_l1 : IC := (.seq (.reg slices_Concat_int_r11) (.seq (.cond (.t 28) .skip (.exit 2)) (.seq (.block 3 (.seq (.reg slices_Concat_int_r12) (.reg slices_Concat_int_r13))) (.reg slices_Concat_int_r14))))
@[go_sem] def slices_Concat_int_r15 : List AO := [⟨(some 35), .op (.mv (.t 6)), none⟩,
  ⟨(some 2), .op (.asg (.t 35)), none⟩]
def slices_Concat_int_c : IC := (.seq (.reg slices_Concat_int_r0) (.seq (.reg slices_Concat_int_r1) (.seq (.seq (.reg slices_Concat_int_r2) (.block 0 (.loop slices_Concat_int_l0))) (.seq (.reg slices_Concat_int_r9) (.seq (.seq (.reg slices_Concat_int_r10) (.block 2 (.loop slices_Concat_int_l1))) (.seq (.reg slices_Concat_int_r15) .ret))))))
abbrev F_slices_Concat_int : Nat := 154
theorem slices_Concat_int_call {G : Nat → Option Value} {pre : List AV} {res : AV} (hsz : decide (pre.length ≤ 36) = true) (h : AW pg G 36 slices_Concat_int_c (endR [(.tmp 2)] res) (St.init pre)) : ACalls pg G F_slices_Concat_int pre res :=
  ACalls.of_walk (fn := Go.Proofs.Tryd.f154) (vs := [(ResultVar.tmp 2)]) (ic := slices_Concat_int_c) (by kernel_rfl) (by kernel_rfl) rfl (by kernel_rfl) (by kernel_rfl) (of_decide_eq_true (by kernel_rfl)) (by kernel_rfl) (by kernel_rfl) (by kernel_rfl) (of_decide_eq_true hsz) h
@[go_sem] theorem slices_Concat_int_fnB : fnB pg 154 = true := by kernel_rfl

end Go.Ideal.Tryd
end
