/- Part Pa of the proof: a machine with trees for values, its soundness, and walks on it. -/
import Derived.Test.YtfdhkijgolgnfaaDoorNw
import Derived.Test.YtfdhkijgolgnfaaDoorProg

section
set_option linter.unusedVariables false
set_option maxRecDepth 10000
namespace Go.Ideal.Tryd
noncomputable abbrev pg : Program := Go.Proofs.Tryd.prog
/-! F3 lodge/lodgelaw18.OrderSorts -/
@[go_sem] def lodgelaw18_OrderSorts_r0 : List AO := [⟨(some 2), .op (.asg (.c (.bool false))), none⟩]
@[go_sem] def lodgelaw18_OrderSorts_r1 : List AO := [⟨(some 13), .call 14 [] [], none⟩,
  ⟨(some 3), .op (.asg (.t 13)), none⟩]
@[go_sem] def lodgelaw18_OrderSorts_r2 : List AO := [⟨(some 14), .op (.mv (.t 3)), none⟩,
  ⟨(some 15), .op (.un .not 4 (.t 14)), none⟩]
@[go_sem] def lodgelaw18_OrderSorts_r3 : List AO := [⟨(some 2), .op (.asg (.c (.bool false))), none⟩]
@[go_sem] def lodgelaw18_OrderSorts_r4 : List AO := [⟨(some 16), .op (.mv (.t 0)), none⟩,
  ⟨(some 17), .op (.len 22 false (.t 16)), none⟩,
  ⟨(some 18), .op (.bin .gtr 3 0 (.t 17) (.c (.int .i64 (70))) 3), none⟩,
  ⟨(some 19), .op (.mv (.t 18)), none⟩,
  ⟨(some 20), .op (.mv (.t 3)), (some (3, 19, false))⟩,
  ⟨(some 21), .op (.un .not 4 (.t 20)), (some (3, 19, false))⟩,
  ⟨(some 22), .op (.pick (.t 19) (.c (.bool true)) (.t 21)), none⟩]
@[go_sem] def lodgelaw18_OrderSorts_r5 : List AO := [⟨(some 23), .op (.mv (.t 3)), none⟩,
  ⟨(some 2), .op (.asg (.t 23)), none⟩]
@[go_sem] def lodgelaw18_OrderSorts_r6 : List AO := [⟨(some 4), .op (.asg (.c (.int .i64 (0)))), none⟩]
@[go_sem] def lodgelaw18_OrderSorts_r7 : List AO := [⟨(some 24), .op (.mv (.t 4)), none⟩,
  ⟨(some 25), .op (.mv (.t 0)), none⟩,
  ⟨(some 26), .op (.len 22 false (.t 25)), none⟩,
  ⟨(some 27), .op (.bin .lss 3 0 (.t 24) (.t 26) 3), none⟩]
@[go_sem] def lodgelaw18_OrderSorts_r9 : List AO := [⟨(some 30), .op (.mv (.t 0)), none⟩,
  ⟨(some 31), .op (.mv (.t 4)), none⟩,
  ⟨(some 32), .op (.iaddr 22 1 (.t 30) (.t 31)), none⟩,
  ⟨(some 33), .op (.load 24 none (.t 32)), none⟩,
  ⟨(some 34), .op (.len 24 false (.t 33)), none⟩,
  ⟨(some 35), .op (.bin .gtr 3 0 (.t 34) (.c (.int .i64 (10))) 3), none⟩]
@[go_sem] def lodgelaw18_OrderSorts_r10 : List AO := [⟨(some 2), .op (.asg (.c (.bool true))), none⟩]
@[go_sem] def lodgelaw18_OrderSorts_r8 : List AO := [⟨(some 28), .op (.mv (.t 4)), none⟩,
  ⟨(some 29), .op (.bin .add 3 0 (.t 28) (.c (.int .i64 (1))) 3), none⟩,
  ⟨(some 4), .op (.asg (.t 29)), none⟩]
def lodgelaw18_OrderSorts_l0 : IC := (.seq (.seq (.reg lodgelaw18_OrderSorts_r7) (.cond (.t 27) .skip (.exit 0))) (.seq (.block 1 (.seq (.reg lodgelaw18_OrderSorts_r9) (.cond (.t 35) (.seq (.reg lodgelaw18_OrderSorts_r10) .ret) .skip))) (.reg lodgelaw18_OrderSorts_r8)))
@[go_sem] def lodgelaw18_OrderSorts_r11 : List AO := [⟨(some 37), .op (.mv (.t 0)), none⟩,
  ⟨(some 38), .call 15 [(false, (.t 37))] [22], none⟩,
  ⟨(some 36), .op (.mva (.t 38)), none⟩,
  ⟨(some 39), .op (.ext (.t 36) 0), none⟩,
  ⟨(some 40), .op (.ext (.t 36) 1), none⟩,
  ⟨(some 5), .op (.asg (.t 39)), none⟩,
  ⟨(some 6), .op (.asg (.t 40)), none⟩]
@[go_sem] def lodgelaw18_OrderSorts_r12 : List AO := [⟨(some 42), .op (.mv (.t 0)), none⟩,
  ⟨(some 43), .call 16 [(false, (.t 42))] [22], none⟩,
  ⟨(some 41), .op (.mva (.t 43)), none⟩,
  ⟨(some 44), .op (.ext (.t 41) 0), none⟩,
  ⟨(some 45), .op (.ext (.t 41) 1), none⟩,
  ⟨(some 8), .op (.alloc 30 [.lit (.int .i64 0), .lit (.bool false), .lit (.int .i64 0)]), none⟩,
  ⟨(some 7), .op (.asg (.t 44)), none⟩,
  ⟨none, .op (.store 30 3 (.t 8) (.t 45)), none⟩]
@[go_sem] def lodgelaw18_OrderSorts_r13 : List AO := [⟨(some 46), .op (.mv (.t 5)), none⟩,
  ⟨(some 47), .op (.mv (.t 7)), none⟩,
  ⟨(some 48), .call 17 [(false, (.t 46)), (false, (.t 47))] [24, 24], none⟩,
  ⟨(some 49), .op (.un .not 4 (.t 48)), none⟩,
  ⟨(some 50), .op (.mv (.t 49)), none⟩,
  ⟨(some 51), .op (.mv (.t 6)), (some (4, 50, false))⟩,
  ⟨(some 52), .op (.load 30 (some 3) (.t 8)), (some (4, 50, false))⟩,
  ⟨(some 53), .call 18 [(false, (.t 51)), (false, (.t 52))] [26, 30], (some (4, 50, false))⟩,
  ⟨(some 54), .op (.un .not 4 (.t 53)), (some (4, 50, false))⟩,
  ⟨(some 55), .op (.pick (.t 50) (.c (.bool true)) (.t 54)), none⟩]
@[go_sem] def lodgelaw18_OrderSorts_r14 : List AO := [⟨(some 2), .op (.asg (.c (.bool false))), none⟩]
@[go_sem] def lodgelaw18_OrderSorts_r15 : List AO := [⟨(some 56), .op (.mv (.t 0)), none⟩,
  ⟨(some 57), .op (.len 22 false (.t 56)), none⟩,
  ⟨(some 58), .op (.mks 24 3 1 8 [.lit (.int .i64 0)] (.t 57) (.t 57)), none⟩,
  ⟨(some 9), .op (.asg (.t 58)), none⟩]
@[go_sem] def lodgelaw18_OrderSorts_r16 : List AO := [⟨(some 10), .op (.asg (.c (.int .i64 (0)))), none⟩]
@[go_sem] def lodgelaw18_OrderSorts_r17 : List AO := [⟨(some 59), .op (.mv (.t 10)), none⟩,
  ⟨(some 60), .op (.mv (.t 5)), none⟩,
  ⟨(some 61), .op (.len 24 false (.t 60)), none⟩,
  ⟨(some 62), .op (.bin .lss 3 0 (.t 59) (.t 61) 3), none⟩]
@[go_sem] def lodgelaw18_OrderSorts_r19 : List AO := [⟨(some 65), .op (.mv (.t 9)), none⟩,
  ⟨(some 66), .op (.mv (.t 5)), none⟩,
  ⟨(some 67), .op (.mv (.t 10)), none⟩,
  ⟨(some 68), .op (.iaddr 24 1 (.t 66) (.t 67)), none⟩,
  ⟨(some 69), .op (.load 3 none (.t 68)), none⟩,
  ⟨(some 70), .op (.mv (.t 10)), none⟩,
  ⟨(some 71), .op (.iaddr 24 1 (.t 65) (.t 69)), none⟩,
  ⟨none, .op (.store 3 1 (.t 71) (.t 70)), none⟩]
@[go_sem] def lodgelaw18_OrderSorts_r18 : List AO := [⟨(some 63), .op (.mv (.t 10)), none⟩,
  ⟨(some 64), .op (.bin .add 3 0 (.t 63) (.c (.int .i64 (1))) 3), none⟩,
  ⟨(some 10), .op (.asg (.t 64)), none⟩]
def lodgelaw18_OrderSorts_l1 : IC := (.seq (.seq (.reg lodgelaw18_OrderSorts_r17) (.cond (.t 62) .skip (.exit 2))) (.seq (.block 3 (.reg lodgelaw18_OrderSorts_r19)) (.reg lodgelaw18_OrderSorts_r18)))
@[go_sem] def lodgelaw18_OrderSorts_r20 : List AO := [⟨(some 11), .op (.asg (.c (.int .i64 (0)))), none⟩]
@[go_sem] def lodgelaw18_OrderSorts_r21 : List AO := [⟨(some 72), .op (.mv (.t 11)), none⟩,
  ⟨(some 73), .op (.mv (.t 5)), none⟩,
  ⟨(some 74), .op (.len 24 false (.t 73)), none⟩,
  ⟨(some 75), .op (.bin .lss 3 0 (.t 72) (.t 74) 3), none⟩]
@[go_sem] def lodgelaw18_OrderSorts_r23 : List AO := [⟨(some 12), .op (.asg (.c (.int .i64 (0)))), none⟩]
@[go_sem] def lodgelaw18_OrderSorts_r24 : List AO := [⟨(some 78), .op (.mv (.t 12)), none⟩,
  ⟨(some 79), .op (.mv (.t 0)), none⟩,
  ⟨(some 80), .op (.mv (.t 11)), none⟩,
  ⟨(some 81), .op (.iaddr 22 1 (.t 79) (.t 80)), none⟩,
  ⟨(some 82), .op (.load 24 none (.t 81)), none⟩,
  ⟨(some 83), .op (.len 24 false (.t 82)), none⟩,
  ⟨(some 84), .op (.bin .lss 3 0 (.t 78) (.t 83) 3), none⟩]
@[go_sem] def lodgelaw18_OrderSorts_r26 : List AO := [⟨(some 87), .op (.mv (.t 9)), none⟩,
  ⟨(some 88), .op (.mv (.t 0)), none⟩,
  ⟨(some 89), .op (.mv (.t 11)), none⟩,
  ⟨(some 90), .op (.iaddr 22 1 (.t 88) (.t 89)), none⟩,
  ⟨(some 91), .op (.load 24 none (.t 90)), none⟩,
  ⟨(some 92), .op (.mv (.t 12)), none⟩,
  ⟨(some 93), .op (.iaddr 24 1 (.t 91) (.t 92)), none⟩,
  ⟨(some 94), .op (.load 3 none (.t 93)), none⟩,
  ⟨(some 95), .op (.iaddr 24 1 (.t 87) (.t 94)), none⟩,
  ⟨(some 96), .op (.load 3 none (.t 95)), none⟩,
  ⟨(some 97), .op (.mv (.t 9)), none⟩,
  ⟨(some 98), .op (.mv (.t 11)), none⟩,
  ⟨(some 99), .op (.iaddr 24 1 (.t 97) (.t 98)), none⟩,
  ⟨(some 100), .op (.load 3 none (.t 99)), none⟩,
  ⟨(some 101), .op (.bin .geq 3 0 (.t 96) (.t 100) 3), none⟩]
@[go_sem] def lodgelaw18_OrderSorts_r27 : List AO := [⟨(some 2), .op (.asg (.c (.bool false))), none⟩]
@[go_sem] def lodgelaw18_OrderSorts_r25 : List AO := [⟨(some 85), .op (.mv (.t 12)), none⟩,
  ⟨(some 86), .op (.bin .add 3 0 (.t 85) (.c (.int .i64 (1))) 3), none⟩,
  ⟨(some 12), .op (.asg (.t 86)), none⟩]
def lodgelaw18_OrderSorts_l2 : IC := (.seq (.seq (.reg lodgelaw18_OrderSorts_r24) (.cond (.t 84) .skip (.exit 6))) (.seq (.block 7 (.seq (.draw lodgelaw18_OrderSorts_r26 [[], [], [], [1, 2], [3], [], [4, 5], [6], [0, 7], [8], [], [], [10, 11], [12], [9, 13]]) (.cond (.t 101) (.seq (.reg lodgelaw18_OrderSorts_r27) .ret) .skip))) (.reg lodgelaw18_OrderSorts_r25)))
@[go_sem] def lodgelaw18_OrderSorts_r22 : List AO := [⟨(some 76), .op (.mv (.t 11)), none⟩,
  ⟨(some 77), .op (.bin .add 3 0 (.t 76) (.c (.int .i64 (1))) 3), none⟩,
  ⟨(some 11), .op (.asg (.t 77)), none⟩]
def lodgelaw18_OrderSorts_l3 : IC := (.seq (.seq (.reg lodgelaw18_OrderSorts_r21) (.cond (.t 75) .skip (.exit 4))) (.seq (.block 5 (.seq (.reg lodgelaw18_OrderSorts_r23) (.block 6 (.loop lodgelaw18_OrderSorts_l2)))) (.reg lodgelaw18_OrderSorts_r22)))
@[go_sem] def lodgelaw18_OrderSorts_r28 : List AO := [⟨(some 2), .op (.asg (.c (.bool true))), none⟩]
def lodgelaw18_OrderSorts_c : IC := (.seq (.reg lodgelaw18_OrderSorts_r0) (.seq (.reg lodgelaw18_OrderSorts_r1) (.seq (.seq (.reg lodgelaw18_OrderSorts_r2) (.cond (.t 15) (.seq (.reg lodgelaw18_OrderSorts_r3) .ret) .skip)) (.seq (.seq (.reg lodgelaw18_OrderSorts_r4) (.cond (.t 22) (.seq (.reg lodgelaw18_OrderSorts_r5) .ret) .skip)) (.seq (.seq (.reg lodgelaw18_OrderSorts_r6) (.block 0 (.loop lodgelaw18_OrderSorts_l0))) (.seq (.reg lodgelaw18_OrderSorts_r11) (.seq (.reg lodgelaw18_OrderSorts_r12) (.seq (.seq (.reg lodgelaw18_OrderSorts_r13) (.cond (.t 55) (.seq (.reg lodgelaw18_OrderSorts_r14) .ret) .skip)) (.seq (.reg lodgelaw18_OrderSorts_r15) (.seq (.seq (.reg lodgelaw18_OrderSorts_r16) (.block 2 (.loop lodgelaw18_OrderSorts_l1))) (.seq (.seq (.reg lodgelaw18_OrderSorts_r20) (.block 4 (.loop lodgelaw18_OrderSorts_l3))) (.seq (.reg lodgelaw18_OrderSorts_r28) .ret))))))))))))
abbrev F_lodgelaw18_OrderSorts : Nat := 3
theorem lodgelaw18_OrderSorts_call {G : Nat → Option Value} {pre : List AV} {res : AV} (hsz : decide (pre.length ≤ 102) = true) (h : AW pg G 102 lodgelaw18_OrderSorts_c (endR [(.tmp 2)] res) (St.init pre)) : ACalls pg G F_lodgelaw18_OrderSorts pre res :=
  ACalls.of_walk (fn := Go.Proofs.Tryd.f3) (vs := [(.tmp 2)]) (ic := lodgelaw18_OrderSorts_c) (by kernel_rfl) (by kernel_rfl) rfl (by kernel_rfl) (by kernel_rfl) (of_decide_eq_true (by kernel_rfl)) (by kernel_rfl) (by kernel_rfl) (by kernel_rfl) (of_decide_eq_true hsz) h

/-! F4 lodge/lodgelaw18.OrderRows -/
@[go_sem] def lodgelaw18_OrderRows_r0 : List AO := [⟨(some 4), .op (.asg (.c (.bool false))), none⟩]
@[go_sem] def lodgelaw18_OrderRows_r1 : List AO := [⟨(some 11), .call 14 [] [], none⟩,
  ⟨(some 5), .op (.asg (.t 11)), none⟩]
@[go_sem] def lodgelaw18_OrderRows_r2 : List AO := [⟨(some 12), .op (.mv (.t 5)), none⟩,
  ⟨(some 13), .op (.un .not 4 (.t 12)), none⟩]
@[go_sem] def lodgelaw18_OrderRows_r3 : List AO := [⟨(some 4), .op (.asg (.c (.bool false))), none⟩]
@[go_sem] def lodgelaw18_OrderRows_r4 : List AO := [⟨(some 14), .op (.mv (.t 0)), none⟩,
  ⟨(some 15), .call 19 [(false, (.t 14)), (false, (.c (.int .i64 (60))))] [3, 3], none⟩,
  ⟨(some 16), .op (.bin .add 3 0 (.t 15) (.c (.int .i64 (1))) 3), none⟩,
  ⟨(some 0), .op (.asg (.t 16)), none⟩]
@[go_sem] def lodgelaw18_OrderRows_r5 : List AO := [⟨(some 17), .op (.mv (.t 0)), none⟩,
  ⟨(some 18), .op (.mks 22 24 1 24 [.own 1 0 []] (.t 17) (.t 17)), none⟩,
  ⟨(some 6), .op (.asg (.t 18)), none⟩]
@[go_sem] def lodgelaw18_OrderRows_r6 : List AO := [⟨(some 7), .op (.asg (.c (.int .i64 (0)))), none⟩]
@[go_sem] def lodgelaw18_OrderRows_r7 : List AO := [⟨(some 19), .op (.mv (.t 7)), none⟩,
  ⟨(some 20), .op (.bin .add 3 0 (.t 19) (.c (.int .i64 (1))) 3), none⟩,
  ⟨(some 21), .op (.mv (.t 0)), none⟩,
  ⟨(some 22), .op (.bin .lss 3 0 (.t 20) (.t 21) 3), none⟩]
@[go_sem] def lodgelaw18_OrderRows_r9 : List AO := [⟨(some 25), .op (.mv (.t 6)), none⟩,
  ⟨(some 26), .op (.mv (.t 7)), none⟩,
  ⟨(some 27), .op (.mv (.t 7)), none⟩,
  ⟨(some 28), .op (.bin .add 3 0 (.t 27) (.c (.int .i64 (1))) 3), none⟩,
  ⟨(some 29), .op (.bslice 24 3 1 1 [.lit (.int .i64 0)] [(0, (.t 28))]), none⟩,
  ⟨(some 30), .op (.iaddr 22 1 (.t 25) (.t 26)), none⟩,
  ⟨none, .op (.store 24 1 (.t 30) (.t 29)), none⟩]
@[go_sem] def lodgelaw18_OrderRows_r8 : List AO := [⟨(some 23), .op (.mv (.t 7)), none⟩,
  ⟨(some 24), .op (.bin .add 3 0 (.t 23) (.c (.int .i64 (1))) 3), none⟩,
  ⟨(some 7), .op (.asg (.t 24)), none⟩]
def lodgelaw18_OrderRows_l0 : IC := (.seq (.seq (.reg lodgelaw18_OrderRows_r7) (.cond (.t 22) .skip (.exit 0))) (.seq (.block 1 (.reg lodgelaw18_OrderRows_r9)) (.reg lodgelaw18_OrderRows_r8)))
@[go_sem] def lodgelaw18_OrderRows_r10 : List AO := [⟨(some 31), .op (.mv (.t 1)), none⟩]
@[go_sem] def lodgelaw18_OrderRows_r11 : List AO := [⟨(some 32), .op (.mv (.t 6)), none⟩,
  ⟨(some 33), .op (.mv (.t 0)), none⟩,
  ⟨(some 34), .op (.bin .sub 3 0 (.t 33) (.c (.int .i64 (1))) 3), none⟩,
  ⟨(some 35), .op (.bslice 24 3 1 1 [.lit (.int .i64 0)] [(0, (.c (.int .i64 (0))))]), none⟩,
  ⟨(some 36), .op (.iaddr 22 1 (.t 32) (.t 34)), none⟩,
  ⟨none, .op (.store 24 1 (.t 36) (.t 35)), none⟩]
@[go_sem] def lodgelaw18_OrderRows_r12 : List AO := [⟨(some 38), .op (.mv (.t 6)), none⟩,
  ⟨(some 39), .call 15 [(false, (.t 38))] [22], none⟩,
  ⟨(some 37), .op (.mva (.t 39)), none⟩,
  ⟨(some 40), .op (.ext (.t 37) 0), none⟩,
  ⟨(some 41), .op (.ext (.t 37) 1), none⟩,
  ⟨(some 8), .op (.asg (.t 40)), none⟩,
  ⟨(some 9), .op (.asg (.t 41)), none⟩]
@[go_sem] def lodgelaw18_OrderRows_r13 : List AO := [⟨(some 42), .op (.mv (.t 1)), none⟩]
@[go_sem] def lodgelaw18_OrderRows_r14 : List AO := [⟨(some 43), .op (.mv (.t 5)), none⟩,
  ⟨(some 44), .op (.mv (.t 43)), none⟩,
  ⟨(some 45), .op (.mv (.t 8)), (some (1, 44, true))⟩,
  ⟨(some 46), .op (.len 24 false (.t 45)), (some (1, 44, true))⟩,
  ⟨(some 47), .op (.bin .eql 3 0 (.t 46) (.c (.int .i64 (0))) 3), (some (1, 44, true))⟩,
  ⟨(some 48), .op (.pick (.t 44) (.t 47) (.c (.bool false))), none⟩,
  ⟨(some 49), .op (.mv (.t 48)), none⟩,
  ⟨(some 50), .op (.mv (.t 9)), (some (6, 49, true))⟩,
  ⟨(some 51), .call 20 [(false, (.c (.int .i64 (111)))), (false, (.c (.int .i64 (0))))] [3, 3], (some (6, 49, true))⟩,
  ⟨(some 52), .call 18 [(false, (.t 50)), (false, (.t 51))] [26, 30], (some (6, 49, true))⟩,
  ⟨(some 53), .op (.pick (.t 49) (.t 52) (.c (.bool false))), none⟩,
  ⟨(some 4), .op (.asg (.t 53)), none⟩]
@[go_sem] def lodgelaw18_OrderRows_r15 : List AO := [⟨(some 10), .op (.asg (.c (.int .i64 (0)))), none⟩]
@[go_sem] def lodgelaw18_OrderRows_r16 : List AO := [⟨(some 54), .op (.mv (.t 10)), none⟩,
  ⟨(some 55), .op (.mv (.t 0)), none⟩,
  ⟨(some 56), .op (.bin .lss 3 0 (.t 54) (.t 55) 3), none⟩]
@[go_sem] def lodgelaw18_OrderRows_r18 : List AO := [⟨(some 59), .op (.mv (.t 8)), none⟩,
  ⟨(some 60), .op (.len 24 false (.t 59)), none⟩,
  ⟨(some 61), .op (.mv (.t 0)), none⟩,
  ⟨(some 62), .op (.bin .neq 3 0 (.t 60) (.t 61) 3), none⟩,
  ⟨(some 63), .op (.mv (.t 62)), none⟩,
  ⟨(some 64), .op (.mv (.t 8)), (some (4, 63, false))⟩,
  ⟨(some 65), .op (.mv (.t 10)), (some (4, 63, false))⟩,
  ⟨(some 66), .op (.iaddr 24 1 (.t 64) (.t 65)), (some (4, 63, false))⟩,
  ⟨(some 67), .op (.load 3 none (.t 66)), (some (4, 63, false))⟩,
  ⟨(some 68), .op (.mv (.t 0)), (some (4, 63, false))⟩,
  ⟨(some 69), .op (.bin .sub 3 0 (.t 68) (.c (.int .i64 (1))) 3), (some (4, 63, false))⟩,
  ⟨(some 70), .op (.mv (.t 10)), (some (4, 63, false))⟩,
  ⟨(some 71), .op (.bin .sub 3 0 (.t 69) (.t 70) 3), (some (4, 63, false))⟩,
  ⟨(some 72), .op (.bin .neq 3 0 (.t 67) (.t 71) 3), (some (4, 63, false))⟩,
  ⟨(some 73), .op (.pick (.t 63) (.c (.bool true)) (.t 72)), none⟩]
@[go_sem] def lodgelaw18_OrderRows_r19 : List AO := [⟨(some 4), .op (.asg (.c (.bool false))), none⟩]
@[go_sem] def lodgelaw18_OrderRows_r17 : List AO := [⟨(some 57), .op (.mv (.t 10)), none⟩,
  ⟨(some 58), .op (.bin .add 3 0 (.t 57) (.c (.int .i64 (1))) 3), none⟩,
  ⟨(some 10), .op (.asg (.t 58)), none⟩]
def lodgelaw18_OrderRows_l1 : IC := (.seq (.seq (.reg lodgelaw18_OrderRows_r16) (.cond (.t 56) .skip (.exit 2))) (.seq (.block 3 (.seq (.reg lodgelaw18_OrderRows_r18) (.cond (.t 73) (.seq (.reg lodgelaw18_OrderRows_r19) .ret) .skip))) (.reg lodgelaw18_OrderRows_r17)))
@[go_sem] def lodgelaw18_OrderRows_r20 : List AO := [⟨(some 74), .op (.mv (.t 5)), none⟩,
  ⟨(some 75), .op (.mv (.t 74)), none⟩,
  ⟨(some 76), .op (.mv (.t 9)), (some (1, 75, true))⟩,
  ⟨(some 77), .op (.bin .eql 26 2 (.t 76) (.c .nilIface) 26), (some (1, 75, true))⟩,
  ⟨(some 78), .op (.pick (.t 75) (.t 77) (.c (.bool false))), none⟩,
  ⟨(some 4), .op (.asg (.t 78)), none⟩]
def lodgelaw18_OrderRows_c : IC := (.seq (.reg lodgelaw18_OrderRows_r0) (.seq (.reg lodgelaw18_OrderRows_r1) (.seq (.seq (.reg lodgelaw18_OrderRows_r2) (.cond (.t 13) (.seq (.reg lodgelaw18_OrderRows_r3) .ret) .skip)) (.seq (.reg lodgelaw18_OrderRows_r4) (.seq (.reg lodgelaw18_OrderRows_r5) (.seq (.seq (.reg lodgelaw18_OrderRows_r6) (.block 0 (.loop lodgelaw18_OrderRows_l0))) (.seq (.seq (.reg lodgelaw18_OrderRows_r10) (.cond (.t 31) (.reg lodgelaw18_OrderRows_r11) .skip)) (.seq (.reg lodgelaw18_OrderRows_r12) (.seq (.seq (.reg lodgelaw18_OrderRows_r13) (.cond (.t 42) (.seq (.reg lodgelaw18_OrderRows_r14) .ret) .skip)) (.seq (.seq (.reg lodgelaw18_OrderRows_r15) (.block 2 (.loop lodgelaw18_OrderRows_l1))) (.seq (.reg lodgelaw18_OrderRows_r20) .ret)))))))))))
abbrev F_lodgelaw18_OrderRows : Nat := 4
theorem lodgelaw18_OrderRows_call {G : Nat → Option Value} {pre : List AV} {res : AV} (hsz : decide (pre.length ≤ 79) = true) (h : AW pg G 79 lodgelaw18_OrderRows_c (endR [(.tmp 4)] res) (St.init pre)) : ACalls pg G F_lodgelaw18_OrderRows pre res :=
  ACalls.of_walk (fn := Go.Proofs.Tryd.f4) (vs := [(.tmp 4)]) (ic := lodgelaw18_OrderRows_c) (by kernel_rfl) (by kernel_rfl) rfl (by kernel_rfl) (by kernel_rfl) (of_decide_eq_true (by kernel_rfl)) (by kernel_rfl) (by kernel_rfl) (by kernel_rfl) (of_decide_eq_true hsz) h

/-! F14 lodge/lodgelaw18.first -/
@[go_sem] def lodgelaw18_first_r0 : List AO := [⟨(some 0), .op (.asg (.c (.bool false))), none⟩]
@[go_sem] def lodgelaw18_first_r1 : List AO := [⟨(some 4), .op (.bslice 24 3 1 1 [.lit (.int .i64 0)] [(0, (.c (.int .i64 (1))))]), none⟩,
  ⟨(some 5), .op (.bslice 24 3 1 1 [.lit (.int .i64 0)] [(0, (.c (.int .i64 (0))))]), none⟩,
  ⟨(some 6), .op (.bslice 22 24 1 2 [.own 1 0 []] [(0, (.t 4)), (1, (.t 5))]), none⟩,
  ⟨(some 7), .call 15 [(false, (.t 6))] [22], none⟩,
  ⟨(some 3), .op (.mva (.t 7)), none⟩,
  ⟨(some 8), .op (.ext (.t 3) 0), none⟩,
  ⟨(some 9), .op (.ext (.t 3) 1), none⟩,
  ⟨(some 1), .op (.asg (.t 8)), none⟩,
  ⟨(some 2), .op (.asg (.t 9)), none⟩]
@[go_sem] def lodgelaw18_first_r2 : List AO := [⟨(some 10), .op (.mv (.t 2)), none⟩,
  ⟨(some 11), .call 20 [(false, (.c (.int .i64 (111)))), (false, (.c (.int .i64 (0))))] [3, 3], none⟩,
  ⟨(some 12), .call 18 [(false, (.t 10)), (false, (.t 11))] [26, 30], none⟩,
  ⟨(some 0), .op (.asg (.t 12)), none⟩]
def lodgelaw18_first_c : IC := (.seq (.reg lodgelaw18_first_r0) (.seq (.reg lodgelaw18_first_r1) (.seq (.reg lodgelaw18_first_r2) .ret)))
abbrev F_lodgelaw18_first : Nat := 14
theorem lodgelaw18_first_call {G : Nat → Option Value} {pre : List AV} {res : AV} (hsz : decide (pre.length ≤ 13) = true) (h : AW pg G 13 lodgelaw18_first_c (endR [(.tmp 0)] res) (St.init pre)) : ACalls pg G F_lodgelaw18_first pre res :=
  ACalls.of_walk (fn := Go.Proofs.Tryd.f14) (vs := [(.tmp 0)]) (ic := lodgelaw18_first_c) (by kernel_rfl) (by kernel_rfl) rfl (by kernel_rfl) (by kernel_rfl) (of_decide_eq_true (by kernel_rfl)) (by kernel_rfl) (by kernel_rfl) (by kernel_rfl) (of_decide_eq_true hsz) h

/-! F15 lodge/order.Sort -/
@[go_sem] def order_Sort_r0 : List AO := [⟨(some 2), .op (.asg (.nl 1)), none⟩,
  ⟨(some 3), .op (.asg (.c .nilIface)), none⟩]
@[go_sem] def order_Sort_r1 : List AO := [⟨(some 16), .op (.mv (.t 0)), none⟩,
  ⟨(some 17), .op (.len 22 false (.t 16)), none⟩,
  ⟨(some 18), .op (.mks 24 3 1 8 [.lit (.int .i64 0)] (.t 17) (.t 17)), none⟩,
  ⟨(some 4), .op (.asg (.t 18)), none⟩]
@[go_sem] def order_Sort_r2 : List AO := [⟨(some 19), .op (.mv (.t 0)), none⟩,
  ⟨(some 20), .op (.len 22 false (.t 19)), none⟩,
  ⟨(some 21), .op (.mks 22 24 1 24 [.own 1 0 []] (.t 20) (.t 20)), none⟩,
  ⟨(some 5), .op (.asg (.t 21)), none⟩]
@[go_sem] def order_Sort_r3 : List AO := [⟨(some 22), .op (.mv (.t 0)), none⟩,
  ⟨(some 23), .op (.len 22 false (.t 22)), none⟩,
  ⟨(some 24), .op (.mv (.c (.int .i64 (0)))), none⟩]
@[go_sem] def order_Sort_r4 : List AO := [⟨(some 25), .op (.bin .lss 3 0 (.t 24) (.t 23) 3), none⟩]
@[go_sem] def order_Sort_r5 : List AO := [⟨(some 26), .op (.mv (.t 24)), none⟩,
  ⟨(some 27), .op (.iaddr 22 1 (.t 22) (.t 24)), none⟩,
  ⟨(some 28), .op (.load 24 none (.t 27)), none⟩,
  ⟨(some 6), .op (.asg (.t 26)), none⟩,
  ⟨(some 7), .op (.asg (.t 28)), none⟩]
@[go_sem] def order_Sort_r6 : List AO := [⟨(some 29), .op (.mv (.t 7)), none⟩,
  ⟨(some 30), .op (.len 24 false (.t 29)), none⟩,
  ⟨(some 31), .op (.mv (.c (.int .i64 (0)))), none⟩]
@[go_sem] def order_Sort_r7 : List AO := [⟨(some 32), .op (.bin .lss 3 0 (.t 31) (.t 30) 3), none⟩]
@[go_sem] def order_Sort_r8 : List AO := [⟨(some 33), .op (.iaddr 24 1 (.t 29) (.t 31)), none⟩,
  ⟨(some 34), .op (.load 3 none (.t 33)), none⟩,
  ⟨(some 9), .op (.asg (.t 34)), none⟩]
@[go_sem] def order_Sort_r9 : List AO := [⟨(some 35), .op (.mv (.t 9)), none⟩,
  ⟨(some 36), .op (.bin .lss 3 0 (.t 35) (.c (.int .i64 (0))) 3), none⟩,
  ⟨(some 37), .op (.mv (.t 36)), none⟩,
  ⟨(some 38), .op (.mv (.t 9)), (some (2, 37, false))⟩,
  ⟨(some 39), .op (.mv (.t 0)), (some (2, 37, false))⟩,
  ⟨(some 40), .op (.len 22 false (.t 39)), (some (2, 37, false))⟩,
  ⟨(some 41), .op (.bin .geq 3 0 (.t 38) (.t 40) 3), (some (2, 37, false))⟩,
  ⟨(some 42), .op (.pick (.t 37) (.c (.bool true)) (.t 41)), none⟩]
@[go_sem] def order_Sort_r10 : List AO := [⟨(some 43), .op (.mv (.t 6)), none⟩,
  ⟨(some 44), .op (.load 26 none (.g 0)), none⟩,
  ⟨(some 45), .op (.build 94 [.lit (.int .i64 0), .lit .nilIface] [(0, 0, 1, (.t 43)), (1, 1, 1, (.t 44))]), none⟩,
  ⟨(some 46), .op (.box 94 2 (.t 45)), none⟩,
  ⟨(some 47), .op (.mki 92 (.t 46)), none⟩,
  ⟨(some 2), .op (.asg (.nl 1)), none⟩,
  ⟨(some 3), .op (.asg (.t 47)), none⟩]
@[go_sem] def order_Sort_r11 : List AO := [⟨(some 48), .op (.mv (.t 5)), none⟩,
  ⟨(some 49), .op (.mv (.t 9)), none⟩,
  ⟨(some 50), .op (.mv (.t 5)), none⟩,
  ⟨(some 51), .op (.mv (.t 9)), none⟩,
  ⟨(some 52), .op (.iaddr 22 1 (.t 50) (.t 51)), none⟩,
  ⟨(some 53), .op (.load 24 none (.t 52)), none⟩,
  ⟨(some 54), .op (.mv (.t 6)), none⟩,
  ⟨(some 55), .op (.bslice 24 3 1 1 [.lit (.int .i64 0)] [(0, (.t 54))]), none⟩,
  ⟨(some 56), .op (.app 24 3 1 8 (.t 53) (.t 55)), none⟩,
  ⟨(some 57), .op (.iaddr 22 1 (.t 48) (.t 49)), none⟩,
  ⟨none, .op (.store 24 1 (.t 57) (.t 56)), none⟩]
@[go_sem] def order_Sort_r12 : List AO := [⟨(some 58), .op (.mv (.t 4)), none⟩,
  ⟨(some 59), .op (.mv (.t 6)), none⟩,
  ⟨(some 60), .op (.iaddr 24 1 (.t 58) (.t 59)), none⟩,
  ⟨(some 61), .op (.load 3 none (.t 60)), none⟩,
  ⟨(some 62), .op (.bin .add 3 0 (.t 61) (.c (.int .i64 (1))) 3), none⟩,
  ⟨(some 63), .op (.iaddr 24 1 (.t 58) (.t 59)), none⟩,
  ⟨none, .op (.store 3 1 (.t 63) (.t 62)), none⟩]
@[go_sem] def order_Sort_r13 : List AO := [⟨(some 64), .op (.bin .add 3 0 (.t 31) (.c (.int .i64 (1))) 3), none⟩,
  ⟨(some 31), .op (.mv (.t 64)), none⟩]
def order_Sort_l0 : IC := (.seq (.reg order_Sort_r7) (.seq (.cond (.t 32) .skip (.exit 2)) (.seq (.block 3 (.seq (.reg order_Sort_r8) (.seq (.seq (.reg order_Sort_r9) (.cond (.t 42) (.seq (.draw order_Sort_r10 [[], [], [0, 1], [2], [3], [], [4, 5, 0, 1, 2, 3, 4, 5]]) .ret) .skip)) (.seq (.reg order_Sort_r11) (.reg order_Sort_r12))))) (.reg order_Sort_r13))))
@[go_sem] def order_Sort_r14 : List AO := [⟨(some 65), .op (.bin .add 3 0 (.t 24) (.c (.int .i64 (1))) 3), none⟩,
  ⟨(some 24), .op (.mv (.t 65)), none⟩]
def order_Sort_l1 : IC := (.seq (.reg order_Sort_r4) (.seq (.cond (.t 25) .skip (.exit 0)) (.seq (.block 1 (.seq (.reg order_Sort_r5) (.seq (.reg order_Sort_r6) (.block 2 (.loop order_Sort_l0))))) (.reg order_Sort_r14))))
@[go_sem] def order_Sort_r15 : List AO := [⟨(some 10), .op (.asg (.nl 1)), none⟩]
@[go_sem] def order_Sort_r16 : List AO := [⟨(some 66), .op (.mv (.t 0)), none⟩,
  ⟨(some 67), .op (.len 22 false (.t 66)), none⟩,
  ⟨(some 68), .op (.mks 95 4 1 1 [.lit (.bool false)] (.t 67) (.t 67)), none⟩,
  ⟨(some 11), .op (.asg (.t 68)), none⟩]
@[go_sem] def order_Sort_r17 : List AO := [⟨(some 69), .op (.mv (.t 4)), none⟩,
  ⟨(some 70), .op (.len 24 false (.t 69)), none⟩,
  ⟨(some 71), .op (.mv (.c (.int .i64 (0)))), none⟩]
@[go_sem] def order_Sort_r18 : List AO := [⟨(some 72), .op (.bin .lss 3 0 (.t 71) (.t 70) 3), none⟩]
@[go_sem] def order_Sort_r19 : List AO := [⟨(some 73), .op (.mv (.t 71)), none⟩,
  ⟨(some 12), .op (.asg (.t 73)), none⟩]
@[go_sem] def order_Sort_r20 : List AO := [⟨(some 74), .op (.mv (.t 11)), none⟩,
  ⟨(some 75), .op (.mv (.t 12)), none⟩,
  ⟨(some 76), .op (.iaddr 95 1 (.t 74) (.t 75)), none⟩,
  ⟨(some 77), .op (.load 4 none (.t 76)), none⟩,
  ⟨(some 78), .op (.mv (.t 77)), none⟩,
  ⟨(some 79), .op (.mv (.t 4)), (some (4, 78, false))⟩,
  ⟨(some 80), .op (.mv (.t 12)), (some (4, 78, false))⟩,
  ⟨(some 81), .op (.iaddr 24 1 (.t 79) (.t 80)), (some (4, 78, false))⟩,
  ⟨(some 82), .op (.load 3 none (.t 81)), (some (4, 78, false))⟩,
  ⟨(some 83), .op (.bin .gtr 3 0 (.t 82) (.c (.int .i64 (0))) 3), (some (4, 78, false))⟩,
  ⟨(some 84), .op (.pick (.t 78) (.c (.bool true)) (.t 83)), none⟩]
@[go_sem] def order_Sort_r21 : List AO := [⟨(some 85), .op (.mv (.t 11)), none⟩,
  ⟨(some 86), .op (.mv (.t 12)), none⟩,
  ⟨(some 87), .op (.iaddr 95 1 (.t 85) (.t 86)), none⟩,
  ⟨none, .op (.store 4 1 (.t 87) (.c (.bool true))), none⟩]
@[go_sem] def order_Sort_r22 : List AO := [⟨(some 88), .op (.mv (.t 10)), none⟩,
  ⟨(some 89), .op (.mv (.t 12)), none⟩,
  ⟨(some 90), .op (.bslice 24 3 1 1 [.lit (.int .i64 0)] [(0, (.t 89))]), none⟩,
  ⟨(some 91), .op (.app 24 3 1 8 (.t 88) (.t 90)), none⟩,
  ⟨(some 10), .op (.asg (.t 91)), none⟩]
@[go_sem] def order_Sort_r23 : List AO := [⟨(some 92), .op (.mv (.t 5)), none⟩,
  ⟨(some 93), .op (.mv (.t 12)), none⟩,
  ⟨(some 94), .op (.iaddr 22 1 (.t 92) (.t 93)), none⟩,
  ⟨(some 95), .op (.load 24 none (.t 94)), none⟩,
  ⟨(some 96), .op (.len 24 false (.t 95)), none⟩,
  ⟨(some 97), .op (.mv (.c (.int .i64 (0)))), none⟩]
@[go_sem] def order_Sort_r24 : List AO := [⟨(some 98), .op (.bin .lss 3 0 (.t 97) (.t 96) 3), none⟩]
@[go_sem] def order_Sort_r25 : List AO := [⟨(some 99), .op (.iaddr 24 1 (.t 95) (.t 97)), none⟩,
  ⟨(some 100), .op (.load 3 none (.t 99)), none⟩,
  ⟨(some 14), .op (.asg (.t 100)), none⟩]
@[go_sem] def order_Sort_r26 : List AO := [⟨(some 101), .op (.mv (.t 4)), none⟩,
  ⟨(some 102), .op (.mv (.t 14)), none⟩,
  ⟨(some 103), .op (.iaddr 24 1 (.t 101) (.t 102)), none⟩,
  ⟨(some 104), .op (.load 3 none (.t 103)), none⟩,
  ⟨(some 105), .op (.bin .sub 3 0 (.t 104) (.c (.int .i64 (1))) 3), none⟩,
  ⟨(some 106), .op (.iaddr 24 1 (.t 101) (.t 102)), none⟩,
  ⟨none, .op (.store 3 1 (.t 106) (.t 105)), none⟩]
@[go_sem] def order_Sort_r27 : List AO := [⟨(some 107), .op (.bin .add 3 0 (.t 97) (.c (.int .i64 (1))) 3), none⟩,
  ⟨(some 97), .op (.mv (.t 107)), none⟩]
def order_Sort_l2 : IC := (.seq (.reg order_Sort_r24) (.seq (.cond (.t 98) .skip (.exit 8)) (.seq (.block 9 (.seq (.reg order_Sort_r25) (.reg order_Sort_r26))) (.reg order_Sort_r27))))
@[go_sem] def order_Sort_r28 : List AO := [⟨(some 108), .op (.bin .add 3 0 (.t 71) (.c (.int .i64 (1))) 3), none⟩,
  ⟨(some 71), .op (.mv (.t 108)), none⟩]
def order_Sort_l3 : IC := (.seq (.reg order_Sort_r18) (.seq (.cond (.t 72) .skip (.exit 6)) (.seq (.block 7 (.seq (.reg order_Sort_r19) (.seq (.seq (.reg order_Sort_r20) (.cond (.t 84) (.exit 7) .skip)) (.seq (.reg order_Sort_r21) (.seq (.reg order_Sort_r22) (.seq (.seq (.reg order_Sort_r23) (.block 8 (.loop order_Sort_l2))) (.exit 5))))))) (.reg order_Sort_r28))))
def order_Sort_l4 : IC := (.block 5 (.seq (.seq (.reg order_Sort_r17) (.block 6 (.loop order_Sort_l3))) (.exit 4)))
@[go_sem] def order_Sort_r29 : List AO := [⟨(some 109), .op (.mv (.t 11)), none⟩,
  ⟨(some 110), .call 46 [(false, (.t 109)), (false, (.c (.bool false)))] [95, 4], none⟩,
  ⟨(some 15), .op (.asg (.t 110)), none⟩]
@[go_sem] def order_Sort_r30 : List AO := [⟨(some 111), .op (.mv (.t 15)), none⟩,
  ⟨(some 112), .op (.bin .geq 3 0 (.t 111) (.c (.int .i64 (0))) 3), none⟩]
@[go_sem] def order_Sort_r31 : List AO := [⟨(some 113), .op (.mv (.t 15)), none⟩,
  ⟨(some 114), .op (.load 26 none (.g 1)), none⟩,
  ⟨(some 115), .op (.build 94 [.lit (.int .i64 0), .lit .nilIface] [(0, 0, 1, (.t 113)), (1, 1, 1, (.t 114))]), none⟩,
  ⟨(some 116), .op (.box 94 2 (.t 115)), none⟩,
  ⟨(some 117), .op (.mki 92 (.t 116)), none⟩,
  ⟨(some 2), .op (.asg (.nl 1)), none⟩,
  ⟨(some 3), .op (.asg (.t 117)), none⟩]
@[go_sem] def order_Sort_r32 : List AO := [⟨(some 118), .op (.mv (.t 10)), none⟩,
  ⟨(some 2), .op (.asg (.t 118)), none⟩,
  ⟨(some 3), .op (.asg (.c .nilIface)), none⟩]
def order_Sort_c : IC := (.seq (.reg order_Sort_r0) (.scope (.seq (.reg order_Sort_r1) (.seq (.reg order_Sort_r2) (.seq (.seq (.reg order_Sort_r3) (.block 0 (.loop order_Sort_l1))) (.seq (.reg order_Sort_r15) (.seq (.reg order_Sort_r16) (.seq (.label 0) (.seq (.block 4 (.loop order_Sort_l4)) (.seq (.seq (.reg order_Sort_r29) (.seq (.reg order_Sort_r30) (.cond (.t 112) (.seq (.draw order_Sort_r31 [[], [], [0, 1], [2], [3], [], [4, 5, 0, 1, 2, 3, 4, 5]]) .ret) .skip))) (.seq (.reg order_Sort_r32) .ret)))))))))))
abbrev F_order_Sort : Nat := 15
theorem order_Sort_call {G : Nat → Option Value} {pre : List AV} {res : AV} (hsz : decide (pre.length ≤ 119) = true) (h : AW pg G 119 order_Sort_c (endR [(.tmp 2), (.tmp 3)] res) (St.init pre)) : ACalls pg G F_order_Sort pre res :=
  ACalls.of_walk (fn := Go.Proofs.Tryd.f15) (vs := [(.tmp 2), (.tmp 3)]) (ic := order_Sort_c) (by kernel_rfl) (by kernel_rfl) rfl (by kernel_rfl) (by kernel_rfl) (of_decide_eq_true (by kernel_rfl)) (by kernel_rfl) (by kernel_rfl) (by kernel_rfl) (of_decide_eq_true hsz) h

/-! F16 lodge/lodgeref17.Sort -/
@[go_sem] def lodgeref17_Sort_r0 : List AO := [⟨(some 2), .op (.asg (.nl 1)), none⟩,
  ⟨(some 3), .op (.alloc 30 [.lit (.int .i64 0), .lit (.bool false), .lit (.int .i64 0)]), none⟩]
@[go_sem] def lodgeref17_Sort_r1 : List AO := [⟨(some 4), .op (.asg (.c (.int .i64 (0)))), none⟩]
@[go_sem] def lodgeref17_Sort_r2 : List AO := [⟨(some 13), .op (.mv (.t 4)), none⟩,
  ⟨(some 14), .op (.mv (.t 0)), none⟩,
  ⟨(some 15), .op (.len 22 false (.t 14)), none⟩,
  ⟨(some 16), .op (.bin .lss 3 0 (.t 13) (.t 15) 3), none⟩]
@[go_sem] def lodgeref17_Sort_r4 : List AO := [⟨(some 5), .op (.asg (.c (.int .i64 (0)))), none⟩]
@[go_sem] def lodgeref17_Sort_r5 : List AO := [⟨(some 19), .op (.mv (.t 5)), none⟩,
  ⟨(some 20), .op (.mv (.t 0)), none⟩,
  ⟨(some 21), .op (.mv (.t 4)), none⟩,
  ⟨(some 22), .op (.iaddr 22 1 (.t 20) (.t 21)), none⟩,
  ⟨(some 23), .op (.load 24 none (.t 22)), none⟩,
  ⟨(some 24), .op (.len 24 false (.t 23)), none⟩,
  ⟨(some 25), .op (.bin .lss 3 0 (.t 19) (.t 24) 3), none⟩]
@[go_sem] def lodgeref17_Sort_r7 : List AO := [⟨(some 28), .op (.mv (.t 0)), none⟩,
  ⟨(some 29), .op (.mv (.t 4)), none⟩,
  ⟨(some 30), .op (.iaddr 22 1 (.t 28) (.t 29)), none⟩,
  ⟨(some 31), .op (.load 24 none (.t 30)), none⟩,
  ⟨(some 32), .op (.mv (.t 5)), none⟩,
  ⟨(some 33), .op (.iaddr 24 1 (.t 31) (.t 32)), none⟩,
  ⟨(some 34), .op (.load 3 none (.t 33)), none⟩,
  ⟨(some 35), .op (.bin .lss 3 0 (.t 34) (.c (.int .i64 (0))) 3), none⟩,
  ⟨(some 36), .op (.mv (.t 35)), none⟩,
  ⟨(some 37), .op (.mv (.t 0)), (some (8, 36, false))⟩,
  ⟨(some 38), .op (.mv (.t 4)), (some (8, 36, false))⟩,
  ⟨(some 39), .op (.iaddr 22 1 (.t 37) (.t 38)), (some (8, 36, false))⟩,
  ⟨(some 40), .op (.load 24 none (.t 39)), (some (8, 36, false))⟩,
  ⟨(some 41), .op (.mv (.t 5)), (some (8, 36, false))⟩,
  ⟨(some 42), .op (.iaddr 24 1 (.t 40) (.t 41)), (some (8, 36, false))⟩,
  ⟨(some 43), .op (.load 3 none (.t 42)), (some (8, 36, false))⟩,
  ⟨(some 44), .op (.mv (.t 0)), (some (8, 36, false))⟩,
  ⟨(some 45), .op (.len 22 false (.t 44)), (some (8, 36, false))⟩,
  ⟨(some 46), .op (.bin .geq 3 0 (.t 43) (.t 45) 3), (some (8, 36, false))⟩,
  ⟨(some 47), .op (.pick (.t 36) (.c (.bool true)) (.t 46)), none⟩]
@[go_sem] def lodgeref17_Sort_r8 : List AO := [⟨(some 48), .op (.mv (.t 4)), none⟩,
  ⟨(some 49), .call 20 [(false, (.c (.int .i64 (107)))), (false, (.t 48))] [3, 3], none⟩,
  ⟨(some 2), .op (.asg (.nl 1)), none⟩,
  ⟨none, .op (.store 30 3 (.t 3) (.t 49)), none⟩]
@[go_sem] def lodgeref17_Sort_r6 : List AO := [⟨(some 26), .op (.mv (.t 5)), none⟩,
  ⟨(some 27), .op (.bin .add 3 0 (.t 26) (.c (.int .i64 (1))) 3), none⟩,
  ⟨(some 5), .op (.asg (.t 27)), none⟩]
def lodgeref17_Sort_l0 : IC := (.seq (.seq (.reg lodgeref17_Sort_r5) (.cond (.t 25) .skip (.exit 2))) (.seq (.block 3 (.seq (.reg lodgeref17_Sort_r7) (.cond (.t 47) (.seq (.reg lodgeref17_Sort_r8) .ret) .skip))) (.reg lodgeref17_Sort_r6)))
@[go_sem] def lodgeref17_Sort_r3 : List AO := [⟨(some 17), .op (.mv (.t 4)), none⟩,
  ⟨(some 18), .op (.bin .add 3 0 (.t 17) (.c (.int .i64 (1))) 3), none⟩,
  ⟨(some 4), .op (.asg (.t 18)), none⟩]
def lodgeref17_Sort_l1 : IC := (.seq (.seq (.reg lodgeref17_Sort_r2) (.cond (.t 16) .skip (.exit 0))) (.seq (.block 1 (.seq (.reg lodgeref17_Sort_r4) (.block 2 (.loop lodgeref17_Sort_l0)))) (.reg lodgeref17_Sort_r3)))
@[go_sem] def lodgeref17_Sort_r9 : List AO := [⟨(some 50), .op (.mv (.t 0)), none⟩,
  ⟨(some 51), .op (.len 22 false (.t 50)), none⟩,
  ⟨(some 52), .op (.mks 95 4 1 1 [.lit (.bool false)] (.t 51) (.t 51)), none⟩,
  ⟨(some 6), .op (.asg (.t 52)), none⟩]
@[go_sem] def lodgeref17_Sort_r10 : List AO := [⟨(some 7), .op (.asg (.nl 1)), none⟩]
@[go_sem] def lodgeref17_Sort_r11 : List AO := [⟨(some 53), .op (.mv (.t 7)), none⟩,
  ⟨(some 54), .op (.len 24 false (.t 53)), none⟩,
  ⟨(some 55), .op (.mv (.t 0)), none⟩,
  ⟨(some 56), .op (.len 22 false (.t 55)), none⟩,
  ⟨(some 57), .op (.bin .lss 3 0 (.t 54) (.t 56) 3), none⟩]
@[go_sem] def lodgeref17_Sort_r12 : List AO := [⟨(some 8), .op (.asg (.c (.int .i64 (-1)))), none⟩]
@[go_sem] def lodgeref17_Sort_r13 : List AO := [⟨(some 9), .op (.asg (.c (.int .i64 (-1)))), none⟩]
@[go_sem] def lodgeref17_Sort_r14 : List AO := [⟨(some 10), .op (.asg (.c (.int .i64 (0)))), none⟩]
@[go_sem] def lodgeref17_Sort_r15 : List AO := [⟨(some 58), .op (.mv (.t 10)), none⟩,
  ⟨(some 59), .op (.mv (.t 0)), none⟩,
  ⟨(some 60), .op (.len 22 false (.t 59)), none⟩,
  ⟨(some 61), .op (.bin .lss 3 0 (.t 58) (.t 60) 3), none⟩,
  ⟨(some 62), .op (.mv (.t 61)), none⟩,
  ⟨(some 63), .op (.mv (.t 8)), (some (4, 62, true))⟩,
  ⟨(some 64), .op (.bin .lss 3 0 (.t 63) (.c (.int .i64 (0))) 3), (some (4, 62, true))⟩,
  ⟨(some 65), .op (.pick (.t 62) (.t 64) (.c (.bool false))), none⟩]
@[go_sem] def lodgeref17_Sort_r17 : List AO := [⟨(some 68), .op (.mv (.t 6)), none⟩,
  ⟨(some 69), .op (.mv (.t 10)), none⟩,
  ⟨(some 70), .op (.iaddr 95 1 (.t 68) (.t 69)), none⟩,
  ⟨(some 71), .op (.load 4 none (.t 70)), none⟩]
@[go_sem] def lodgeref17_Sort_r18 : List AO := [⟨(some 72), .op (.mv (.t 9)), none⟩,
  ⟨(some 73), .op (.bin .lss 3 0 (.t 72) (.c (.int .i64 (0))) 3), none⟩]
@[go_sem] def lodgeref17_Sort_r19 : List AO := [⟨(some 74), .op (.mv (.t 10)), none⟩,
  ⟨(some 9), .op (.asg (.t 74)), none⟩]
@[go_sem] def lodgeref17_Sort_r20 : List AO := [⟨(some 11), .op (.asg (.c (.bool true))), none⟩]
@[go_sem] def lodgeref17_Sort_r21 : List AO := [⟨(some 12), .op (.asg (.c (.int .i64 (0)))), none⟩]
@[go_sem] def lodgeref17_Sort_r22 : List AO := [⟨(some 75), .op (.mv (.t 12)), none⟩,
  ⟨(some 76), .op (.mv (.t 0)), none⟩,
  ⟨(some 77), .op (.mv (.t 10)), none⟩,
  ⟨(some 78), .op (.iaddr 22 1 (.t 76) (.t 77)), none⟩,
  ⟨(some 79), .op (.load 24 none (.t 78)), none⟩,
  ⟨(some 80), .op (.len 24 false (.t 79)), none⟩,
  ⟨(some 81), .op (.bin .lss 3 0 (.t 75) (.t 80) 3), none⟩]
@[go_sem] def lodgeref17_Sort_r24 : List AO := [⟨(some 84), .op (.mv (.t 11)), none⟩,
  ⟨(some 85), .op (.mv (.t 84)), none⟩,
  ⟨(some 86), .op (.mv (.t 6)), (some (1, 85, true))⟩,
  ⟨(some 87), .op (.mv (.t 0)), (some (1, 85, true))⟩,
  ⟨(some 88), .op (.mv (.t 10)), (some (1, 85, true))⟩,
  ⟨(some 89), .op (.iaddr 22 1 (.t 87) (.t 88)), (some (1, 85, true))⟩,
  ⟨(some 90), .op (.load 24 none (.t 89)), (some (1, 85, true))⟩,
  ⟨(some 91), .op (.mv (.t 12)), (some (1, 85, true))⟩,
  ⟨(some 92), .op (.iaddr 24 1 (.t 90) (.t 91)), (some (1, 85, true))⟩,
  ⟨(some 93), .op (.load 3 none (.t 92)), (some (1, 85, true))⟩,
  ⟨(some 94), .op (.iaddr 95 1 (.t 86) (.t 93)), (some (1, 85, true))⟩,
  ⟨(some 95), .op (.load 4 none (.t 94)), (some (1, 85, true))⟩,
  ⟨(some 96), .op (.pick (.t 85) (.t 95) (.c (.bool false))), none⟩,
  ⟨(some 11), .op (.asg (.t 96)), none⟩]
@[go_sem] def lodgeref17_Sort_r23 : List AO := [⟨(some 82), .op (.mv (.t 12)), none⟩,
  ⟨(some 83), .op (.bin .add 3 0 (.t 82) (.c (.int .i64 (1))) 3), none⟩,
  ⟨(some 12), .op (.asg (.t 83)), none⟩]
def lodgeref17_Sort_l2 : IC := (.seq (.seq (.reg lodgeref17_Sort_r22) (.cond (.t 81) .skip (.exit 8))) (.seq (.block 9 (.reg lodgeref17_Sort_r24)) (.reg lodgeref17_Sort_r23)))
@[go_sem] def lodgeref17_Sort_r25 : List AO := [⟨(some 97), .op (.mv (.t 11)), none⟩]
@[go_sem] def lodgeref17_Sort_r26 : List AO := [⟨(some 98), .op (.mv (.t 10)), none⟩,
  ⟨(some 8), .op (.asg (.t 98)), none⟩]
@[go_sem] def lodgeref17_Sort_r16 : List AO := [⟨(some 66), .op (.mv (.t 10)), none⟩,
  ⟨(some 67), .op (.bin .add 3 0 (.t 66) (.c (.int .i64 (1))) 3), none⟩,
  ⟨(some 10), .op (.asg (.t 67)), none⟩]
def lodgeref17_Sort_l3 : IC := (.seq (.seq (.reg lodgeref17_Sort_r15) (.cond (.t 65) .skip (.exit 6))) (.seq (.block 7 (.seq (.seq (.reg lodgeref17_Sort_r17) (.cond (.t 71) (.exit 7) .skip)) (.seq (.seq (.reg lodgeref17_Sort_r18) (.cond (.t 73) (.reg lodgeref17_Sort_r19) .skip)) (.seq (.reg lodgeref17_Sort_r20) (.seq (.seq (.reg lodgeref17_Sort_r21) (.block 8 (.loop lodgeref17_Sort_l2))) (.seq (.reg lodgeref17_Sort_r25) (.cond (.t 97) (.reg lodgeref17_Sort_r26) .skip))))))) (.reg lodgeref17_Sort_r16)))
@[go_sem] def lodgeref17_Sort_r27 : List AO := [⟨(some 99), .op (.mv (.t 8)), none⟩,
  ⟨(some 100), .op (.bin .lss 3 0 (.t 99) (.c (.int .i64 (0))) 3), none⟩]
@[go_sem] def lodgeref17_Sort_r28 : List AO := [⟨(some 101), .op (.mv (.t 9)), none⟩,
  ⟨(some 102), .call 20 [(false, (.c (.int .i64 (111)))), (false, (.t 101))] [3, 3], none⟩,
  ⟨(some 2), .op (.asg (.nl 1)), none⟩,
  ⟨none, .op (.store 30 3 (.t 3) (.t 102)), none⟩]
@[go_sem] def lodgeref17_Sort_r29 : List AO := [⟨(some 103), .op (.mv (.t 6)), none⟩,
  ⟨(some 104), .op (.mv (.t 8)), none⟩,
  ⟨(some 105), .op (.iaddr 95 1 (.t 103) (.t 104)), none⟩,
  ⟨none, .op (.store 4 1 (.t 105) (.c (.bool true))), none⟩]
@[go_sem] def lodgeref17_Sort_r30 : List AO := [⟨(some 106), .op (.mv (.t 7)), none⟩,
  ⟨(some 107), .op (.mv (.t 8)), none⟩,
  ⟨(some 108), .op (.bslice 24 3 1 1 [.lit (.int .i64 0)] [(0, (.t 107))]), none⟩,
  ⟨(some 109), .op (.app 24 3 1 8 (.t 106) (.t 108)), none⟩,
  ⟨(some 7), .op (.asg (.t 109)), none⟩]
def lodgeref17_Sort_l4 : IC := (.seq (.seq (.reg lodgeref17_Sort_r11) (.cond (.t 57) .skip (.exit 4))) (.block 5 (.seq (.reg lodgeref17_Sort_r12) (.seq (.reg lodgeref17_Sort_r13) (.seq (.seq (.reg lodgeref17_Sort_r14) (.block 6 (.loop lodgeref17_Sort_l3))) (.seq (.seq (.reg lodgeref17_Sort_r27) (.cond (.t 100) (.seq (.reg lodgeref17_Sort_r28) .ret) .skip)) (.seq (.reg lodgeref17_Sort_r29) (.reg lodgeref17_Sort_r30))))))))
@[go_sem] def lodgeref17_Sort_r31 : List AO := [⟨(some 110), .op (.mv (.t 7)), none⟩,
  ⟨(some 111), .call 47 [] [], none⟩,
  ⟨(some 2), .op (.asg (.t 110)), none⟩,
  ⟨none, .op (.store 30 3 (.t 3) (.t 111)), none⟩]
def lodgeref17_Sort_c : IC := (.seq (.reg lodgeref17_Sort_r0) (.seq (.seq (.reg lodgeref17_Sort_r1) (.block 0 (.loop lodgeref17_Sort_l1))) (.seq (.reg lodgeref17_Sort_r9) (.seq (.reg lodgeref17_Sort_r10) (.seq (.block 4 (.loop lodgeref17_Sort_l4)) (.seq (.reg lodgeref17_Sort_r31) .ret))))))
abbrev F_lodgeref17_Sort : Nat := 16
theorem lodgeref17_Sort_call {G : Nat → Option Value} {pre : List AV} {res : AV} (hsz : decide (pre.length ≤ 112) = true) (h : AW pg G 112 lodgeref17_Sort_c (endR [(.tmp 2), (.cells 3 3)] res) (St.init pre)) : ACalls pg G F_lodgeref17_Sort pre res :=
  ACalls.of_walk (fn := Go.Proofs.Tryd.f16) (vs := [(.tmp 2), (.cell 3 30)]) (ic := lodgeref17_Sort_c) (by kernel_rfl) (by kernel_rfl) rfl (by kernel_rfl) (by kernel_rfl) (of_decide_eq_true (by kernel_rfl)) (by kernel_rfl) (by kernel_rfl) (by kernel_rfl) (of_decide_eq_true hsz) h

/-! F17 lodge/lodgeref.SameInts -/
@[go_sem] def lodgeref_SameInts_r0 : List AO := [⟨(some 4), .op (.asg (.c (.bool false))), none⟩]
@[go_sem] def lodgeref_SameInts_r1 : List AO := [⟨(some 7), .op (.mv (.t 0)), none⟩,
  ⟨(some 8), .op (.len 24 false (.t 7)), none⟩,
  ⟨(some 9), .op (.mv (.t 1)), none⟩,
  ⟨(some 10), .op (.len 24 false (.t 9)), none⟩,
  ⟨(some 11), .op (.bin .neq 3 0 (.t 8) (.t 10) 3), none⟩]
@[go_sem] def lodgeref_SameInts_r2 : List AO := [⟨(some 4), .op (.asg (.c (.bool false))), none⟩]
@[go_sem] def lodgeref_SameInts_r3 : List AO := [⟨(some 5), .op (.asg (.c (.int .i64 (0)))), none⟩]
@[go_sem] def lodgeref_SameInts_r4 : List AO := [⟨(some 12), .op (.mv (.t 5)), none⟩,
  ⟨(some 13), .op (.mv (.t 0)), none⟩,
  ⟨(some 14), .op (.len 24 false (.t 13)), none⟩,
  ⟨(some 15), .op (.bin .lss 3 0 (.t 12) (.t 14) 3), none⟩]
@[go_sem] def lodgeref_SameInts_r6 : List AO := [⟨(some 18), .op (.mv (.t 0)), none⟩,
  ⟨(some 19), .op (.mv (.t 5)), none⟩,
  ⟨(some 20), .op (.iaddr 24 1 (.t 18) (.t 19)), none⟩,
  ⟨(some 21), .op (.load 3 none (.t 20)), none⟩,
  ⟨(some 22), .op (.mv (.t 1)), none⟩,
  ⟨(some 23), .op (.mv (.t 5)), none⟩,
  ⟨(some 24), .op (.iaddr 24 1 (.t 22) (.t 23)), none⟩,
  ⟨(some 25), .op (.load 3 none (.t 24)), none⟩,
  ⟨(some 26), .op (.bin .eql 3 0 (.t 21) (.t 25) 3), none⟩,
  ⟨(some 6), .op (.asg (.t 26)), none⟩]
@[go_sem] def lodgeref_SameInts_r7 : List AO := [⟨(some 27), .op (.mv (.t 6)), none⟩,
  ⟨(some 28), .op (.un .not 4 (.t 27)), none⟩]
@[go_sem] def lodgeref_SameInts_r8 : List AO := [⟨(some 4), .op (.asg (.c (.bool false))), none⟩]
@[go_sem] def lodgeref_SameInts_r5 : List AO := [⟨(some 16), .op (.mv (.t 5)), none⟩,
  ⟨(some 17), .op (.bin .add 3 0 (.t 16) (.c (.int .i64 (1))) 3), none⟩,
  ⟨(some 5), .op (.asg (.t 17)), none⟩]
def lodgeref_SameInts_l0 : IC := (.seq (.seq (.reg lodgeref_SameInts_r4) (.cond (.t 15) .skip (.exit 0))) (.seq (.block 1 (.seq (.draw lodgeref_SameInts_r6 [[], [], [0, 1], [2], [], [], [4, 5], [6], [3, 7], [8, 0, 1, 2, 3, 4, 5, 6, 7, 8]]) (.seq (.reg lodgeref_SameInts_r7) (.cond (.t 28) (.seq (.reg lodgeref_SameInts_r8) .ret) .skip)))) (.reg lodgeref_SameInts_r5)))
@[go_sem] def lodgeref_SameInts_r9 : List AO := [⟨(some 4), .op (.asg (.c (.bool true))), none⟩]
def lodgeref_SameInts_c : IC := (.seq (.reg lodgeref_SameInts_r0) (.seq (.seq (.reg lodgeref_SameInts_r1) (.cond (.t 11) (.seq (.reg lodgeref_SameInts_r2) .ret) .skip)) (.seq (.seq (.reg lodgeref_SameInts_r3) (.block 0 (.loop lodgeref_SameInts_l0))) (.seq (.reg lodgeref_SameInts_r9) .ret))))
abbrev F_lodgeref_SameInts : Nat := 17
theorem lodgeref_SameInts_call {G : Nat → Option Value} {pre : List AV} {res : AV} (hsz : decide (pre.length ≤ 29) = true) (h : AW pg G 29 lodgeref_SameInts_c (endR [(.tmp 4)] res) (St.init pre)) : ACalls pg G F_lodgeref_SameInts pre res :=
  ACalls.of_walk (fn := Go.Proofs.Tryd.f17) (vs := [(.tmp 4)]) (ic := lodgeref_SameInts_c) (by kernel_rfl) (by kernel_rfl) rfl (by kernel_rfl) (by kernel_rfl) (of_decide_eq_true (by kernel_rfl)) (by kernel_rfl) (by kernel_rfl) (by kernel_rfl) (of_decide_eq_true hsz) h

/-! F18 lodge/lodgesee.Same -/
@[go_sem] def lodgesee_Same_r0 : List AO := [⟨(some 3), .op (.box 30 3 (.t 1)), none⟩,
  ⟨(some 4), .op (.asg (.c (.bool false))), none⟩]
@[go_sem] def lodgesee_Same_r1 : List AO := [⟨(some 5), .op (.mv (.t 0)), none⟩,
  ⟨(some 6), .call 49 [(false, (.t 5))] [26], none⟩,
  ⟨(some 7), .op (.load 30 (some 3) (.t 3)), none⟩,
  ⟨(some 8), .call 48 [(false, (.t 6)), (false, (.t 7))] [30, 30], none⟩,
  ⟨(some 4), .op (.asg (.t 8)), none⟩]
def lodgesee_Same_c : IC := (.seq (.reg lodgesee_Same_r0) (.seq (.draw lodgesee_Same_r1 [[], [0], [], [1, 2, 1], [3, 3, 0, 1, 2, 3]]) .ret))
abbrev F_lodgesee_Same : Nat := 18
theorem lodgesee_Same_call {G : Nat → Option Value} {pre : List AV} {res : AV} (hsz : decide (pre.length ≤ 9) = true) (h : AW pg G 9 lodgesee_Same_c (endR [(.tmp 4)] res) (St.init pre)) : ACalls pg G F_lodgesee_Same pre res :=
  ACalls.of_walk (fn := Go.Proofs.Tryd.f18) (vs := [(.tmp 4)]) (ic := lodgesee_Same_c) (by kernel_rfl) (by kernel_rfl) rfl (by kernel_rfl) (by kernel_rfl) (of_decide_eq_true (by kernel_rfl)) (by kernel_rfl) (by kernel_rfl) (by kernel_rfl) (of_decide_eq_true hsz) h

/-! F19 lodge/lodgeworld.Number -/
@[go_sem] def lodgeworld_Number_r0 : List AO := [⟨(some 4), .op (.asg (.c (.int .i64 (0)))), none⟩]
@[go_sem] def lodgeworld_Number_r1 : List AO := [⟨(some 5), .op (.mv (.t 0)), none⟩,
  ⟨(some 6), .op (.mv (.t 1)), none⟩,
  ⟨(some 7), .op (.bin .rem 3 0 (.t 5) (.t 6) 3), none⟩,
  ⟨(some 8), .op (.mv (.t 1)), none⟩,
  ⟨(some 9), .op (.bin .add 3 0 (.t 7) (.t 8) 3), none⟩,
  ⟨(some 10), .op (.mv (.t 1)), none⟩,
  ⟨(some 11), .op (.bin .rem 3 0 (.t 9) (.t 10) 3), none⟩,
  ⟨(some 4), .op (.asg (.t 11)), none⟩]
def lodgeworld_Number_c : IC := (.seq (.reg lodgeworld_Number_r0) (.seq (.reg lodgeworld_Number_r1) .ret))
abbrev F_lodgeworld_Number : Nat := 19
theorem lodgeworld_Number_call {G : Nat → Option Value} {pre : List AV} {res : AV} (hsz : decide (pre.length ≤ 12) = true) (h : AW pg G 12 lodgeworld_Number_c (endR [(.tmp 4)] res) (St.init pre)) : ACalls pg G F_lodgeworld_Number pre res :=
  ACalls.of_walk (fn := Go.Proofs.Tryd.f19) (vs := [(.tmp 4)]) (ic := lodgeworld_Number_c) (by kernel_rfl) (by kernel_rfl) rfl (by kernel_rfl) (by kernel_rfl) (of_decide_eq_true (by kernel_rfl)) (by kernel_rfl) (by kernel_rfl) (by kernel_rfl) (of_decide_eq_true hsz) h

/-! F20 lodge/lodgeref.Placed -/
@[go_sem] def lodgeref_Placed_r0 : List AO := [⟨(some 4), .op (.alloc 30 [.lit (.int .i64 0), .lit (.bool false), .lit (.int .i64 0)]), none⟩]
@[go_sem] def lodgeref_Placed_r1 : List AO := [⟨(some 5), .op (.mv (.t 0)), none⟩,
  ⟨(some 6), .op (.bin .eql 3 0 (.t 5) (.c (.int .i64 (0))) 3), none⟩]
@[go_sem] def lodgeref_Placed_r2 : List AO := [⟨(some 7), .call 47 [] [], none⟩,
  ⟨none, .op (.store 30 3 (.t 4) (.t 7)), none⟩]
@[go_sem] def lodgeref_Placed_r3 : List AO := [⟨(some 8), .op (.mv (.t 0)), none⟩,
  ⟨(some 9), .op (.mv (.t 1)), none⟩,
  ⟨(some 10), .op (.build 30 [.lit (.int .i64 0), .lit (.bool false), .lit (.int .i64 0)] [(0, 0, 1, (.t 8)), (1, 1, 1, (.c (.bool true))), (2, 2, 1, (.t 9))]), none⟩,
  ⟨none, .op (.store 30 3 (.t 4) (.t 10)), none⟩]
def lodgeref_Placed_c : IC := (.seq (.reg lodgeref_Placed_r0) (.seq (.seq (.reg lodgeref_Placed_r1) (.cond (.t 6) (.seq (.reg lodgeref_Placed_r2) .ret) .skip)) (.seq (.reg lodgeref_Placed_r3) .ret)))
abbrev F_lodgeref_Placed : Nat := 20
theorem lodgeref_Placed_call {G : Nat → Option Value} {pre : List AV} {res : AV} (hsz : decide (pre.length ≤ 11) = true) (h : AW pg G 11 lodgeref_Placed_c (endR [(.cells 4 3)] res) (St.init pre)) : ACalls pg G F_lodgeref_Placed pre res :=
  ACalls.of_walk (fn := Go.Proofs.Tryd.f20) (vs := [(.cell 4 30)]) (ic := lodgeref_Placed_c) (by kernel_rfl) (by kernel_rfl) rfl (by kernel_rfl) (by kernel_rfl) (of_decide_eq_true (by kernel_rfl)) (by kernel_rfl) (by kernel_rfl) (by kernel_rfl) (of_decide_eq_true hsz) h

/-! F46 slices.Index[[]bool,bool] -/
@[go_sem] def slices_Index_bool_r0 : List AO := [⟨(some 4), .op (.asg (.c (.int .i64 (0)))), none⟩]
@[go_sem] def slices_Index_bool_r1 : List AO := [⟨(some 6), .op (.mv (.t 0)), none⟩,
  ⟨(some 7), .op (.len 95 false (.t 6)), none⟩,
  ⟨(some 8), .op (.mv (.c (.int .i64 (0)))), none⟩]
@[go_sem] def slices_Index_bool_r2 : List AO := [⟨(some 9), .op (.bin .lss 3 0 (.t 8) (.t 7) 3), none⟩]
@[go_sem] def slices_Index_bool_r3 : List AO := [⟨(some 10), .op (.mv (.t 8)), none⟩,
  ⟨(some 5), .op (.asg (.t 10)), none⟩]
@[go_sem] def slices_Index_bool_r4 : List AO := [⟨(some 11), .op (.mv (.t 1)), none⟩,
  ⟨(some 12), .op (.mv (.t 0)), none⟩,
  ⟨(some 13), .op (.mv (.t 5)), none⟩,
  ⟨(some 14), .op (.iaddr 95 1 (.t 12) (.t 13)), none⟩,
  ⟨(some 15), .op (.load 4 none (.t 14)), none⟩,
  ⟨(some 16), .op (.bin .eql 4 1 (.t 11) (.t 15) 4), none⟩]
@[go_sem] def slices_Index_bool_r5 : List AO := [⟨(some 17), .op (.mv (.t 5)), none⟩,
  ⟨(some 4), .op (.asg (.t 17)), none⟩]
@[go_sem] def slices_Index_bool_r6 : List AO := [⟨(some 18), .op (.bin .add 3 0 (.t 8) (.c (.int .i64 (1))) 3), none⟩,
  ⟨(some 8), .op (.mv (.t 18)), none⟩]
def slices_Index_bool_l0 : IC := (.seq (.reg slices_Index_bool_r2) (.seq (.cond (.t 9) .skip (.exit 0)) (.seq (.block 1 (.seq (.reg slices_Index_bool_r3) (.seq (.reg slices_Index_bool_r4) (.cond (.t 16) (.seq (.reg slices_Index_bool_r5) .ret) .skip)))) (.reg slices_Index_bool_r6))))
@[go_sem] def slices_Index_bool_r7 : List AO := [⟨(some 4), .op (.asg (.c (.int .i64 (-1)))), none⟩]
def slices_Index_bool_c : IC := (.seq (.reg slices_Index_bool_r0) (.seq (.seq (.reg slices_Index_bool_r1) (.block 0 (.loop slices_Index_bool_l0))) (.seq (.reg slices_Index_bool_r7) .ret)))
abbrev F_slices_Index_bool : Nat := 46
theorem slices_Index_bool_call {G : Nat → Option Value} {pre : List AV} {res : AV} (hsz : decide (pre.length ≤ 19) = true) (h : AW pg G 19 slices_Index_bool_c (endR [(.tmp 4)] res) (St.init pre)) : ACalls pg G F_slices_Index_bool pre res :=
  ACalls.of_walk (fn := Go.Proofs.Tryd.f46) (vs := [(.tmp 4)]) (ic := slices_Index_bool_c) (by kernel_rfl) (by kernel_rfl) rfl (by kernel_rfl) (by kernel_rfl) (of_decide_eq_true (by kernel_rfl)) (by kernel_rfl) (by kernel_rfl) (by kernel_rfl) (of_decide_eq_true hsz) h

/-! F47 lodge/lodgeref.None -/
@[go_sem] def lodgeref_None_r0 : List AO := [⟨(some 0), .op (.alloc 30 [.lit (.int .i64 0), .lit (.bool false), .lit (.int .i64 0)]), none⟩]
@[go_sem] def lodgeref_None_r1 : List AO := [⟨(some 1), .op (.build 30 [.lit (.int .i64 0), .lit (.bool false), .lit (.int .i64 0)] []), none⟩,
  ⟨none, .op (.store 30 3 (.t 0) (.t 1)), none⟩]
def lodgeref_None_c : IC := (.seq (.reg lodgeref_None_r0) (.seq (.reg lodgeref_None_r1) .ret))
abbrev F_lodgeref_None : Nat := 47
theorem lodgeref_None_call {G : Nat → Option Value} {pre : List AV} {res : AV} (hsz : decide (pre.length ≤ 2) = true) (h : AW pg G 2 lodgeref_None_c (endR [(.cells 0 3)] res) (St.init pre)) : ACalls pg G F_lodgeref_None pre res :=
  ACalls.of_walk (fn := Go.Proofs.Tryd.f47) (vs := [(.cell 0 30)]) (ic := lodgeref_None_c) (by kernel_rfl) (by kernel_rfl) rfl (by kernel_rfl) (by kernel_rfl) (of_decide_eq_true (by kernel_rfl)) (by kernel_rfl) (by kernel_rfl) (by kernel_rfl) (of_decide_eq_true hsz) h

/-! F48 lodge/lodgeref.SameFault -/
@[go_sem] def lodgeref_SameFault_r0 : List AO := [⟨(some 2), .op (.box 30 3 (.t 0)), none⟩,
  ⟨(some 3), .op (.box 30 3 (.t 1)), none⟩,
  ⟨(some 4), .op (.asg (.c (.bool false))), none⟩]
@[go_sem] def lodgeref_SameFault_r1 : List AO := [⟨(some 5), .op (.faddr 30 0 (.t 2) 0), none⟩,
  ⟨(some 6), .op (.load 3 none (.t 5)), none⟩,
  ⟨(some 7), .op (.faddr 30 0 (.t 3) 0), none⟩,
  ⟨(some 8), .op (.load 3 none (.t 7)), none⟩,
  ⟨(some 9), .op (.bin .eql 3 0 (.t 6) (.t 8) 3), none⟩,
  ⟨(some 10), .op (.mv (.t 9)), none⟩,
  ⟨(some 11), .op (.faddr 30 1 (.t 2) 1), (some (5, 10, true))⟩,
  ⟨(some 12), .op (.load 4 none (.t 11)), (some (5, 10, true))⟩,
  ⟨(some 13), .op (.faddr 30 1 (.t 3) 1), (some (5, 10, true))⟩,
  ⟨(some 14), .op (.load 4 none (.t 13)), (some (5, 10, true))⟩,
  ⟨(some 15), .op (.bin .eql 4 1 (.t 12) (.t 14) 4), (some (5, 10, true))⟩,
  ⟨(some 16), .op (.pick (.t 10) (.t 15) (.c (.bool false))), none⟩,
  ⟨(some 17), .op (.mv (.t 16)), none⟩,
  ⟨(some 18), .op (.faddr 30 2 (.t 2) 2), (some (12, 17, true))⟩,
  ⟨(some 19), .op (.load 3 none (.t 18)), (some (12, 17, true))⟩,
  ⟨(some 20), .op (.faddr 30 2 (.t 3) 2), (some (12, 17, true))⟩,
  ⟨(some 21), .op (.load 3 none (.t 20)), (some (12, 17, true))⟩,
  ⟨(some 22), .op (.bin .eql 3 0 (.t 19) (.t 21) 3), (some (12, 17, true))⟩,
  ⟨(some 23), .op (.pick (.t 17) (.t 22) (.c (.bool false))), none⟩,
  ⟨(some 4), .op (.asg (.t 23)), none⟩]
def lodgeref_SameFault_c : IC := (.seq (.reg lodgeref_SameFault_r0) (.seq (.reg lodgeref_SameFault_r1) .ret))
abbrev F_lodgeref_SameFault : Nat := 48
theorem lodgeref_SameFault_call {G : Nat → Option Value} {pre : List AV} {res : AV} (hsz : decide (pre.length ≤ 24) = true) (h : AW pg G 24 lodgeref_SameFault_c (endR [(.tmp 4)] res) (St.init pre)) : ACalls pg G F_lodgeref_SameFault pre res :=
  ACalls.of_walk (fn := Go.Proofs.Tryd.f48) (vs := [(.tmp 4)]) (ic := lodgeref_SameFault_c) (by kernel_rfl) (by kernel_rfl) rfl (by kernel_rfl) (by kernel_rfl) (of_decide_eq_true (by kernel_rfl)) (by kernel_rfl) (by kernel_rfl) (by kernel_rfl) (of_decide_eq_true hsz) h

/-! F49 lodge/lodgesee.Fault -/
@[go_sem] def lodgesee_Fault_r0 : List AO := [⟨(some 2), .op (.alloc 30 [.lit (.int .i64 0), .lit (.bool false), .lit (.int .i64 0)]), none⟩]
@[go_sem] def lodgesee_Fault_r1 : List AO := [⟨(some 5), .op (.mv (.t 0)), none⟩,
  ⟨(some 6), .op (.bin .eql 26 2 (.t 5) (.c .nilIface) 26), none⟩]
@[go_sem] def lodgesee_Fault_r2 : List AO := [⟨(some 7), .call 47 [] [], none⟩,
  ⟨none, .op (.store 30 3 (.t 2) (.t 7)), none⟩]
@[go_sem] def lodgesee_Fault_r3 : List AO := [⟨(some 9), .op (.mv (.t 0)), none⟩,
  ⟨(some 10), .op (.tas (.t 9) 26 92 [.lit (.pointer none)]), none⟩,
  ⟨(some 8), .op (.mv (.t 10)), none⟩,
  ⟨(some 11), .op (.ext (.t 8) 0), none⟩,
  ⟨(some 12), .op (.ext (.t 8) 1), none⟩,
  ⟨(some 3), .op (.asg (.t 11)), none⟩,
  ⟨(some 4), .op (.asg (.t 12)), none⟩]
@[go_sem] def lodgesee_Fault_r4 : List AO := [⟨(some 13), .op (.mv (.t 4)), none⟩,
  ⟨(some 14), .op (.un .not 4 (.t 13)), none⟩]
@[go_sem] def lodgesee_Fault_r5 : List AO := [⟨(some 15), .op (.mv (.t 0)), none⟩,
  ⟨(some 16), .call 99 [(false, (.t 15))] [26], none⟩,
  ⟨(some 17), .call 57 [(false, (.t 16))] [3], none⟩,
  ⟨none, .op (.store 30 3 (.t 2) (.t 17)), none⟩]
@[go_sem] def lodgesee_Fault_r6 : List AO := [⟨(some 18), .op (.mv (.t 3)), none⟩,
  ⟨(some 19), .op (.bin .eql 92 3 (.t 18) (.c (.pointer none)) 92), none⟩,
  ⟨(some 20), .op (.mv (.t 19)), none⟩,
  ⟨(some 21), .op (.mv (.t 3)), (some (2, 20, false))⟩,
  ⟨(some 22), .op (.nilck (.t 21)), (some (2, 20, false))⟩,
  ⟨(some 23), .op (.faddr 94 1 (.t 22) 1), (some (2, 20, false))⟩,
  ⟨(some 24), .op (.load 26 none (.t 23)), (some (2, 20, false))⟩,
  ⟨(some 25), .op (.bin .eql 26 2 (.t 24) (.c .nilIface) 26), (some (2, 20, false))⟩,
  ⟨(some 26), .op (.pick (.t 20) (.c (.bool true)) (.t 25)), none⟩]
@[go_sem] def lodgesee_Fault_r7 : List AO := [⟨(some 27), .call 57 [(false, (.c (.int .i64 (-1))))] [3], none⟩,
  ⟨none, .op (.store 30 3 (.t 2) (.t 27)), none⟩]
@[go_sem] def lodgesee_Fault_r8 : List AO := [⟨(some 28), .op (.mv (.t 3)), none⟩,
  ⟨(some 29), .op (.nilck (.t 28)), none⟩,
  ⟨(some 30), .op (.faddr 94 1 (.t 29) 1), none⟩,
  ⟨(some 31), .op (.load 26 none (.t 30)), none⟩,
  ⟨(some 32), .call 99 [(false, (.t 31))] [26], none⟩,
  ⟨(some 33), .op (.mv (.t 3)), none⟩,
  ⟨(some 34), .op (.nilck (.t 33)), none⟩,
  ⟨(some 35), .op (.faddr 94 0 (.t 34) 0), none⟩,
  ⟨(some 36), .op (.load 3 none (.t 35)), none⟩,
  ⟨(some 37), .call 20 [(false, (.t 32)), (false, (.t 36))] [3, 3], none⟩,
  ⟨none, .op (.store 30 3 (.t 2) (.t 37)), none⟩]
def lodgesee_Fault_c : IC := (.seq (.reg lodgesee_Fault_r0) (.seq (.seq (.reg lodgesee_Fault_r1) (.cond (.t 6) (.seq (.reg lodgesee_Fault_r2) .ret) .skip)) (.seq (.reg lodgesee_Fault_r3) (.seq (.seq (.reg lodgesee_Fault_r4) (.cond (.t 14) (.seq (.reg lodgesee_Fault_r5) .ret) .skip)) (.seq (.seq (.reg lodgesee_Fault_r6) (.cond (.t 26) (.seq (.reg lodgesee_Fault_r7) .ret) .skip)) (.seq (.draw lodgesee_Fault_r8 [[], [0], [1], [2], [3], [], [5], [6], [7], [4, 8, 4], [9, 9, 0, 1, 2, 3, 4, 5, 6, 7, 8, 9]]) .ret))))))
abbrev F_lodgesee_Fault : Nat := 49
theorem lodgesee_Fault_call {G : Nat → Option Value} {pre : List AV} {res : AV} (hsz : decide (pre.length ≤ 38) = true) (h : AW pg G 38 lodgesee_Fault_c (endR [(.cells 2 3)] res) (St.init pre)) : ACalls pg G F_lodgesee_Fault pre res :=
  ACalls.of_walk (fn := Go.Proofs.Tryd.f49) (vs := [(.cell 2 30)]) (ic := lodgesee_Fault_c) (by kernel_rfl) (by kernel_rfl) rfl (by kernel_rfl) (by kernel_rfl) (of_decide_eq_true (by kernel_rfl)) (by kernel_rfl) (by kernel_rfl) (by kernel_rfl) (of_decide_eq_true hsz) h

/-! F57 lodge/lodgeref.Bare -/
@[go_sem] def lodgeref_Bare_r0 : List AO := [⟨(some 2), .op (.alloc 30 [.lit (.int .i64 0), .lit (.bool false), .lit (.int .i64 0)]), none⟩]
@[go_sem] def lodgeref_Bare_r1 : List AO := [⟨(some 3), .op (.mv (.t 0)), none⟩,
  ⟨(some 4), .op (.build 30 [.lit (.int .i64 0), .lit (.bool false), .lit (.int .i64 0)] [(0, 0, 1, (.t 3))]), none⟩,
  ⟨none, .op (.store 30 3 (.t 2) (.t 4)), none⟩]
def lodgeref_Bare_c : IC := (.seq (.reg lodgeref_Bare_r0) (.seq (.reg lodgeref_Bare_r1) .ret))
abbrev F_lodgeref_Bare : Nat := 57
theorem lodgeref_Bare_call {G : Nat → Option Value} {pre : List AV} {res : AV} (hsz : decide (pre.length ≤ 5) = true) (h : AW pg G 5 lodgeref_Bare_c (endR [(.cells 2 3)] res) (St.init pre)) : ACalls pg G F_lodgeref_Bare pre res :=
  ACalls.of_walk (fn := Go.Proofs.Tryd.f57) (vs := [(.cell 2 30)]) (ic := lodgeref_Bare_c) (by kernel_rfl) (by kernel_rfl) rfl (by kernel_rfl) (by kernel_rfl) (of_decide_eq_true (by kernel_rfl)) (by kernel_rfl) (by kernel_rfl) (by kernel_rfl) (of_decide_eq_true hsz) h

/-! F99 lodge/lodgesee.sentinel -/
@[go_sem] def lodgesee_sentinel_r0 : List AO := [⟨(some 2), .op (.asg (.c (.int .i64 (0)))), none⟩]
@[go_sem] def lodgesee_sentinel_r1 : List AO := [⟨(some 5), .call 139 [] [], none⟩,
  ⟨(some 3), .op (.asg (.t 5)), none⟩]
@[go_sem] def lodgesee_sentinel_r2 : List AO := [⟨(some 4), .op (.asg (.c (.int .i64 (0)))), none⟩]
@[go_sem] def lodgesee_sentinel_r3 : List AO := [⟨(some 6), .op (.mv (.t 4)), none⟩,
  ⟨(some 7), .op (.mv (.t 3)), none⟩,
  ⟨(some 8), .op (.len 172 false (.t 7)), none⟩,
  ⟨(some 9), .op (.bin .lss 3 0 (.t 6) (.t 8) 3), none⟩]
@[go_sem] def lodgesee_sentinel_r5 : List AO := [⟨(some 12), .op (.mv (.t 0)), none⟩,
  ⟨(some 13), .op (.mv (.t 3)), none⟩,
  ⟨(some 14), .op (.mv (.t 4)), none⟩,
  ⟨(some 15), .op (.iaddr 172 1 (.t 13) (.t 14)), none⟩,
  ⟨(some 16), .op (.load 26 none (.t 15)), none⟩,
  ⟨(some 17), .call 140 [(false, (.t 12)), (false, (.t 16))] [26, 26], none⟩]
@[go_sem] def lodgesee_sentinel_r6 : List AO := [⟨(some 18), .op (.mv (.t 4)), none⟩,
  ⟨(some 19), .op (.bin .add 3 0 (.c (.int .i64 (101))) (.t 18) 3), none⟩,
  ⟨(some 2), .op (.asg (.t 19)), none⟩]
@[go_sem] def lodgesee_sentinel_r4 : List AO := [⟨(some 10), .op (.mv (.t 4)), none⟩,
  ⟨(some 11), .op (.bin .add 3 0 (.t 10) (.c (.int .i64 (1))) 3), none⟩,
  ⟨(some 4), .op (.asg (.t 11)), none⟩]
def lodgesee_sentinel_l0 : IC := (.seq (.seq (.reg lodgesee_sentinel_r3) (.cond (.t 9) .skip (.exit 0))) (.seq (.block 1 (.seq (.reg lodgesee_sentinel_r5) (.cond (.t 17) (.seq (.reg lodgesee_sentinel_r6) .ret) .skip))) (.reg lodgesee_sentinel_r4)))
@[go_sem] def lodgesee_sentinel_r7 : List AO := [⟨(some 2), .op (.asg (.c (.int .i64 (-1)))), none⟩]
def lodgesee_sentinel_c : IC := (.seq (.reg lodgesee_sentinel_r0) (.seq (.reg lodgesee_sentinel_r1) (.seq (.seq (.reg lodgesee_sentinel_r2) (.block 0 (.loop lodgesee_sentinel_l0))) (.seq (.reg lodgesee_sentinel_r7) .ret))))
abbrev F_lodgesee_sentinel : Nat := 99
theorem lodgesee_sentinel_call {G : Nat → Option Value} {pre : List AV} {res : AV} (hsz : decide (pre.length ≤ 20) = true) (h : AW pg G 20 lodgesee_sentinel_c (endR [(.tmp 2)] res) (St.init pre)) : ACalls pg G F_lodgesee_sentinel pre res :=
  ACalls.of_walk (fn := Go.Proofs.Tryd.f99) (vs := [(.tmp 2)]) (ic := lodgesee_sentinel_c) (by kernel_rfl) (by kernel_rfl) rfl (by kernel_rfl) (by kernel_rfl) (of_decide_eq_true (by kernel_rfl)) (by kernel_rfl) (by kernel_rfl) (by kernel_rfl) (of_decide_eq_true hsz) h

/-! F139 lodge/lodgesee.sentinels -/
@[go_sem] def lodgesee_sentinels_r0 : List AO := [⟨(some 0), .op (.asg (.nl 1)), none⟩]
@[go_sem] def lodgesee_sentinels_r1 : List AO := [⟨(some 1), .op (.load 26 none (.g 6)), none⟩,
  ⟨(some 2), .op (.load 26 none (.g 3)), none⟩,
  ⟨(some 3), .op (.load 26 none (.g 5)), none⟩,
  ⟨(some 4), .op (.load 26 none (.g 2)), none⟩,
  ⟨(some 5), .op (.load 26 none (.g 4)), none⟩,
  ⟨(some 6), .op (.load 26 none (.g 7)), none⟩,
  ⟨(some 7), .op (.load 26 none (.g 0)), none⟩,
  ⟨(some 8), .op (.load 26 none (.g 8)), none⟩,
  ⟨(some 9), .op (.load 26 none (.g 9)), none⟩,
  ⟨(some 10), .op (.load 26 none (.g 10)), none⟩,
  ⟨(some 11), .op (.load 26 none (.g 1)), none⟩,
  ⟨(some 12), .op (.load 26 none (.g 11)), none⟩,
  ⟨(some 13), .op (.load 26 none (.g 12)), none⟩,
  ⟨(some 14), .op (.load 26 none (.g 13)), none⟩,
  ⟨(some 15), .op (.load 26 none (.g 14)), none⟩,
  ⟨(some 16), .op (.load 26 none (.g 15)), none⟩,
  ⟨(some 17), .op (.load 26 none (.g 16)), none⟩,
  ⟨(some 18), .op (.load 26 none (.g 17)), none⟩,
  ⟨(some 19), .op (.load 26 none (.g 18)), none⟩,
  ⟨(some 20), .op (.load 26 none (.g 19)), none⟩,
  ⟨(some 21), .op (.load 26 none (.g 20)), none⟩,
  ⟨(some 22), .op (.bslice 172 26 1 21 [.lit .nilIface] [(0, (.t 1)), (1, (.t 2)), (2, (.t 3)), (3, (.t 4)), (4, (.t 5)), (5, (.t 6)), (6, (.t 7)), (7, (.t 8)), (8, (.t 9)), (9, (.t 10)), (10, (.t 11)), (11, (.t 12)), (12, (.t 13)), (13, (.t 14)), (14, (.t 15)), (15, (.t 16)), (16, (.t 17)), (17, (.t 18)), (18, (.t 19)), (19, (.t 20)), (20, (.t 21))]), none⟩,
  ⟨(some 0), .op (.asg (.t 22)), none⟩]
def lodgesee_sentinels_c : IC := (.seq (.reg lodgesee_sentinels_r0) (.seq (.reg lodgesee_sentinels_r1) .ret))
abbrev F_lodgesee_sentinels : Nat := 139
theorem lodgesee_sentinels_call {G : Nat → Option Value} {pre : List AV} {res : AV} (hsz : decide (pre.length ≤ 23) = true) (h : AW pg G 23 lodgesee_sentinels_c (endR [(.tmp 0)] res) (St.init pre)) : ACalls pg G F_lodgesee_sentinels pre res :=
  ACalls.of_walk (fn := Go.Proofs.Tryd.f139) (vs := [(.tmp 0)]) (ic := lodgesee_sentinels_c) (by kernel_rfl) (by kernel_rfl) rfl (by kernel_rfl) (by kernel_rfl) (of_decide_eq_true (by kernel_rfl)) (by kernel_rfl) (by kernel_rfl) (by kernel_rfl) (of_decide_eq_true hsz) h

/-! F140 lodge/lodgesee.Alike -/
@[go_sem] def lodgesee_Alike_r0 : List AO := [⟨(some 4), .op (.asg (.c (.bool false))), none⟩]
@[go_sem] def lodgesee_Alike_r1 : List AO := [⟨(some 5), .op (.mv (.t 0)), none⟩,
  ⟨(some 6), .op (.bin .eql 26 2 (.t 5) (.c .nilIface) 26), none⟩,
  ⟨(some 7), .op (.mv (.t 6)), none⟩,
  ⟨(some 8), .op (.mv (.t 1)), (some (2, 7, false))⟩,
  ⟨(some 9), .op (.bin .eql 26 2 (.t 8) (.c .nilIface) 26), (some (2, 7, false))⟩,
  ⟨(some 10), .op (.pick (.t 7) (.c (.bool true)) (.t 9)), none⟩]
@[go_sem] def lodgesee_Alike_r2 : List AO := [⟨(some 11), .op (.mv (.t 0)), none⟩,
  ⟨(some 12), .op (.bin .eql 26 2 (.t 11) (.c .nilIface) 26), none⟩,
  ⟨(some 13), .op (.mv (.t 12)), none⟩,
  ⟨(some 14), .op (.mv (.t 1)), (some (2, 13, true))⟩,
  ⟨(some 15), .op (.bin .eql 26 2 (.t 14) (.c .nilIface) 26), (some (2, 13, true))⟩,
  ⟨(some 16), .op (.pick (.t 13) (.t 15) (.c (.bool false))), none⟩,
  ⟨(some 4), .op (.asg (.t 16)), none⟩]
@[go_sem] def lodgesee_Alike_r3 : List AO := [⟨(some 17), .op (.mv (.t 0)), none⟩,
  ⟨(some 18), .op (.mv (.t 1)), none⟩,
  ⟨(some 19), .op (.eqs .eql 26 231 251 (.t 17) (.t 18) 26), none⟩,
  ⟨(some 4), .op (.asg (.t 19)), none⟩]
def lodgesee_Alike_c : IC := (.seq (.reg lodgesee_Alike_r0) (.seq (.seq (.reg lodgesee_Alike_r1) (.cond (.t 10) (.seq (.reg lodgesee_Alike_r2) .ret) .skip)) (.seq (.reg lodgesee_Alike_r3) .ret)))
abbrev F_lodgesee_Alike : Nat := 140
theorem lodgesee_Alike_call {G : Nat → Option Value} {pre : List AV} {res : AV} (hsz : decide (pre.length ≤ 20) = true) (h : AW pg G 20 lodgesee_Alike_c (endR [(.tmp 4)] res) (St.init pre)) : ACalls pg G F_lodgesee_Alike pre res :=
  ACalls.of_walk (fn := Go.Proofs.Tryd.f140) (vs := [(.tmp 4)]) (ic := lodgesee_Alike_c) (by kernel_rfl) (by kernel_rfl) rfl (by kernel_rfl) (by kernel_rfl) (of_decide_eq_true (by kernel_rfl)) (by kernel_rfl) (by kernel_rfl) (by kernel_rfl) (of_decide_eq_true hsz) h

end Go.Ideal.Tryd
end

section
set_option linter.unusedVariables false
set_option linter.unusedSimpArgs false
set_option maxRecDepth 10000
namespace Go.Ideal.Tryd
abbrev li (n : Int) : AV := .lit (.int .i64 n)
abbrev lb (b : Bool) : AV := .lit (.bool b)
abbrev fault (k : Int) (p : Bool) (n : Int) : AV := .agg [li k, lb p, li n]

theorem none47 (G : Nat → Option Value) : ACalls pg G F_lodgeref_None [] (fault 0 false 0) := by
  refine lodgeref_None_call rfl ?_
  simp (disch := omega) [go_sem, lodgeref_None_c]
theorem same48 (G : Nat → Option Value) (a b c d : Int) (e f : Bool) : ACalls pg G F_lodgeref_SameFault [fault a e b, fault c f d] (lb (decide (a = c ∧ e = f ∧ b = d))) := by
  refine lodgeref_SameFault_call rfl ?_
  simp (disch := omega) [go_sem, lodgeref_SameFault_c]
  refine gOp_split ?_ ?_ <;> intro h <;> simp at h <;> simp (disch := omega) [go_sem, h]
  refine gOp_split ?_ ?_ <;> intro h2 <;> simp at h2 <;> simp (disch := omega) [go_sem, h, h2]
theorem placed20 (G : Nat → Option Value) (k n : Int) : ACalls pg G F_lodgeref_Placed [li k, li n] (if k = 0 then fault 0 false 0 else fault k true n) := by
  refine lodgeref_Placed_call rfl ?_
  by_cases h : k = 0 <;> simp (disch := omega) [go_sem, lodgeref_Placed_c, h]
  refine cal_pure (none47 G) rfl rfl ?_
  simp (disch := omega) [go_sem]
end Go.Ideal.Tryd
end

section
set_option linter.unusedVariables false
set_option linter.unusedSimpArgs false
set_option maxRecDepth 10000
namespace Go.Ideal.Tryd

@[go_sem] abbrev T_es : Nat := 231
@[go_sem] abbrev T_At : Nat := 92
/-- The sentinels: what the globals 0 to 20 hold. -/
structure Sent (G : Nat → Option Value) (bk : Nat → Nat × Nat) : Prop where
  val : ∀ g, g < 21 → G g = some (.iface T_es (.pointer (some ⟨(bk g).1, (bk g).2, none⟩)))
  blk : ∀ g, g < 21 → (G (bk g).1).isSome = true
  inj : ∀ g h, g < 21 → h < 21 → bk g = bk h → g = h
@[go_sem] abbrev sv (bk : Nat → Nat × Nat) (g : Nat) : AV := .lit (.iface T_es (.pointer (some ⟨(bk g).1, (bk g).2, none⟩)))
def sentOrder : List Nat := [6, 3, 5, 2, 4, 7, 0, 8, 9, 10, 1, 11, 12, 13, 14, 15, 16, 17, 18, 19, 20]
theorem sentinels139 (G : Nat → Option Value) (bk : Nat → Nat × Nat) (hS : Sent G bk) : ACalls pg G F_lodgesee_sentinels [] (.own 1 21 (sentOrder.map (sv bk))) := by
  refine lodgesee_sentinels_call rfl ?_
  simp (disch := omega) [go_sem, lodgesee_sentinels_c, hS.val]
  rfl
end Go.Ideal.Tryd
end

section
set_option linter.unusedVariables false
set_option linter.unusedSimpArgs false
set_option maxRecDepth 10000
namespace Go.Ideal.Tryd
abbrev slB (xs : List Bool) : AV := .sl xs.length (xs.map lb)
abbrev slI (xs : List Int) : AV := .sl xs.length (xs.map li)
abbrev owI (xs : List Int) : AV := .own 1 xs.length (xs.map li)
abbrev owB (xs : List Bool) : AV := .own 1 xs.length (xs.map lb)
abbrev slII (xs : List (List Int)) : AV := .sl xs.length (xs.map slI)
abbrev owII (xs : List (List Int)) : AV := .own 1 xs.length (xs.map owI)
attribute [go_sem] slB slI owI owB slII owII
@[go_sem] theorem noImmL_li (xs : List Int) : noImmL (xs.map li) = true := noImmL_map fun x => by simp only [noImm]
@[go_sem] theorem noImmL_lb (xs : List Bool) : noImmL (xs.map lb) = true := noImmL_map fun x => by simp only [noImm]
@[go_sem] theorem noOwnL_li (xs : List Int) : noOwnL (xs.map li) = true := noOwnL_map fun x => by simp only [noOwn]
@[go_sem] theorem noOwnL_lb (xs : List Bool) : noOwnL (xs.map lb) = true := noOwnL_map fun x => by simp only [noOwn]
/-- The first place of a value, from a place on; else -1. -/
def indexB (v : Bool) : List Bool → Nat → Int
  | [], _ => -1
  | x :: xs, i => if v = x then i else indexB v xs (i + 1)
theorem indexB_drop {v : Bool} {bs : List Bool} {i k : Nat} (h : i < bs.length) : indexB v (bs.drop i) k = if v = bs[i] then (k : Int) else indexB v (bs.drop (i + 1)) (k + 1) := by
  rw [List.drop_eq_getElem_cons h]; rfl
theorem index46 (G : Nat → Option Value) (bs : List Bool) (v : Bool) (hlen : bs.length < 2 ^ 62) : ACalls pg G F_slices_Index_bool [slB bs, lb v] (li (indexB v bs 0)) := by
  refine slices_Index_bool_call rfl ?_
  simp (disch := omega) [go_sem, slices_Index_bool_c]
  refine aw_loop Nat (fun i st => st.s 0 = slB bs ∧ st.s 1 = lb v ∧ st.s 7 = li bs.length ∧ st.s 8 = li i ∧ i ≤ bs.length ∧ indexB v (bs.drop i) i = indexB v bs 0) (fun i => bs.length - i) 0 ?_ ?_
  · simp (disch := omega) [go_sem]
  · rintro i st K ⟨h0, h1, h7, h8, hi, hno⟩ hK
    by_cases hlt : i < bs.length
    · rw [indexB_drop hlt] at hno
      by_cases hv : v = bs[i]
      · rw [if_pos hv] at hno
        simp (disch := omega) [go_sem, slices_Index_bool_l0, h0, h1, h7, h8, hlt, ← hno, hv]
        rw [← hv]; exact hno
      · rw [if_neg hv] at hno
        simp (disch := omega) [go_sem, slices_Index_bool_l0, h0, h1, h7, h8, hlt, hv]
        exact hK (i + 1) _ ⟨by simp [h0], by simp [h1], by simp [h7], by simp, by omega, hno⟩ (by omega)
    · rw [List.drop_eq_nil_of_le (by omega)] at hno
      simp (disch := omega) [go_sem, slices_Index_bool_l0, h0, h1, h7, h8, hlt, ← hno, indexB]
end Go.Ideal.Tryd
end
