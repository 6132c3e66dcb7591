/- Part Pa of the proof: a machine with trees for values, its soundness, and walks on it. -/
import Derived.Test.YtfdhkijgolgnfaaDoorNw
import Derived.Test.YtfdhkijgolgnfaaDoorProg

section
set_option linter.unusedVariables false
set_option maxRecDepth 10000
namespace Go.Ideal.Tryd
noncomputable abbrev pg : Program := Go.Proofs.Tryd.prog
@[go_sem] def lodgesee_Same_r0 : List AO := [⟨(some 3), .op (.box 30 3 (.t 1)), none⟩,
  ⟨(some 4), .op (.asg (.c (.bool false))), none⟩]
@[go_sem] def lodgesee_Same_r1 : List AO := [⟨(some 5), .op (.mv (.t 0)), none⟩,
  ⟨(some 6), .call 49 [(false, (.t 5))] [26], none⟩,
  ⟨(some 7), .op (.load 30 (some 3) (.t 3)), none⟩,
  ⟨(some 8), .call 48 [(false, (.t 6)), (false, (.t 7))] [30, 30], none⟩,
  ⟨(some 4), .op (.asg (.t 8)), none⟩]
def lodgesee_Same_c : IC := (.seq (.reg lodgesee_Same_r0) (.seq (.draw lodgesee_Same_r1 [[], [0], [], [1, 2, 1], [3, 3, 0, 1, 2, 3]]) .ret))
abbrev F_lodgesee_Same : Nat := 18
theorem lodgesee_Same_call {G : Nat → Option Value} {pre : List AV} {res : AV} (hsz : decide (pre.length ≤ 9) = true) (h : AW pg G 9 lodgesee_Same_c (endR [(.tmp 4)] res) (St.init pre)) : ACalls pg G F_lodgesee_Same pre res :=
  ACalls.of_walk (fn := Go.Proofs.Tryd.f18) (vs := [(.tmp 4)]) (ic := lodgesee_Same_c) (by kernel_rfl) (by kernel_rfl) rfl (by kernel_rfl) (by kernel_rfl) (of_decide_eq_true (by kernel_rfl)) (by kernel_rfl) (by kernel_rfl) (by kernel_rfl) (of_decide_eq_true hsz) h

@[go_sem] def lodgeworld_Number_r0 : List AO := [⟨(some 4), .op (.asg (.c (.int .i64 (0)))), none⟩]
@[go_sem] def lodgeworld_Number_r1 : List AO := [⟨(some 5), .op (.mv (.t 0)), none⟩,
  ⟨(some 6), .op (.mv (.t 1)), none⟩,
  ⟨(some 7), .op (.bin .rem 3 0 (.t 5) (.t 6) 3), none⟩,
  ⟨(some 8), .op (.mv (.t 1)), none⟩,
  ⟨(some 9), .op (.bin .add 3 0 (.t 7) (.t 8) 3), none⟩,
  ⟨(some 10), .op (.mv (.t 1)), none⟩,
  ⟨(some 11), .op (.bin .rem 3 0 (.t 9) (.t 10) 3), none⟩,
  ⟨(some 4), .op (.asg (.t 11)), none⟩]
def lodgeworld_Number_c : IC := (.seq (.reg lodgeworld_Number_r0) (.seq (.reg lodgeworld_Number_r1) .ret))
abbrev F_lodgeworld_Number : Nat := 19
theorem lodgeworld_Number_call {G : Nat → Option Value} {pre : List AV} {res : AV} (hsz : decide (pre.length ≤ 12) = true) (h : AW pg G 12 lodgeworld_Number_c (endR [(.tmp 4)] res) (St.init pre)) : ACalls pg G F_lodgeworld_Number pre res :=
  ACalls.of_walk (fn := Go.Proofs.Tryd.f19) (vs := [(.tmp 4)]) (ic := lodgeworld_Number_c) (by kernel_rfl) (by kernel_rfl) rfl (by kernel_rfl) (by kernel_rfl) (of_decide_eq_true (by kernel_rfl)) (by kernel_rfl) (by kernel_rfl) (by kernel_rfl) (of_decide_eq_true hsz) h

@[go_sem] def lodgeref_Placed_r0 : List AO := [⟨(some 4), .op (.alloc 30 [.lit (.int .i64 0), .lit (.bool false), .lit (.int .i64 0)]), none⟩]
@[go_sem] def lodgeref_Placed_r1 : List AO := [⟨(some 5), .op (.mv (.t 0)), none⟩,
  ⟨(some 6), .op (.bin .eql 3 0 (.t 5) (.c (.int .i64 (0))) 3), none⟩]
@[go_sem] def lodgeref_Placed_r2 : List AO := [⟨(some 7), .call 47 [] [], none⟩,
  ⟨none, .op (.store 30 3 (.t 4) (.t 7)), none⟩]
@[go_sem] def lodgeref_Placed_r3 : List AO := [⟨(some 8), .op (.mv (.t 0)), none⟩,
  ⟨(some 9), .op (.mv (.t 1)), none⟩,
  ⟨(some 10), .op (.build 30 [.lit (.int .i64 0), .lit (.bool false), .lit (.int .i64 0)] [(0, 0, 1, (.t 8)), (1, 1, 1, (.c (.bool true))), (2, 2, 1, (.t 9))]), none⟩,
  ⟨none, .op (.store 30 3 (.t 4) (.t 10)), none⟩]
def lodgeref_Placed_c : IC := (.seq (.reg lodgeref_Placed_r0) (.seq (.seq (.reg lodgeref_Placed_r1) (.cond (.t 6) (.seq (.reg lodgeref_Placed_r2) .ret) .skip)) (.seq (.reg lodgeref_Placed_r3) .ret)))
abbrev F_lodgeref_Placed : Nat := 20
theorem lodgeref_Placed_call {G : Nat → Option Value} {pre : List AV} {res : AV} (hsz : decide (pre.length ≤ 11) = true) (h : AW pg G 11 lodgeref_Placed_c (endR [(.cells 4 3)] res) (St.init pre)) : ACalls pg G F_lodgeref_Placed pre res :=
  ACalls.of_walk (fn := Go.Proofs.Tryd.f20) (vs := [(.cell 4 30)]) (ic := lodgeref_Placed_c) (by kernel_rfl) (by kernel_rfl) rfl (by kernel_rfl) (by kernel_rfl) (of_decide_eq_true (by kernel_rfl)) (by kernel_rfl) (by kernel_rfl) (by kernel_rfl) (of_decide_eq_true hsz) h

@[go_sem] def lodgeref_None_r0 : List AO := [⟨(some 0), .op (.alloc 30 [.lit (.int .i64 0), .lit (.bool false), .lit (.int .i64 0)]), none⟩]
@[go_sem] def lodgeref_None_r1 : List AO := [⟨(some 1), .op (.build 30 [.lit (.int .i64 0), .lit (.bool false), .lit (.int .i64 0)] []), none⟩,
  ⟨none, .op (.store 30 3 (.t 0) (.t 1)), none⟩]
def lodgeref_None_c : IC := (.seq (.reg lodgeref_None_r0) (.seq (.reg lodgeref_None_r1) .ret))
abbrev F_lodgeref_None : Nat := 47
theorem lodgeref_None_call {G : Nat → Option Value} {pre : List AV} {res : AV} (hsz : decide (pre.length ≤ 2) = true) (h : AW pg G 2 lodgeref_None_c (endR [(.cells 0 3)] res) (St.init pre)) : ACalls pg G F_lodgeref_None pre res :=
  ACalls.of_walk (fn := Go.Proofs.Tryd.f47) (vs := [(.cell 0 30)]) (ic := lodgeref_None_c) (by kernel_rfl) (by kernel_rfl) rfl (by kernel_rfl) (by kernel_rfl) (of_decide_eq_true (by kernel_rfl)) (by kernel_rfl) (by kernel_rfl) (by kernel_rfl) (of_decide_eq_true hsz) h

@[go_sem] def lodgeref_SameFault_r0 : List AO := [⟨(some 2), .op (.box 30 3 (.t 0)), none⟩,
  ⟨(some 3), .op (.box 30 3 (.t 1)), none⟩,
  ⟨(some 4), .op (.asg (.c (.bool false))), none⟩]
@[go_sem] def lodgeref_SameFault_r1 : List AO := [⟨(some 5), .op (.faddr 30 0 (.t 2) 0), none⟩,
  ⟨(some 6), .op (.load 3 none (.t 5)), none⟩,
  ⟨(some 7), .op (.faddr 30 0 (.t 3) 0), none⟩,
  ⟨(some 8), .op (.load 3 none (.t 7)), none⟩,
  ⟨(some 9), .op (.bin .eql 3 0 (.t 6) (.t 8) 3), none⟩,
  ⟨(some 10), .op (.mv (.t 9)), none⟩,
  ⟨(some 11), .op (.faddr 30 1 (.t 2) 1), (some (5, 10, true))⟩,
  ⟨(some 12), .op (.load 4 none (.t 11)), (some (5, 10, true))⟩,
  ⟨(some 13), .op (.faddr 30 1 (.t 3) 1), (some (5, 10, true))⟩,
  ⟨(some 14), .op (.load 4 none (.t 13)), (some (5, 10, true))⟩,
  ⟨(some 15), .op (.bin .eql 4 1 (.t 12) (.t 14) 4), (some (5, 10, true))⟩,
  ⟨(some 16), .op (.pick (.t 10) (.t 15) (.c (.bool false))), none⟩,
  ⟨(some 17), .op (.mv (.t 16)), none⟩,
  ⟨(some 18), .op (.faddr 30 2 (.t 2) 2), (some (12, 17, true))⟩,
  ⟨(some 19), .op (.load 3 none (.t 18)), (some (12, 17, true))⟩,
  ⟨(some 20), .op (.faddr 30 2 (.t 3) 2), (some (12, 17, true))⟩,
  ⟨(some 21), .op (.load 3 none (.t 20)), (some (12, 17, true))⟩,
  ⟨(some 22), .op (.bin .eql 3 0 (.t 19) (.t 21) 3), (some (12, 17, true))⟩,
  ⟨(some 23), .op (.pick (.t 17) (.t 22) (.c (.bool false))), none⟩,
  ⟨(some 4), .op (.asg (.t 23)), none⟩]
def lodgeref_SameFault_c : IC := (.seq (.reg lodgeref_SameFault_r0) (.seq (.reg lodgeref_SameFault_r1) .ret))
abbrev F_lodgeref_SameFault : Nat := 48
theorem lodgeref_SameFault_call {G : Nat → Option Value} {pre : List AV} {res : AV} (hsz : decide (pre.length ≤ 24) = true) (h : AW pg G 24 lodgeref_SameFault_c (endR [(.tmp 4)] res) (St.init pre)) : ACalls pg G F_lodgeref_SameFault pre res :=
  ACalls.of_walk (fn := Go.Proofs.Tryd.f48) (vs := [(.tmp 4)]) (ic := lodgeref_SameFault_c) (by kernel_rfl) (by kernel_rfl) rfl (by kernel_rfl) (by kernel_rfl) (of_decide_eq_true (by kernel_rfl)) (by kernel_rfl) (by kernel_rfl) (by kernel_rfl) (of_decide_eq_true hsz) h

@[go_sem] def lodgesee_Fault_r0 : List AO := [⟨(some 2), .op (.alloc 30 [.lit (.int .i64 0), .lit (.bool false), .lit (.int .i64 0)]), none⟩]
@[go_sem] def lodgesee_Fault_r1 : List AO := [⟨(some 5), .op (.mv (.t 0)), none⟩,
  ⟨(some 6), .op (.bin .eql 26 2 (.t 5) (.c .nilIface) 26), none⟩]
@[go_sem] def lodgesee_Fault_r2 : List AO := [⟨(some 7), .call 47 [] [], none⟩,
  ⟨none, .op (.store 30 3 (.t 2) (.t 7)), none⟩]
@[go_sem] def lodgesee_Fault_r3 : List AO := [⟨(some 9), .op (.mv (.t 0)), none⟩,
  ⟨(some 10), .op (.tas (.t 9) 26 92 [.lit (.pointer none)]), none⟩,
  ⟨(some 8), .op (.mv (.t 10)), none⟩,
  ⟨(some 11), .op (.ext (.t 8) 0), none⟩,
  ⟨(some 12), .op (.ext (.t 8) 1), none⟩,
  ⟨(some 3), .op (.asg (.t 11)), none⟩,
  ⟨(some 4), .op (.asg (.t 12)), none⟩]
@[go_sem] def lodgesee_Fault_r4 : List AO := [⟨(some 13), .op (.mv (.t 4)), none⟩,
  ⟨(some 14), .op (.un .not 4 (.t 13)), none⟩]
@[go_sem] def lodgesee_Fault_r5 : List AO := [⟨(some 15), .op (.mv (.t 0)), none⟩,
  ⟨(some 16), .call 99 [(false, (.t 15))] [26], none⟩,
  ⟨(some 17), .call 57 [(false, (.t 16))] [3], none⟩,
  ⟨none, .op (.store 30 3 (.t 2) (.t 17)), none⟩]
@[go_sem] def lodgesee_Fault_r6 : List AO := [⟨(some 18), .op (.mv (.t 3)), none⟩,
  ⟨(some 19), .op (.bin .eql 92 3 (.t 18) (.c (.pointer none)) 92), none⟩,
  ⟨(some 20), .op (.mv (.t 19)), none⟩,
  ⟨(some 21), .op (.mv (.t 3)), (some (2, 20, false))⟩,
  ⟨(some 22), .op (.nilck (.t 21)), (some (2, 20, false))⟩,
  ⟨(some 23), .op (.faddr 94 1 (.t 22) 1), (some (2, 20, false))⟩,
  ⟨(some 24), .op (.load 26 none (.t 23)), (some (2, 20, false))⟩,
  ⟨(some 25), .op (.bin .eql 26 2 (.t 24) (.c .nilIface) 26), (some (2, 20, false))⟩,
  ⟨(some 26), .op (.pick (.t 20) (.c (.bool true)) (.t 25)), none⟩]
@[go_sem] def lodgesee_Fault_r7 : List AO := [⟨(some 27), .call 57 [(false, (.c (.int .i64 (-1))))] [3], none⟩,
  ⟨none, .op (.store 30 3 (.t 2) (.t 27)), none⟩]
@[go_sem] def lodgesee_Fault_r8 : List AO := [⟨(some 28), .op (.mv (.t 3)), none⟩,
  ⟨(some 29), .op (.nilck (.t 28)), none⟩,
  ⟨(some 30), .op (.faddr 94 1 (.t 29) 1), none⟩,
  ⟨(some 31), .op (.load 26 none (.t 30)), none⟩,
  ⟨(some 32), .call 99 [(false, (.t 31))] [26], none⟩,
  ⟨(some 33), .op (.mv (.t 3)), none⟩,
  ⟨(some 34), .op (.nilck (.t 33)), none⟩,
  ⟨(some 35), .op (.faddr 94 0 (.t 34) 0), none⟩,
  ⟨(some 36), .op (.load 3 none (.t 35)), none⟩,
  ⟨(some 37), .call 20 [(false, (.t 32)), (false, (.t 36))] [3, 3], none⟩,
  ⟨none, .op (.store 30 3 (.t 2) (.t 37)), none⟩]
def lodgesee_Fault_c : IC := (.seq (.reg lodgesee_Fault_r0) (.seq (.seq (.reg lodgesee_Fault_r1) (.cond (.t 6) (.seq (.reg lodgesee_Fault_r2) .ret) .skip)) (.seq (.reg lodgesee_Fault_r3) (.seq (.seq (.reg lodgesee_Fault_r4) (.cond (.t 14) (.seq (.reg lodgesee_Fault_r5) .ret) .skip)) (.seq (.seq (.reg lodgesee_Fault_r6) (.cond (.t 26) (.seq (.reg lodgesee_Fault_r7) .ret) .skip)) (.seq (.draw lodgesee_Fault_r8 [[], [0], [1], [2], [3], [], [5], [6], [7], [4, 8, 4], [9, 9, 0, 1, 2, 3, 4, 5, 6, 7, 8, 9]]) .ret))))))
abbrev F_lodgesee_Fault : Nat := 49
theorem lodgesee_Fault_call {G : Nat → Option Value} {pre : List AV} {res : AV} (hsz : decide (pre.length ≤ 38) = true) (h : AW pg G 38 lodgesee_Fault_c (endR [(.cells 2 3)] res) (St.init pre)) : ACalls pg G F_lodgesee_Fault pre res :=
  ACalls.of_walk (fn := Go.Proofs.Tryd.f49) (vs := [(.cell 2 30)]) (ic := lodgesee_Fault_c) (by kernel_rfl) (by kernel_rfl) rfl (by kernel_rfl) (by kernel_rfl) (of_decide_eq_true (by kernel_rfl)) (by kernel_rfl) (by kernel_rfl) (by kernel_rfl) (of_decide_eq_true hsz) h

@[go_sem] def lodgeref_Bare_r0 : List AO := [⟨(some 2), .op (.alloc 30 [.lit (.int .i64 0), .lit (.bool false), .lit (.int .i64 0)]), none⟩]
@[go_sem] def lodgeref_Bare_r1 : List AO := [⟨(some 3), .op (.mv (.t 0)), none⟩,
  ⟨(some 4), .op (.build 30 [.lit (.int .i64 0), .lit (.bool false), .lit (.int .i64 0)] [(0, 0, 1, (.t 3))]), none⟩,
  ⟨none, .op (.store 30 3 (.t 2) (.t 4)), none⟩]
def lodgeref_Bare_c : IC := (.seq (.reg lodgeref_Bare_r0) (.seq (.reg lodgeref_Bare_r1) .ret))
abbrev F_lodgeref_Bare : Nat := 57
theorem lodgeref_Bare_call {G : Nat → Option Value} {pre : List AV} {res : AV} (hsz : decide (pre.length ≤ 5) = true) (h : AW pg G 5 lodgeref_Bare_c (endR [(.cells 2 3)] res) (St.init pre)) : ACalls pg G F_lodgeref_Bare pre res :=
  ACalls.of_walk (fn := Go.Proofs.Tryd.f57) (vs := [(.cell 2 30)]) (ic := lodgeref_Bare_c) (by kernel_rfl) (by kernel_rfl) rfl (by kernel_rfl) (by kernel_rfl) (of_decide_eq_true (by kernel_rfl)) (by kernel_rfl) (by kernel_rfl) (by kernel_rfl) (of_decide_eq_true hsz) h

@[go_sem] def lodgesee_sentinel_r0 : List AO := [⟨(some 2), .op (.asg (.c (.int .i64 (0)))), none⟩]
@[go_sem] def lodgesee_sentinel_r1 : List AO := [⟨(some 5), .call 139 [] [], none⟩,
  ⟨(some 3), .op (.asg (.t 5)), none⟩]
@[go_sem] def lodgesee_sentinel_r2 : List AO := [⟨(some 4), .op (.asg (.c (.int .i64 (0)))), none⟩]
@[go_sem] def lodgesee_sentinel_r3 : List AO := [⟨(some 6), .op (.mv (.t 4)), none⟩,
  ⟨(some 7), .op (.mv (.t 3)), none⟩,
  ⟨(some 8), .op (.len 172 false (.t 7)), none⟩,
  ⟨(some 9), .op (.bin .lss 3 0 (.t 6) (.t 8) 3), none⟩]
@[go_sem] def lodgesee_sentinel_r5 : List AO := [⟨(some 12), .op (.mv (.t 0)), none⟩,
  ⟨(some 13), .op (.mv (.t 3)), none⟩,
  ⟨(some 14), .op (.mv (.t 4)), none⟩,
  ⟨(some 15), .op (.iaddr 172 1 (.t 13) (.t 14)), none⟩,
  ⟨(some 16), .op (.load 26 none (.t 15)), none⟩,
  ⟨(some 17), .call 140 [(false, (.t 12)), (false, (.t 16))] [26, 26], none⟩]
@[go_sem] def lodgesee_sentinel_r6 : List AO := [⟨(some 18), .op (.mv (.t 4)), none⟩,
  ⟨(some 19), .op (.bin .add 3 0 (.c (.int .i64 (101))) (.t 18) 3), none⟩,
  ⟨(some 2), .op (.asg (.t 19)), none⟩]
@[go_sem] def lodgesee_sentinel_r4 : List AO := [⟨(some 10), .op (.mv (.t 4)), none⟩,
  ⟨(some 11), .op (.bin .add 3 0 (.t 10) (.c (.int .i64 (1))) 3), none⟩,
  ⟨(some 4), .op (.asg (.t 11)), none⟩]
def lodgesee_sentinel_l0 : IC := (.seq (.seq (.reg lodgesee_sentinel_r3) (.cond (.t 9) .skip (.exit 0))) (.seq (.block 1 (.seq (.reg lodgesee_sentinel_r5) (.cond (.t 17) (.seq (.reg lodgesee_sentinel_r6) .ret) .skip))) (.reg lodgesee_sentinel_r4)))
@[go_sem] def lodgesee_sentinel_r7 : List AO := [⟨(some 2), .op (.asg (.c (.int .i64 (-1)))), none⟩]
def lodgesee_sentinel_c : IC := (.seq (.reg lodgesee_sentinel_r0) (.seq (.reg lodgesee_sentinel_r1) (.seq (.seq (.reg lodgesee_sentinel_r2) (.block 0 (.loop lodgesee_sentinel_l0))) (.seq (.reg lodgesee_sentinel_r7) .ret))))
abbrev F_lodgesee_sentinel : Nat := 99
theorem lodgesee_sentinel_call {G : Nat → Option Value} {pre : List AV} {res : AV} (hsz : decide (pre.length ≤ 20) = true) (h : AW pg G 20 lodgesee_sentinel_c (endR [(.tmp 2)] res) (St.init pre)) : ACalls pg G F_lodgesee_sentinel pre res :=
  ACalls.of_walk (fn := Go.Proofs.Tryd.f99) (vs := [(.tmp 2)]) (ic := lodgesee_sentinel_c) (by kernel_rfl) (by kernel_rfl) rfl (by kernel_rfl) (by kernel_rfl) (of_decide_eq_true (by kernel_rfl)) (by kernel_rfl) (by kernel_rfl) (by kernel_rfl) (of_decide_eq_true hsz) h

@[go_sem] def lodgesee_sentinels_r0 : List AO := [⟨(some 0), .op (.asg (.nl 1)), none⟩]
@[go_sem] def lodgesee_sentinels_r1 : List AO := [⟨(some 1), .op (.load 26 none (.g 6)), none⟩,
  ⟨(some 2), .op (.load 26 none (.g 3)), none⟩,
  ⟨(some 3), .op (.load 26 none (.g 5)), none⟩,
  ⟨(some 4), .op (.load 26 none (.g 2)), none⟩,
  ⟨(some 5), .op (.load 26 none (.g 4)), none⟩,
  ⟨(some 6), .op (.load 26 none (.g 7)), none⟩,
  ⟨(some 7), .op (.load 26 none (.g 0)), none⟩,
  ⟨(some 8), .op (.load 26 none (.g 8)), none⟩,
  ⟨(some 9), .op (.load 26 none (.g 9)), none⟩,
  ⟨(some 10), .op (.load 26 none (.g 10)), none⟩,
  ⟨(some 11), .op (.load 26 none (.g 1)), none⟩,
  ⟨(some 12), .op (.load 26 none (.g 11)), none⟩,
  ⟨(some 13), .op (.load 26 none (.g 12)), none⟩,
  ⟨(some 14), .op (.load 26 none (.g 13)), none⟩,
  ⟨(some 15), .op (.load 26 none (.g 14)), none⟩,
  ⟨(some 16), .op (.load 26 none (.g 15)), none⟩,
  ⟨(some 17), .op (.load 26 none (.g 16)), none⟩,
  ⟨(some 18), .op (.load 26 none (.g 17)), none⟩,
  ⟨(some 19), .op (.load 26 none (.g 18)), none⟩,
  ⟨(some 20), .op (.load 26 none (.g 19)), none⟩,
  ⟨(some 21), .op (.load 26 none (.g 20)), none⟩,
  ⟨(some 22), .op (.bslice 172 26 1 21 [.lit .nilIface] [(0, (.t 1)), (1, (.t 2)), (2, (.t 3)), (3, (.t 4)), (4, (.t 5)), (5, (.t 6)), (6, (.t 7)), (7, (.t 8)), (8, (.t 9)), (9, (.t 10)), (10, (.t 11)), (11, (.t 12)), (12, (.t 13)), (13, (.t 14)), (14, (.t 15)), (15, (.t 16)), (16, (.t 17)), (17, (.t 18)), (18, (.t 19)), (19, (.t 20)), (20, (.t 21))]), none⟩,
  ⟨(some 0), .op (.asg (.t 22)), none⟩]
def lodgesee_sentinels_c : IC := (.seq (.reg lodgesee_sentinels_r0) (.seq (.reg lodgesee_sentinels_r1) .ret))
abbrev F_lodgesee_sentinels : Nat := 139
theorem lodgesee_sentinels_call {G : Nat → Option Value} {pre : List AV} {res : AV} (hsz : decide (pre.length ≤ 23) = true) (h : AW pg G 23 lodgesee_sentinels_c (endR [(.tmp 0)] res) (St.init pre)) : ACalls pg G F_lodgesee_sentinels pre res :=
  ACalls.of_walk (fn := Go.Proofs.Tryd.f139) (vs := [(.tmp 0)]) (ic := lodgesee_sentinels_c) (by kernel_rfl) (by kernel_rfl) rfl (by kernel_rfl) (by kernel_rfl) (of_decide_eq_true (by kernel_rfl)) (by kernel_rfl) (by kernel_rfl) (by kernel_rfl) (of_decide_eq_true hsz) h

@[go_sem] def lodgesee_Alike_r0 : List AO := [⟨(some 4), .op (.asg (.c (.bool false))), none⟩]
@[go_sem] def lodgesee_Alike_r1 : List AO := [⟨(some 5), .op (.mv (.t 0)), none⟩,
  ⟨(some 6), .op (.bin .eql 26 2 (.t 5) (.c .nilIface) 26), none⟩,
  ⟨(some 7), .op (.mv (.t 6)), none⟩,
  ⟨(some 8), .op (.mv (.t 1)), (some (2, 7, false))⟩,
  ⟨(some 9), .op (.bin .eql 26 2 (.t 8) (.c .nilIface) 26), (some (2, 7, false))⟩,
  ⟨(some 10), .op (.pick (.t 7) (.c (.bool true)) (.t 9)), none⟩]
@[go_sem] def lodgesee_Alike_r2 : List AO := [⟨(some 11), .op (.mv (.t 0)), none⟩,
  ⟨(some 12), .op (.bin .eql 26 2 (.t 11) (.c .nilIface) 26), none⟩,
  ⟨(some 13), .op (.mv (.t 12)), none⟩,
  ⟨(some 14), .op (.mv (.t 1)), (some (2, 13, true))⟩,
  ⟨(some 15), .op (.bin .eql 26 2 (.t 14) (.c .nilIface) 26), (some (2, 13, true))⟩,
  ⟨(some 16), .op (.pick (.t 13) (.t 15) (.c (.bool false))), none⟩,
  ⟨(some 4), .op (.asg (.t 16)), none⟩]
@[go_sem] def lodgesee_Alike_r3 : List AO := [⟨(some 17), .op (.mv (.t 0)), none⟩,
  ⟨(some 18), .op (.mv (.t 1)), none⟩,
  ⟨(some 19), .op (.eqs .eql 26 231 251 (.t 17) (.t 18) 26), none⟩,
  ⟨(some 4), .op (.asg (.t 19)), none⟩]
def lodgesee_Alike_c : IC := (.seq (.reg lodgesee_Alike_r0) (.seq (.seq (.reg lodgesee_Alike_r1) (.cond (.t 10) (.seq (.reg lodgesee_Alike_r2) .ret) .skip)) (.seq (.reg lodgesee_Alike_r3) .ret)))
abbrev F_lodgesee_Alike : Nat := 140
theorem lodgesee_Alike_call {G : Nat → Option Value} {pre : List AV} {res : AV} (hsz : decide (pre.length ≤ 20) = true) (h : AW pg G 20 lodgesee_Alike_c (endR [(.tmp 4)] res) (St.init pre)) : ACalls pg G F_lodgesee_Alike pre res :=
  ACalls.of_walk (fn := Go.Proofs.Tryd.f140) (vs := [(.tmp 4)]) (ic := lodgesee_Alike_c) (by kernel_rfl) (by kernel_rfl) rfl (by kernel_rfl) (by kernel_rfl) (of_decide_eq_true (by kernel_rfl)) (by kernel_rfl) (by kernel_rfl) (by kernel_rfl) (of_decide_eq_true hsz) h

end Go.Ideal.Tryd
end

section
set_option linter.unusedVariables false
set_option linter.unusedSimpArgs false
set_option maxRecDepth 10000
namespace Go.Ideal.Tryd
abbrev li (n : Int) : AV := .lit (.int .i64 n)
abbrev lb (b : Bool) : AV := .lit (.bool b)
abbrev fault (k : Int) (p : Bool) (n : Int) : AV := .agg [li k, lb p, li n]

theorem none47 (G : Nat → Option Value) : ACalls pg G F_lodgeref_None [] (fault 0 false 0) := by
  refine lodgeref_None_call rfl ?_
  simp (disch := omega) [go_sem, lodgeref_None_c]
theorem same48 (G : Nat → Option Value) (a b c d : Int) (e f : Bool) : ACalls pg G F_lodgeref_SameFault [fault a e b, fault c f d] (lb (decide (a = c ∧ e = f ∧ b = d))) := by
  refine lodgeref_SameFault_call rfl ?_
  simp (disch := omega) [go_sem, lodgeref_SameFault_c]
  refine gOp_split ?_ ?_ <;> intro h <;> simp at h <;> simp (disch := omega) [go_sem, h]
  refine gOp_split ?_ ?_ <;> intro h2 <;> simp at h2 <;> simp (disch := omega) [go_sem, h, h2]
theorem placed20 (G : Nat → Option Value) (k n : Int) : ACalls pg G F_lodgeref_Placed [li k, li n] (if k = 0 then fault 0 false 0 else fault k true n) := by
  refine lodgeref_Placed_call rfl ?_
  by_cases h : k = 0 <;> simp (disch := omega) [go_sem, lodgeref_Placed_c, h]
  refine cal_pure (none47 G) rfl rfl ?_
  simp (disch := omega) [go_sem]
end Go.Ideal.Tryd
end

section
set_option linter.unusedVariables false
set_option linter.unusedSimpArgs false
set_option maxRecDepth 10000
namespace Go.Ideal.Tryd

@[go_sem] abbrev T_es : Nat := 231
@[go_sem] abbrev T_At : Nat := 92
/-- The sentinels: what the globals 0 to 20 hold. -/
structure Sent (G : Nat → Option Value) (bk : Nat → Nat × Nat) : Prop where
  val : ∀ g, g < 21 → G g = some (.iface T_es (.pointer (some ⟨(bk g).1, (bk g).2, none⟩)))
  blk : ∀ g, g < 21 → (G (bk g).1).isSome = true
  inj : ∀ g h, g < 21 → h < 21 → bk g = bk h → g = h
@[go_sem] abbrev sv (bk : Nat → Nat × Nat) (g : Nat) : AV := .lit (.iface T_es (.pointer (some ⟨(bk g).1, (bk g).2, none⟩)))
def sentOrder : List Nat := [6, 3, 5, 2, 4, 7, 0, 8, 9, 10, 1, 11, 12, 13, 14, 15, 16, 17, 18, 19, 20]
theorem sentinels139 (G : Nat → Option Value) (bk : Nat → Nat × Nat) (hS : Sent G bk) : ACalls pg G F_lodgesee_sentinels [] (.own 1 21 (sentOrder.map (sv bk))) := by
  refine lodgesee_sentinels_call rfl ?_
  simp (disch := omega) [go_sem, lodgesee_sentinels_c, hS.val]
  rfl
end Go.Ideal.Tryd
end

section
set_option linter.unusedVariables false
set_option linter.unusedSimpArgs false
set_option maxRecDepth 10000
namespace Go.Ideal.Tryd
abbrev slB (xs : List Bool) : AV := .sl xs.length (xs.map lb)
abbrev slI (xs : List Int) : AV := .sl xs.length (xs.map li)
abbrev owI (xs : List Int) : AV := .own 1 xs.length (xs.map li)
abbrev owB (xs : List Bool) : AV := .own 1 xs.length (xs.map lb)
abbrev slII (xs : List (List Int)) : AV := .sl xs.length (xs.map slI)
abbrev owII (xs : List (List Int)) : AV := .own 1 xs.length (xs.map owI)
attribute [go_sem] slB slI owI owB slII owII
@[go_sem] theorem noImmL_li (xs : List Int) : noImmL (xs.map li) = true := noImmL_map fun x => by simp only [noImm]
@[go_sem] theorem noImmL_lb (xs : List Bool) : noImmL (xs.map lb) = true := noImmL_map fun x => by simp only [noImm]
@[go_sem] theorem noOwnL_li (xs : List Int) : noOwnL (xs.map li) = true := noOwnL_map fun x => by simp only [noOwn]
@[go_sem] theorem noOwnL_lb (xs : List Bool) : noOwnL (xs.map lb) = true := noOwnL_map fun x => by simp only [noOwn]
end Go.Ideal.Tryd
end
