/- Part Pg of the proof: a machine with trees for values, its soundness, and walks on it. -/
import Derived.Test.YtfdhkijgolgnfaaDoorPd

section
set_option linter.unusedVariables false
set_option maxRecDepth 10000
namespace Go.Ideal.Tryd
/-! F5 lodge/lodgelaw17.GraphBytes -/
@[go_sem] def lodgelaw17_GraphBytes_r0 : List AO := [⟨(some 1), .op (.box 41 2 (.t 0)), none⟩,
  ⟨(some 2), .op (.asg (.c (.bool false))), none⟩]
@[go_sem] def lodgelaw17_GraphBytes_r1 : List AO := [⟨(some 12), .call 21 [] [], none⟩,
  ⟨(some 3), .op (.asg (.t 12)), none⟩]
@[go_sem] def lodgelaw17_GraphBytes_r2 : List AO := [⟨(some 13), .op (.mv (.t 3)), none⟩,
  ⟨(some 14), .op (.un .not 4 (.t 13)), none⟩]
@[go_sem] def lodgelaw17_GraphBytes_r3 : List AO := [⟨(some 2), .op (.asg (.c (.bool false))), none⟩]
@[go_sem] def lodgelaw17_GraphBytes_r4 : List AO := [⟨(some 15), .op (.load 41 (some 2) (.t 1)), none⟩,
  ⟨(some 16), .call 22 [(false, (.t 15))] [41], none⟩,
  ⟨(some 17), .op (.un .not 4 (.t 16)), none⟩,
  ⟨(some 18), .op (.mv (.t 17)), none⟩,
  ⟨(some 19), .op (.mv (.t 3)), (some (3, 18, false))⟩,
  ⟨(some 20), .op (.un .not 4 (.t 19)), (some (3, 18, false))⟩,
  ⟨(some 21), .op (.pick (.t 18) (.c (.bool true)) (.t 20)), none⟩]
@[go_sem] def lodgelaw17_GraphBytes_r5 : List AO := [⟨(some 22), .op (.mv (.t 3)), none⟩,
  ⟨(some 2), .op (.asg (.t 22)), none⟩]
@[go_sem] def lodgelaw17_GraphBytes_r6 : List AO := [⟨(some 23), .op (.load 41 (some 2) (.t 1)), none⟩,
  ⟨(some 24), .call 23 [(false, (.t 23))] [41], none⟩,
  ⟨(some 4), .op (.alloc 41 [.own 6 0 [], .lit (.int .i64 0)]), none⟩,
  ⟨none, .op (.store 41 2 (.t 4) (.t 24)), none⟩]
@[go_sem] def lodgelaw17_GraphBytes_r7 : List AO := [⟨(some 26), .op (.load 41 (some 2) (.t 1)), none⟩,
  ⟨(some 27), .call 24 [(false, (.t 26))] [41], none⟩,
  ⟨(some 25), .op (.mva (.t 27)), none⟩,
  ⟨(some 28), .op (.ext (.t 25) 0), none⟩,
  ⟨(some 29), .op (.ext (.t 25) 1), none⟩,
  ⟨(some 5), .op (.asg (.t 28)), none⟩,
  ⟨(some 6), .op (.asg (.t 29)), none⟩]
@[go_sem] def lodgelaw17_GraphBytes_r8 : List AO := [⟨(some 31), .op (.load 41 (some 2) (.t 1)), none⟩,
  ⟨(some 32), .call 25 [(false, (.t 31))] [41], none⟩,
  ⟨(some 30), .op (.mva (.t 32)), none⟩,
  ⟨(some 33), .op (.ext (.t 30) 0), none⟩,
  ⟨(some 34), .op (.ext (.t 30) 1), none⟩,
  ⟨(some 8), .op (.alloc 30 [.lit (.int .i64 0), .lit (.bool false), .lit (.int .i64 0)]), none⟩,
  ⟨(some 7), .op (.asg (.t 33)), none⟩,
  ⟨none, .op (.store 30 3 (.t 8) (.t 34)), none⟩]
@[go_sem] def lodgelaw17_GraphBytes_r9 : List AO := [⟨(some 35), .op (.load 41 (some 2) (.t 1)), none⟩,
  ⟨(some 36), .call 26 [(false, (.t 35))] [41], none⟩,
  ⟨(some 9), .op (.asg (.t 36)), none⟩]
@[go_sem] def lodgelaw17_GraphBytes_r10 : List AO := [⟨(some 37), .op (.load 41 (some 2) (.t 1)), none⟩,
  ⟨(some 38), .call 27 [(false, (.t 37))] [41], none⟩,
  ⟨(some 10), .op (.asg (.t 38)), none⟩]
@[go_sem] def lodgelaw17_GraphBytes_r11 : List AO := [⟨(some 39), .op (.mv (.t 9)), none⟩,
  ⟨(some 40), .op (.len 22 false (.t 39)), none⟩,
  ⟨(some 41), .op (.mv (.t 10)), none⟩,
  ⟨(some 42), .op (.len 22 false (.t 41)), none⟩,
  ⟨(some 43), .op (.bin .neq 3 0 (.t 40) (.t 42) 3), none⟩,
  ⟨(some 44), .op (.mv (.t 43)), none⟩,
  ⟨(some 45), .op (.load 41 (some 2) (.t 1)), (some (5, 44, false))⟩,
  ⟨(some 46), .op (.load 41 (some 2) (.t 4)), (some (5, 44, false))⟩,
  ⟨(some 47), .call 28 [(false, (.t 45)), (false, (.t 46))] [41, 41], (some (5, 44, false))⟩,
  ⟨(some 48), .op (.un .not 4 (.t 47)), (some (5, 44, false))⟩,
  ⟨(some 49), .op (.pick (.t 44) (.c (.bool true)) (.t 48)), none⟩]
@[go_sem] def lodgelaw17_GraphBytes_r12 : List AO := [⟨(some 2), .op (.asg (.c (.bool false))), none⟩]
@[go_sem] def lodgelaw17_GraphBytes_r13 : List AO := [⟨(some 11), .op (.asg (.c (.int .i64 (0)))), none⟩]
@[go_sem] def lodgelaw17_GraphBytes_r14 : List AO := [⟨(some 50), .op (.mv (.t 11)), none⟩,
  ⟨(some 51), .op (.mv (.t 9)), none⟩,
  ⟨(some 52), .op (.len 22 false (.t 51)), none⟩,
  ⟨(some 53), .op (.bin .lss 3 0 (.t 50) (.t 52) 3), none⟩]
@[go_sem] def lodgelaw17_GraphBytes_r16 : List AO := [⟨(some 56), .op (.mv (.t 9)), none⟩,
  ⟨(some 57), .op (.mv (.t 11)), none⟩,
  ⟨(some 58), .op (.iaddr 22 1 (.t 56) (.t 57)), none⟩,
  ⟨(some 59), .op (.load 24 none (.t 58)), none⟩,
  ⟨(some 60), .op (.mv (.t 10)), none⟩,
  ⟨(some 61), .op (.mv (.t 11)), none⟩,
  ⟨(some 62), .op (.iaddr 22 1 (.t 60) (.t 61)), none⟩,
  ⟨(some 63), .op (.load 24 none (.t 62)), none⟩,
  ⟨(some 64), .call 17 [(false, (.t 59)), (false, (.t 63))] [24, 24], none⟩,
  ⟨(some 65), .op (.un .not 4 (.t 64)), none⟩]
@[go_sem] def lodgelaw17_GraphBytes_r17 : List AO := [⟨(some 2), .op (.asg (.c (.bool false))), none⟩]
@[go_sem] def lodgelaw17_GraphBytes_r15 : List AO := [⟨(some 54), .op (.mv (.t 11)), none⟩,
  ⟨(some 55), .op (.bin .add 3 0 (.t 54) (.c (.int .i64 (1))) 3), none⟩,
  ⟨(some 11), .op (.asg (.t 55)), none⟩]
def lodgelaw17_GraphBytes_l0 : IC := (.seq (.seq (.reg lodgelaw17_GraphBytes_r14) (.cond (.t 53) .skip (.exit 0))) (.seq (.block 1 (.seq (.draw lodgelaw17_GraphBytes_r16 [[], [], [0, 1], [2], [], [], [4, 5], [6], [3, 7], [8]]) (.cond (.t 65) (.seq (.reg lodgelaw17_GraphBytes_r17) .ret) .skip))) (.reg lodgelaw17_GraphBytes_r15)))
@[go_sem] def lodgelaw17_GraphBytes_r18 : List AO := [⟨(some 66), .op (.mv (.t 5)), none⟩,
  ⟨(some 67), .op (.mv (.t 7)), none⟩,
  ⟨(some 68), .call 29 [(false, (.t 66)), (false, (.t 67))] [44, 44], none⟩,
  ⟨(some 69), .op (.mv (.t 68)), none⟩,
  ⟨(some 70), .op (.mv (.t 6)), (some (3, 69, true))⟩,
  ⟨(some 71), .op (.load 30 (some 3) (.t 8)), (some (3, 69, true))⟩,
  ⟨(some 72), .call 18 [(false, (.t 70)), (false, (.t 71))] [26, 30], (some (3, 69, true))⟩,
  ⟨(some 73), .op (.pick (.t 69) (.t 72) (.c (.bool false))), none⟩,
  ⟨(some 2), .op (.asg (.t 73)), none⟩]
def lodgelaw17_GraphBytes_c : IC := (.seq (.reg lodgelaw17_GraphBytes_r0) (.seq (.reg lodgelaw17_GraphBytes_r1) (.seq (.seq (.reg lodgelaw17_GraphBytes_r2) (.cond (.t 14) (.seq (.reg lodgelaw17_GraphBytes_r3) .ret) .skip)) (.seq (.seq (.reg lodgelaw17_GraphBytes_r4) (.cond (.t 21) (.seq (.reg lodgelaw17_GraphBytes_r5) .ret) .skip)) (.seq (.reg lodgelaw17_GraphBytes_r6) (.seq (.reg lodgelaw17_GraphBytes_r7) (.seq (.reg lodgelaw17_GraphBytes_r8) (.seq (.reg lodgelaw17_GraphBytes_r9) (.seq (.reg lodgelaw17_GraphBytes_r10) (.seq (.seq (.reg lodgelaw17_GraphBytes_r11) (.cond (.t 49) (.seq (.reg lodgelaw17_GraphBytes_r12) .ret) .skip)) (.seq (.seq (.reg lodgelaw17_GraphBytes_r13) (.block 0 (.loop lodgelaw17_GraphBytes_l0))) (.seq (.reg lodgelaw17_GraphBytes_r18) .ret))))))))))))
abbrev F_lodgelaw17_GraphBytes : Nat := 5
theorem lodgelaw17_GraphBytes_call {G : Nat → Option Value} {pre : List AV} {res : AV} (hsz : decide (pre.length ≤ 74) = true) (h : AW pg G 74 lodgelaw17_GraphBytes_c (endR [(.tmp 2)] res) (St.init pre)) : ACalls pg G F_lodgelaw17_GraphBytes pre res :=
  ACalls.of_walk (fn := Go.Proofs.Tryd.f5) (vs := [(ResultVar.tmp 2)]) (ic := lodgelaw17_GraphBytes_c) (by kernel_rfl) (by kernel_rfl) rfl (by kernel_rfl) (by kernel_rfl) (of_decide_eq_true (by kernel_rfl)) (by kernel_rfl) (by kernel_rfl) (by kernel_rfl) (of_decide_eq_true hsz) h
@[go_sem] theorem lodgelaw17_GraphBytes_fnB : fnB pg 5 = true := by kernel_rfl

/-! F22 lodge/lodgeworld.Graph -/
@[go_sem] def lodgeworld_Graph_r0 : List AO := [⟨(some 1), .op (.box 41 2 (.t 0)), none⟩,
  ⟨(some 2), .op (.asg (.c (.bool false))), none⟩]
@[go_sem] def lodgeworld_Graph_r1 : List AO := [⟨(some 5), .op (.faddr 41 0 (.t 1) 0), none⟩,
  ⟨(some 6), .op (.load 39 none (.t 5)), none⟩,
  ⟨(some 7), .op (.len 39 false (.t 6)), none⟩,
  ⟨(some 8), .op (.bin .gtr 3 0 (.t 7) (.c (.int .i64 (70))) 3), none⟩]
@[go_sem] def lodgeworld_Graph_r2 : List AO := [⟨(some 2), .op (.asg (.c (.bool false))), none⟩]
@[go_sem] def lodgeworld_Graph_r3 : List AO := [⟨(some 3), .op (.asg (.c (.int .i64 (0)))), none⟩]
@[go_sem] def lodgeworld_Graph_r4 : List AO := [⟨(some 9), .op (.mv (.t 3)), none⟩,
  ⟨(some 10), .op (.faddr 41 0 (.t 1) 0), none⟩,
  ⟨(some 11), .op (.load 39 none (.t 10)), none⟩,
  ⟨(some 12), .op (.len 39 false (.t 11)), none⟩,
  ⟨(some 13), .op (.bin .lss 3 0 (.t 9) (.t 12) 3), none⟩]
@[go_sem] def lodgeworld_Graph_r6 : List AO := [⟨(some 16), .op (.faddr 41 0 (.t 1) 0), none⟩,
  ⟨(some 17), .op (.load 39 none (.t 16)), none⟩,
  ⟨(some 18), .op (.mv (.t 3)), none⟩,
  ⟨(some 19), .op (.iaddr 39 6 (.t 17) (.t 18)), none⟩,
  ⟨(some 20), .op (.load 58 (some 6) (.t 19)), none⟩,
  ⟨(some 4), .op (.alloc 58 [.lit (.int .i64 0), .own 1 0 [], .own 1 0 [], .own 1 0 [], .lit (.bool false), .own 1 0 []]), none⟩,
  ⟨none, .op (.store 58 6 (.t 4) (.t 20)), none⟩]
@[go_sem] def lodgeworld_Graph_r7 : List AO := [⟨(some 21), .op (.faddr 58 1 (.t 4) 1), none⟩,
  ⟨(some 22), .op (.load 24 none (.t 21)), none⟩,
  ⟨(some 23), .op (.len 24 false (.t 22)), none⟩,
  ⟨(some 24), .op (.bin .gtr 3 0 (.t 23) (.c (.int .i64 (10))) 3), none⟩,
  ⟨(some 25), .op (.mv (.t 24)), none⟩,
  ⟨(some 26), .op (.faddr 58 2 (.t 4) 2), (some (4, 25, false))⟩,
  ⟨(some 27), .op (.load 24 none (.t 26)), (some (4, 25, false))⟩,
  ⟨(some 28), .op (.len 24 false (.t 27)), (some (4, 25, false))⟩,
  ⟨(some 29), .op (.bin .gtr 3 0 (.t 28) (.c (.int .i64 (10))) 3), (some (4, 25, false))⟩,
  ⟨(some 30), .op (.pick (.t 25) (.c (.bool true)) (.t 29)), none⟩,
  ⟨(some 31), .op (.mv (.t 30)), none⟩,
  ⟨(some 32), .op (.faddr 58 3 (.t 4) 3), (some (10, 31, false))⟩,
  ⟨(some 33), .op (.load 56 (some 3) (.t 32)), (some (10, 31, false))⟩,
  ⟨(some 34), .call 50 [(false, (.t 33)), (false, (.c (.int .i64 (300))))] [56, 3], (some (10, 31, false))⟩,
  ⟨(some 35), .op (.un .not 4 (.t 34)), (some (10, 31, false))⟩,
  ⟨(some 36), .op (.pick (.t 31) (.c (.bool true)) (.t 35)), none⟩]
@[go_sem] def lodgeworld_Graph_r8 : List AO := [⟨(some 2), .op (.asg (.c (.bool false))), none⟩]
@[go_sem] def lodgeworld_Graph_r5 : List AO := [⟨(some 14), .op (.mv (.t 3)), none⟩,
  ⟨(some 15), .op (.bin .add 3 0 (.t 14) (.c (.int .i64 (1))) 3), none⟩,
  ⟨(some 3), .op (.asg (.t 15)), none⟩]
def lodgeworld_Graph_l0 : IC := (.seq (.seq (.reg lodgeworld_Graph_r4) (.cond (.t 13) .skip (.exit 0))) (.seq (.block 1 (.seq (.reg lodgeworld_Graph_r6) (.seq (.reg lodgeworld_Graph_r7) (.cond (.t 36) (.seq (.reg lodgeworld_Graph_r8) .ret) .skip)))) (.reg lodgeworld_Graph_r5)))
@[go_sem] def lodgeworld_Graph_r9 : List AO := [⟨(some 2), .op (.asg (.c (.bool true))), none⟩]
def lodgeworld_Graph_c : IC := (.seq (.reg lodgeworld_Graph_r0) (.seq (.seq (.reg lodgeworld_Graph_r1) (.cond (.t 8) (.seq (.reg lodgeworld_Graph_r2) .ret) .skip)) (.seq (.seq (.reg lodgeworld_Graph_r3) (.block 0 (.loop lodgeworld_Graph_l0))) (.seq (.reg lodgeworld_Graph_r9) .ret))))
abbrev F_lodgeworld_Graph : Nat := 22
theorem lodgeworld_Graph_call {G : Nat → Option Value} {pre : List AV} {res : AV} (hsz : decide (pre.length ≤ 37) = true) (h : AW pg G 37 lodgeworld_Graph_c (endR [(.tmp 2)] res) (St.init pre)) : ACalls pg G F_lodgeworld_Graph pre res :=
  ACalls.of_walk (fn := Go.Proofs.Tryd.f22) (vs := [(ResultVar.tmp 2)]) (ic := lodgeworld_Graph_c) (by kernel_rfl) (by kernel_rfl) rfl (by kernel_rfl) (by kernel_rfl) (of_decide_eq_true (by kernel_rfl)) (by kernel_rfl) (by kernel_rfl) (by kernel_rfl) (of_decide_eq_true hsz) h
@[go_sem] theorem lodgeworld_Graph_fnB : fnB pg 22 = true := by kernel_rfl

/-! F23 lodge/lodgeref.Graph -/
@[go_sem] def lodgeref_Graph_r0 : List AO := [⟨(some 1), .op (.box 41 2 (.t 0)), none⟩,
  ⟨(some 2), .op (.alloc 41 [.own 6 0 [], .lit (.int .i64 0)]), none⟩]
@[go_sem] def lodgeref_Graph_r1 : List AO := [⟨(some 3), .op (.faddr 41 0 (.t 1) 0), none⟩,
  ⟨(some 4), .op (.load 39 none (.t 3)), none⟩,
  ⟨(some 5), .call 51 [(false, (.t 4))] [39], none⟩,
  ⟨(some 6), .op (.faddr 41 1 (.t 1) 1), none⟩,
  ⟨(some 7), .op (.load 3 none (.t 6)), none⟩,
  ⟨(some 8), .op (.build 41 [.own 6 0 [], .lit (.int .i64 0)] [(0, 0, 1, (.t 5)), (1, 1, 1, (.t 7))]), none⟩,
  ⟨none, .op (.store 41 2 (.t 2) (.t 8)), none⟩]
def lodgeref_Graph_c : IC := (.seq (.reg lodgeref_Graph_r0) (.seq (.draw lodgeref_Graph_r1 [[], [0], [1], [], [3], [2, 4], [5, 2, 0, 1, 2, 3, 4, 5]]) .ret))
abbrev F_lodgeref_Graph : Nat := 23
theorem lodgeref_Graph_call {G : Nat → Option Value} {pre : List AV} {res : AV} (hsz : decide (pre.length ≤ 9) = true) (h : AW pg G 9 lodgeref_Graph_c (endR [(.cells 2 2)] res) (St.init pre)) : ACalls pg G F_lodgeref_Graph pre res :=
  ACalls.of_walk (fn := Go.Proofs.Tryd.f23) (vs := [(ResultVar.cell 2 41)]) (ic := lodgeref_Graph_c) (by kernel_rfl) (by kernel_rfl) rfl (by kernel_rfl) (by kernel_rfl) (of_decide_eq_true (by kernel_rfl)) (by kernel_rfl) (by kernel_rfl) (by kernel_rfl) (of_decide_eq_true hsz) h
@[go_sem] theorem lodgeref_Graph_fnB : fnB pg 23 = true := by kernel_rfl

/-! F25 lodge/lodgeref17.Bytes -/
@[go_sem] def lodgeref17_Bytes_r0 : List AO := [⟨(some 1), .op (.box 41 2 (.t 0)), none⟩,
  ⟨(some 2), .op (.asg (.nl 1)), none⟩,
  ⟨(some 3), .op (.alloc 30 [.lit (.int .i64 0), .lit (.bool false), .lit (.int .i64 0)]), none⟩]
@[go_sem] def lodgeref17_Bytes_r1 : List AO := [⟨(some 19), .op (.faddr 41 0 (.t 1) 0), none⟩,
  ⟨(some 20), .op (.load 39 none (.t 19)), none⟩,
  ⟨(some 21), .op (.len 39 false (.t 20)), none⟩,
  ⟨(some 22), .op (.bin .gtr 3 0 (.t 21) (.c (.int .i64 (64))) 3), none⟩,
  ⟨(some 4), .op (.asg (.t 22)), none⟩]
@[go_sem] def lodgeref17_Bytes_r2 : List AO := [⟨(some 5), .op (.asg (.c (.int .i64 (0)))), none⟩]
@[go_sem] def lodgeref17_Bytes_r3 : List AO := [⟨(some 23), .op (.mv (.t 5)), none⟩,
  ⟨(some 24), .op (.faddr 41 0 (.t 1) 0), none⟩,
  ⟨(some 25), .op (.load 39 none (.t 24)), none⟩,
  ⟨(some 26), .op (.len 39 false (.t 25)), none⟩,
  ⟨(some 27), .op (.bin .lss 3 0 (.t 23) (.t 26) 3), none⟩,
  ⟨(some 28), .op (.mv (.t 27)), none⟩,
  ⟨(some 29), .op (.mv (.t 4)), (some (5, 28, true))⟩,
  ⟨(some 30), .op (.un .not 4 (.t 29)), (some (5, 28, true))⟩,
  ⟨(some 31), .op (.pick (.t 28) (.t 30) (.c (.bool false))), none⟩]
@[go_sem] def lodgeref17_Bytes_r5 : List AO := [⟨(some 34), .op (.faddr 41 0 (.t 1) 0), none⟩,
  ⟨(some 35), .op (.load 39 none (.t 34)), none⟩,
  ⟨(some 36), .op (.mv (.t 5)), none⟩,
  ⟨(some 37), .op (.iaddr 39 6 (.t 35) (.t 36)), none⟩,
  ⟨(some 38), .op (.faddr 58 1 (.t 37) 1), none⟩,
  ⟨(some 39), .op (.load 24 none (.t 38)), none⟩,
  ⟨(some 40), .op (.len 24 false (.t 39)), none⟩,
  ⟨(some 41), .op (.bin .gtr 3 0 (.t 40) (.c (.int .i64 (8))) 3), none⟩,
  ⟨(some 42), .op (.mv (.t 41)), none⟩,
  ⟨(some 43), .op (.faddr 41 0 (.t 1) 0), (some (8, 42, false))⟩,
  ⟨(some 44), .op (.load 39 none (.t 43)), (some (8, 42, false))⟩,
  ⟨(some 45), .op (.mv (.t 5)), (some (8, 42, false))⟩,
  ⟨(some 46), .op (.iaddr 39 6 (.t 44) (.t 45)), (some (8, 42, false))⟩,
  ⟨(some 47), .op (.faddr 58 2 (.t 46) 2), (some (8, 42, false))⟩,
  ⟨(some 48), .op (.load 24 none (.t 47)), (some (8, 42, false))⟩,
  ⟨(some 49), .op (.len 24 false (.t 48)), (some (8, 42, false))⟩,
  ⟨(some 50), .op (.bin .gtr 3 0 (.t 49) (.c (.int .i64 (8))) 3), (some (8, 42, false))⟩,
  ⟨(some 51), .op (.pick (.t 42) (.c (.bool true)) (.t 50)), none⟩,
  ⟨(some 4), .op (.asg (.t 51)), none⟩]
@[go_sem] def lodgeref17_Bytes_r4 : List AO := [⟨(some 32), .op (.mv (.t 5)), none⟩,
  ⟨(some 33), .op (.bin .add 3 0 (.t 32) (.c (.int .i64 (1))) 3), none⟩,
  ⟨(some 5), .op (.asg (.t 33)), none⟩]
def lodgeref17_Bytes_l0 : IC := (.seq (.seq (.reg lodgeref17_Bytes_r3) (.cond (.t 31) .skip (.exit 0))) (.seq (.block 1 (.reg lodgeref17_Bytes_r5)) (.reg lodgeref17_Bytes_r4)))
@[go_sem] def lodgeref17_Bytes_r6 : List AO := [⟨(some 52), .op (.mv (.t 4)), none⟩]
@[go_sem] def lodgeref17_Bytes_r7 : List AO := [⟨(some 53), .call 57 [(false, (.c (.int .i64 (104))))] [3], none⟩,
  ⟨(some 2), .op (.asg (.nl 1)), none⟩,
  ⟨none, .op (.store 30 3 (.t 3) (.t 53)), none⟩]
@[go_sem] def lodgeref17_Bytes_r8 : List AO := [⟨(some 54), .op (.faddr 41 1 (.t 1) 1), none⟩,
  ⟨(some 55), .op (.load 3 none (.t 54)), none⟩,
  ⟨(some 56), .call 58 [(false, (.t 55))] [3], none⟩,
  ⟨(some 57), .op (.un .not 4 (.t 56)), none⟩,
  ⟨(some 6), .op (.asg (.t 57)), none⟩]
@[go_sem] def lodgeref17_Bytes_r9 : List AO := [⟨(some 7), .op (.asg (.c (.int .i64 (0)))), none⟩]
@[go_sem] def lodgeref17_Bytes_r10 : List AO := [⟨(some 58), .op (.mv (.t 7)), none⟩,
  ⟨(some 59), .op (.faddr 41 0 (.t 1) 0), none⟩,
  ⟨(some 60), .op (.load 39 none (.t 59)), none⟩,
  ⟨(some 61), .op (.len 39 false (.t 60)), none⟩,
  ⟨(some 62), .op (.bin .lss 3 0 (.t 58) (.t 61) 3), none⟩]
@[go_sem] def lodgeref17_Bytes_r12 : List AO := [⟨(some 65), .op (.faddr 41 0 (.t 1) 0), none⟩,
  ⟨(some 66), .op (.load 39 none (.t 65)), none⟩,
  ⟨(some 67), .op (.mv (.t 7)), none⟩,
  ⟨(some 68), .op (.iaddr 39 6 (.t 66) (.t 67)), none⟩,
  ⟨(some 69), .op (.load 58 (some 6) (.t 68)), none⟩,
  ⟨(some 8), .op (.alloc 58 [.lit (.int .i64 0), .own 1 0 [], .own 1 0 [], .own 1 0 [], .lit (.bool false), .own 1 0 []]), none⟩,
  ⟨none, .op (.store 58 6 (.t 8) (.t 69)), none⟩]
@[go_sem] def lodgeref17_Bytes_r13 : List AO := [⟨(some 70), .op (.mv (.t 6)), none⟩,
  ⟨(some 71), .op (.mv (.t 70)), none⟩,
  ⟨(some 72), .op (.faddr 58 0 (.t 8) 0), (some (1, 71, false))⟩,
  ⟨(some 73), .op (.load 3 none (.t 72)), (some (1, 71, false))⟩,
  ⟨(some 74), .op (.bin .lss 3 0 (.t 73) (.c (.int .i64 (0))) 3), (some (1, 71, false))⟩,
  ⟨(some 75), .op (.pick (.t 71) (.c (.bool true)) (.t 74)), none⟩,
  ⟨(some 76), .op (.mv (.t 75)), none⟩,
  ⟨(some 77), .op (.faddr 58 0 (.t 8) 0), (some (6, 76, false))⟩,
  ⟨(some 78), .op (.load 3 none (.t 77)), (some (6, 76, false))⟩,
  ⟨(some 79), .op (.bin .gtr 3 0 (.t 78) (.c (.int .i64 (255))) 3), (some (6, 76, false))⟩,
  ⟨(some 80), .op (.pick (.t 76) (.c (.bool true)) (.t 79)), none⟩,
  ⟨(some 6), .op (.asg (.t 80)), none⟩]
@[go_sem] def lodgeref17_Bytes_r14 : List AO := [⟨(some 9), .op (.asg (.c (.int .i64 (0)))), none⟩]
@[go_sem] def lodgeref17_Bytes_r15 : List AO := [⟨(some 81), .op (.mv (.t 9)), none⟩,
  ⟨(some 82), .op (.faddr 58 1 (.t 8) 1), none⟩,
  ⟨(some 83), .op (.load 24 none (.t 82)), none⟩,
  ⟨(some 84), .op (.len 24 false (.t 83)), none⟩,
  ⟨(some 85), .op (.bin .lss 3 0 (.t 81) (.t 84) 3), none⟩]
@[go_sem] def lodgeref17_Bytes_r17 : List AO := [⟨(some 88), .op (.mv (.t 6)), none⟩,
  ⟨(some 89), .op (.mv (.t 88)), none⟩,
  ⟨(some 90), .op (.faddr 58 1 (.t 8) 1), (some (1, 89, false))⟩,
  ⟨(some 91), .op (.load 24 none (.t 90)), (some (1, 89, false))⟩,
  ⟨(some 92), .op (.mv (.t 9)), (some (1, 89, false))⟩,
  ⟨(some 93), .op (.iaddr 24 1 (.t 91) (.t 92)), (some (1, 89, false))⟩,
  ⟨(some 94), .op (.load 3 none (.t 93)), (some (1, 89, false))⟩,
  ⟨(some 95), .call 58 [(false, (.t 94))] [3], (some (1, 89, false))⟩,
  ⟨(some 96), .op (.un .not 4 (.t 95)), (some (1, 89, false))⟩,
  ⟨(some 97), .op (.pick (.t 89) (.c (.bool true)) (.t 96)), none⟩,
  ⟨(some 6), .op (.asg (.t 97)), none⟩]
@[go_sem] def lodgeref17_Bytes_r16 : List AO := [⟨(some 86), .op (.mv (.t 9)), none⟩,
  ⟨(some 87), .op (.bin .add 3 0 (.t 86) (.c (.int .i64 (1))) 3), none⟩,
  ⟨(some 9), .op (.asg (.t 87)), none⟩]
def lodgeref17_Bytes_l1 : IC := (.seq (.seq (.reg lodgeref17_Bytes_r15) (.cond (.t 85) .skip (.exit 4))) (.seq (.block 5 (.reg lodgeref17_Bytes_r17)) (.reg lodgeref17_Bytes_r16)))
@[go_sem] def lodgeref17_Bytes_r18 : List AO := [⟨(some 10), .op (.asg (.c (.int .i64 (0)))), none⟩]
@[go_sem] def lodgeref17_Bytes_r19 : List AO := [⟨(some 98), .op (.mv (.t 10)), none⟩,
  ⟨(some 99), .op (.faddr 58 2 (.t 8) 2), none⟩,
  ⟨(some 100), .op (.load 24 none (.t 99)), none⟩,
  ⟨(some 101), .op (.len 24 false (.t 100)), none⟩,
  ⟨(some 102), .op (.bin .lss 3 0 (.t 98) (.t 101) 3), none⟩]
@[go_sem] def lodgeref17_Bytes_r21 : List AO := [⟨(some 105), .op (.mv (.t 6)), none⟩,
  ⟨(some 106), .op (.mv (.t 105)), none⟩,
  ⟨(some 107), .op (.faddr 58 2 (.t 8) 2), (some (1, 106, false))⟩,
  ⟨(some 108), .op (.load 24 none (.t 107)), (some (1, 106, false))⟩,
  ⟨(some 109), .op (.mv (.t 10)), (some (1, 106, false))⟩,
  ⟨(some 110), .op (.iaddr 24 1 (.t 108) (.t 109)), (some (1, 106, false))⟩,
  ⟨(some 111), .op (.load 3 none (.t 110)), (some (1, 106, false))⟩,
  ⟨(some 112), .call 59 [(false, (.t 111))] [3], (some (1, 106, false))⟩,
  ⟨(some 113), .op (.un .not 4 (.t 112)), (some (1, 106, false))⟩,
  ⟨(some 114), .op (.pick (.t 106) (.c (.bool true)) (.t 113)), none⟩,
  ⟨(some 6), .op (.asg (.t 114)), none⟩]
@[go_sem] def lodgeref17_Bytes_r20 : List AO := [⟨(some 103), .op (.mv (.t 10)), none⟩,
  ⟨(some 104), .op (.bin .add 3 0 (.t 103) (.c (.int .i64 (1))) 3), none⟩,
  ⟨(some 10), .op (.asg (.t 104)), none⟩]
def lodgeref17_Bytes_l2 : IC := (.seq (.seq (.reg lodgeref17_Bytes_r19) (.cond (.t 102) .skip (.exit 6))) (.seq (.block 7 (.reg lodgeref17_Bytes_r21)) (.reg lodgeref17_Bytes_r20)))
@[go_sem] def lodgeref17_Bytes_r11 : List AO := [⟨(some 63), .op (.mv (.t 7)), none⟩,
  ⟨(some 64), .op (.bin .add 3 0 (.t 63) (.c (.int .i64 (1))) 3), none⟩,
  ⟨(some 7), .op (.asg (.t 64)), none⟩]
def lodgeref17_Bytes_l3 : IC := (.seq (.seq (.reg lodgeref17_Bytes_r10) (.cond (.t 62) .skip (.exit 2))) (.seq (.block 3 (.seq (.reg lodgeref17_Bytes_r12) (.seq (.reg lodgeref17_Bytes_r13) (.seq (.seq (.reg lodgeref17_Bytes_r14) (.block 4 (.loop lodgeref17_Bytes_l1))) (.seq (.reg lodgeref17_Bytes_r18) (.block 6 (.loop lodgeref17_Bytes_l2))))))) (.reg lodgeref17_Bytes_r11)))
@[go_sem] def lodgeref17_Bytes_r22 : List AO := [⟨(some 115), .op (.mv (.t 6)), none⟩]
@[go_sem] def lodgeref17_Bytes_r23 : List AO := [⟨(some 116), .call 57 [(false, (.c (.int .i64 (102))))] [3], none⟩,
  ⟨(some 2), .op (.asg (.nl 1)), none⟩,
  ⟨none, .op (.store 30 3 (.t 3) (.t 116)), none⟩]
@[go_sem] def lodgeref17_Bytes_r24 : List AO := [⟨(some 11), .op (.asg (.c (.int .i64 (0)))), none⟩]
@[go_sem] def lodgeref17_Bytes_r25 : List AO := [⟨(some 117), .op (.mv (.t 11)), none⟩,
  ⟨(some 118), .op (.faddr 41 0 (.t 1) 0), none⟩,
  ⟨(some 119), .op (.load 39 none (.t 118)), none⟩,
  ⟨(some 120), .op (.len 39 false (.t 119)), none⟩,
  ⟨(some 121), .op (.bin .lss 3 0 (.t 117) (.t 120) 3), none⟩]
@[go_sem] def lodgeref17_Bytes_r27 : List AO := [⟨(some 124), .op (.faddr 41 0 (.t 1) 0), none⟩,
  ⟨(some 125), .op (.load 39 none (.t 124)), none⟩,
  ⟨(some 126), .op (.mv (.t 11)), none⟩,
  ⟨(some 127), .op (.iaddr 39 6 (.t 125) (.t 126)), none⟩,
  ⟨(some 128), .op (.faddr 58 0 (.t 127) 0), none⟩,
  ⟨(some 129), .op (.load 3 none (.t 128)), none⟩,
  ⟨(some 130), .op (.bin .eql 3 0 (.t 129) (.c (.int .i64 (2))) 3), none⟩]
@[go_sem] def lodgeref17_Bytes_r28 : List AO := [⟨(some 131), .op (.faddr 41 0 (.t 1) 0), none⟩,
  ⟨(some 132), .op (.load 39 none (.t 131)), none⟩,
  ⟨(some 133), .op (.mv (.t 11)), none⟩,
  ⟨(some 134), .op (.iaddr 39 6 (.t 132) (.t 133)), none⟩,
  ⟨(some 135), .op (.faddr 58 3 (.t 134) 3), none⟩,
  ⟨(some 136), .op (.load 56 (some 3) (.t 135)), none⟩,
  ⟨(some 137), .call 60 [(false, (.t 136))] [56], none⟩,
  ⟨(some 12), .op (.alloc 30 [.lit (.int .i64 0), .lit (.bool false), .lit (.int .i64 0)]), none⟩,
  ⟨none, .op (.store 30 3 (.t 12) (.t 137)), none⟩]
@[go_sem] def lodgeref17_Bytes_r29 : List AO := [⟨(some 138), .op (.faddr 30 0 (.t 12) 0), none⟩,
  ⟨(some 139), .op (.load 3 none (.t 138)), none⟩,
  ⟨(some 140), .op (.bin .neq 3 0 (.t 139) (.c (.int .i64 (0))) 3), none⟩]
@[go_sem] def lodgeref17_Bytes_r30 : List AO := [⟨(some 141), .op (.load 30 (some 3) (.t 12)), none⟩,
  ⟨(some 2), .op (.asg (.nl 1)), none⟩,
  ⟨none, .op (.store 30 3 (.t 3) (.t 141)), none⟩]
@[go_sem] def lodgeref17_Bytes_r26 : List AO := [⟨(some 122), .op (.mv (.t 11)), none⟩,
  ⟨(some 123), .op (.bin .add 3 0 (.t 122) (.c (.int .i64 (1))) 3), none⟩,
  ⟨(some 11), .op (.asg (.t 123)), none⟩]
def lodgeref17_Bytes_l4 : IC := (.seq (.seq (.reg lodgeref17_Bytes_r25) (.cond (.t 121) .skip (.exit 8))) (.seq (.block 9 (.seq (.reg lodgeref17_Bytes_r27) (.cond (.t 130) (.seq (.reg lodgeref17_Bytes_r28) (.seq (.reg lodgeref17_Bytes_r29) (.cond (.t 140) (.seq (.draw lodgeref17_Bytes_r30 [[], [], [0, 1, 0, 1]]) .ret) .skip))) .skip))) (.reg lodgeref17_Bytes_r26)))
@[go_sem] def lodgeref17_Bytes_r31 : List AO := [⟨(some 142), .op (.bslice 44 5 1 2 [.lit (.int .u8 0)] [(0, (.c (.int .u8 (76)))), (1, (.c (.int .u8 (71))))]), none⟩,
  ⟨(some 143), .op (.conv 44 44 .keep (.t 142)), none⟩,
  ⟨(some 144), .op (.faddr 41 0 (.t 1) 0), none⟩,
  ⟨(some 145), .op (.load 39 none (.t 144)), none⟩,
  ⟨(some 146), .op (.len 39 false (.t 145)), none⟩,
  ⟨(some 147), .op (.conv 3 5 (.int .u8) (.t 146)), none⟩,
  ⟨(some 148), .op (.faddr 41 0 (.t 1) 0), none⟩,
  ⟨(some 149), .op (.load 39 none (.t 148)), none⟩,
  ⟨(some 150), .op (.len 39 false (.t 149)), none⟩,
  ⟨(some 151), .op (.bin .shr 3 0 (.t 150) (.c (.int .u64 (8))) 111), none⟩,
  ⟨(some 152), .op (.conv 3 5 (.int .u8) (.t 151)), none⟩,
  ⟨(some 153), .op (.bslice 44 5 1 2 [.lit (.int .u8 0)] [(0, (.t 147)), (1, (.t 152))]), none⟩,
  ⟨(some 154), .op (.app 44 5 1 1 (.t 143) (.t 153)), none⟩,
  ⟨(some 13), .op (.asg (.t 154)), none⟩]
@[go_sem] def lodgeref17_Bytes_r32 : List AO := [⟨(some 14), .op (.asg (.c (.int .i64 (0)))), none⟩]
@[go_sem] def lodgeref17_Bytes_r33 : List AO := [⟨(some 155), .op (.mv (.t 14)), none⟩,
  ⟨(some 156), .op (.faddr 41 0 (.t 1) 0), none⟩,
  ⟨(some 157), .op (.load 39 none (.t 156)), none⟩,
  ⟨(some 158), .op (.len 39 false (.t 157)), none⟩,
  ⟨(some 159), .op (.bin .lss 3 0 (.t 155) (.t 158) 3), none⟩]
@[go_sem] def lodgeref17_Bytes_r35 : List AO := [⟨(some 162), .op (.faddr 41 0 (.t 1) 0), none⟩,
  ⟨(some 163), .op (.load 39 none (.t 162)), none⟩,
  ⟨(some 164), .op (.mv (.t 14)), none⟩,
  ⟨(some 165), .op (.iaddr 39 6 (.t 163) (.t 164)), none⟩,
  ⟨(some 166), .op (.load 58 (some 6) (.t 165)), none⟩,
  ⟨(some 15), .op (.alloc 58 [.lit (.int .i64 0), .own 1 0 [], .own 1 0 [], .own 1 0 [], .lit (.bool false), .own 1 0 []]), none⟩,
  ⟨none, .op (.store 58 6 (.t 15) (.t 166)), none⟩]
@[go_sem] def lodgeref17_Bytes_r36 : List AO := [⟨(some 167), .op (.mv (.t 13)), none⟩,
  ⟨(some 168), .op (.faddr 58 0 (.t 15) 0), none⟩,
  ⟨(some 169), .op (.load 3 none (.t 168)), none⟩,
  ⟨(some 170), .op (.conv 3 5 (.int .u8) (.t 169)), none⟩,
  ⟨(some 171), .op (.faddr 58 1 (.t 15) 1), none⟩,
  ⟨(some 172), .op (.load 24 none (.t 171)), none⟩,
  ⟨(some 173), .op (.len 24 false (.t 172)), none⟩,
  ⟨(some 174), .op (.conv 3 5 (.int .u8) (.t 173)), none⟩,
  ⟨(some 175), .op (.bslice 44 5 1 2 [.lit (.int .u8 0)] [(0, (.t 170)), (1, (.t 174))]), none⟩,
  ⟨(some 176), .op (.app 44 5 1 1 (.t 167) (.t 175)), none⟩,
  ⟨(some 13), .op (.asg (.t 176)), none⟩]
@[go_sem] def lodgeref17_Bytes_r37 : List AO := [⟨(some 16), .op (.asg (.c (.int .i64 (0)))), none⟩]
@[go_sem] def lodgeref17_Bytes_r38 : List AO := [⟨(some 177), .op (.mv (.t 16)), none⟩,
  ⟨(some 178), .op (.faddr 58 1 (.t 15) 1), none⟩,
  ⟨(some 179), .op (.load 24 none (.t 178)), none⟩,
  ⟨(some 180), .op (.len 24 false (.t 179)), none⟩,
  ⟨(some 181), .op (.bin .lss 3 0 (.t 177) (.t 180) 3), none⟩]
@[go_sem] def lodgeref17_Bytes_r40 : List AO := [⟨(some 184), .op (.mv (.t 13)), none⟩,
  ⟨(some 185), .op (.faddr 58 1 (.t 15) 1), none⟩,
  ⟨(some 186), .op (.load 24 none (.t 185)), none⟩,
  ⟨(some 187), .op (.mv (.t 16)), none⟩,
  ⟨(some 188), .op (.iaddr 24 1 (.t 186) (.t 187)), none⟩,
  ⟨(some 189), .op (.load 3 none (.t 188)), none⟩,
  ⟨(some 190), .op (.conv 3 5 (.int .u8) (.t 189)), none⟩,
  ⟨(some 191), .op (.faddr 58 1 (.t 15) 1), none⟩,
  ⟨(some 192), .op (.load 24 none (.t 191)), none⟩,
  ⟨(some 193), .op (.mv (.t 16)), none⟩,
  ⟨(some 194), .op (.iaddr 24 1 (.t 192) (.t 193)), none⟩,
  ⟨(some 195), .op (.load 3 none (.t 194)), none⟩,
  ⟨(some 196), .op (.bin .shr 3 0 (.t 195) (.c (.int .u64 (8))) 111), none⟩,
  ⟨(some 197), .op (.conv 3 5 (.int .u8) (.t 196)), none⟩,
  ⟨(some 198), .op (.bslice 44 5 1 2 [.lit (.int .u8 0)] [(0, (.t 190)), (1, (.t 197))]), none⟩,
  ⟨(some 199), .op (.app 44 5 1 1 (.t 184) (.t 198)), none⟩,
  ⟨(some 13), .op (.asg (.t 199)), none⟩]
@[go_sem] def lodgeref17_Bytes_r39 : List AO := [⟨(some 182), .op (.mv (.t 16)), none⟩,
  ⟨(some 183), .op (.bin .add 3 0 (.t 182) (.c (.int .i64 (1))) 3), none⟩,
  ⟨(some 16), .op (.asg (.t 183)), none⟩]
def lodgeref17_Bytes_l5 : IC := (.seq (.seq (.reg lodgeref17_Bytes_r38) (.cond (.t 181) .skip (.exit 12))) (.seq (.block 13 (.draw lodgeref17_Bytes_r40 [[], [], [1], [], [2, 3], [4], [5], [], [7], [], [8, 9], [10], [11], [12], [6, 13], [0, 14], [15, 15, 0, 1, 2, 3, 4, 5, 6, 7, 8, 9, 10, 11, 12, 13, 14, 15]])) (.reg lodgeref17_Bytes_r39)))
@[go_sem] def lodgeref17_Bytes_r41 : List AO := [⟨(some 200), .op (.mv (.t 13)), none⟩,
  ⟨(some 201), .op (.faddr 58 2 (.t 15) 2), none⟩,
  ⟨(some 202), .op (.load 24 none (.t 201)), none⟩,
  ⟨(some 203), .op (.len 24 false (.t 202)), none⟩,
  ⟨(some 204), .op (.conv 3 5 (.int .u8) (.t 203)), none⟩,
  ⟨(some 205), .op (.bslice 44 5 1 1 [.lit (.int .u8 0)] [(0, (.t 204))]), none⟩,
  ⟨(some 206), .op (.app 44 5 1 1 (.t 200) (.t 205)), none⟩,
  ⟨(some 13), .op (.asg (.t 206)), none⟩]
@[go_sem] def lodgeref17_Bytes_r42 : List AO := [⟨(some 17), .op (.asg (.c (.int .i64 (0)))), none⟩]
@[go_sem] def lodgeref17_Bytes_r43 : List AO := [⟨(some 207), .op (.mv (.t 17)), none⟩,
  ⟨(some 208), .op (.faddr 58 2 (.t 15) 2), none⟩,
  ⟨(some 209), .op (.load 24 none (.t 208)), none⟩,
  ⟨(some 210), .op (.len 24 false (.t 209)), none⟩,
  ⟨(some 211), .op (.bin .lss 3 0 (.t 207) (.t 210) 3), none⟩]
@[go_sem] def lodgeref17_Bytes_r45 : List AO := [⟨(some 214), .op (.faddr 58 2 (.t 15) 2), none⟩,
  ⟨(some 215), .op (.load 24 none (.t 214)), none⟩,
  ⟨(some 216), .op (.mv (.t 17)), none⟩,
  ⟨(some 217), .op (.iaddr 24 1 (.t 215) (.t 216)), none⟩,
  ⟨(some 218), .op (.load 3 none (.t 217)), none⟩,
  ⟨(some 18), .op (.asg (.t 218)), none⟩]
@[go_sem] def lodgeref17_Bytes_r46 : List AO := [⟨(some 219), .op (.mv (.t 13)), none⟩,
  ⟨(some 220), .op (.mv (.t 18)), none⟩,
  ⟨(some 221), .op (.conv 3 5 (.int .u8) (.t 220)), none⟩,
  ⟨(some 222), .op (.mv (.t 18)), none⟩,
  ⟨(some 223), .op (.bin .shr 3 0 (.t 222) (.c (.int .u64 (8))) 111), none⟩,
  ⟨(some 224), .op (.conv 3 5 (.int .u8) (.t 223)), none⟩,
  ⟨(some 225), .op (.mv (.t 18)), none⟩,
  ⟨(some 226), .op (.bin .shr 3 0 (.t 225) (.c (.int .u64 (16))) 111), none⟩,
  ⟨(some 227), .op (.conv 3 5 (.int .u8) (.t 226)), none⟩,
  ⟨(some 228), .op (.mv (.t 18)), none⟩,
  ⟨(some 229), .op (.bin .shr 3 0 (.t 228) (.c (.int .u64 (24))) 111), none⟩,
  ⟨(some 230), .op (.conv 3 5 (.int .u8) (.t 229)), none⟩,
  ⟨(some 231), .op (.bslice 44 5 1 4 [.lit (.int .u8 0)] [(0, (.t 221)), (1, (.t 224)), (2, (.t 227)), (3, (.t 230))]), none⟩,
  ⟨(some 232), .op (.app 44 5 1 1 (.t 219) (.t 231)), none⟩,
  ⟨(some 13), .op (.asg (.t 232)), none⟩]
@[go_sem] def lodgeref17_Bytes_r44 : List AO := [⟨(some 212), .op (.mv (.t 17)), none⟩,
  ⟨(some 213), .op (.bin .add 3 0 (.t 212) (.c (.int .i64 (1))) 3), none⟩,
  ⟨(some 17), .op (.asg (.t 213)), none⟩]
def lodgeref17_Bytes_l6 : IC := (.seq (.seq (.reg lodgeref17_Bytes_r43) (.cond (.t 211) .skip (.exit 14))) (.seq (.block 15 (.seq (.reg lodgeref17_Bytes_r45) (.reg lodgeref17_Bytes_r46))) (.reg lodgeref17_Bytes_r44)))
@[go_sem] def lodgeref17_Bytes_r47 : List AO := [⟨(some 233), .op (.faddr 58 0 (.t 15) 0), none⟩,
  ⟨(some 234), .op (.load 3 none (.t 233)), none⟩,
  ⟨(some 235), .op (.bin .eql 3 0 (.t 234) (.c (.int .i64 (2))) 3), none⟩]
@[go_sem] def lodgeref17_Bytes_r48 : List AO := [⟨(some 236), .op (.mv (.t 13)), none⟩,
  ⟨(some 237), .op (.faddr 58 3 (.t 15) 3), none⟩,
  ⟨(some 238), .op (.load 56 (some 3) (.t 237)), none⟩,
  ⟨(some 239), .call 61 [(false, (.t 238))] [56], none⟩,
  ⟨(some 240), .op (.app 44 5 1 1 (.t 236) (.t 239)), none⟩,
  ⟨(some 13), .op (.asg (.t 240)), none⟩]
@[go_sem] def lodgeref17_Bytes_r34 : List AO := [⟨(some 160), .op (.mv (.t 14)), none⟩,
  ⟨(some 161), .op (.bin .add 3 0 (.t 160) (.c (.int .i64 (1))) 3), none⟩,
  ⟨(some 14), .op (.asg (.t 161)), none⟩]
def lodgeref17_Bytes_l7 : IC := (.seq (.seq (.reg lodgeref17_Bytes_r33) (.cond (.t 159) .skip (.exit 10))) (.seq (.block 11 (.seq (.reg lodgeref17_Bytes_r35) (.seq (.reg lodgeref17_Bytes_r36) (.seq (.seq (.reg lodgeref17_Bytes_r37) (.block 12 (.loop lodgeref17_Bytes_l5))) (.seq (.reg lodgeref17_Bytes_r41) (.seq (.seq (.reg lodgeref17_Bytes_r42) (.block 14 (.loop lodgeref17_Bytes_l6))) (.seq (.reg lodgeref17_Bytes_r47) (.cond (.t 235) (.reg lodgeref17_Bytes_r48) .skip)))))))) (.reg lodgeref17_Bytes_r34)))
@[go_sem] def lodgeref17_Bytes_r49 : List AO := [⟨(some 241), .op (.mv (.t 13)), none⟩,
  ⟨(some 242), .op (.faddr 41 1 (.t 1) 1), none⟩,
  ⟨(some 243), .op (.load 3 none (.t 242)), none⟩,
  ⟨(some 244), .op (.conv 3 5 (.int .u8) (.t 243)), none⟩,
  ⟨(some 245), .op (.faddr 41 1 (.t 1) 1), none⟩,
  ⟨(some 246), .op (.load 3 none (.t 245)), none⟩,
  ⟨(some 247), .op (.bin .shr 3 0 (.t 246) (.c (.int .u64 (8))) 111), none⟩,
  ⟨(some 248), .op (.conv 3 5 (.int .u8) (.t 247)), none⟩,
  ⟨(some 249), .op (.bslice 44 5 1 2 [.lit (.int .u8 0)] [(0, (.t 244)), (1, (.t 248))]), none⟩,
  ⟨(some 250), .op (.app 44 5 1 1 (.t 241) (.t 249)), none⟩,
  ⟨(some 251), .call 47 [] [], none⟩,
  ⟨(some 2), .op (.asg (.t 250)), none⟩,
  ⟨none, .op (.store 30 3 (.t 3) (.t 251)), none⟩]
def lodgeref17_Bytes_c : IC := (.seq (.reg lodgeref17_Bytes_r0) (.seq (.reg lodgeref17_Bytes_r1) (.seq (.seq (.reg lodgeref17_Bytes_r2) (.block 0 (.loop lodgeref17_Bytes_l0))) (.seq (.seq (.reg lodgeref17_Bytes_r6) (.cond (.t 52) (.seq (.reg lodgeref17_Bytes_r7) .ret) .skip)) (.seq (.reg lodgeref17_Bytes_r8) (.seq (.seq (.reg lodgeref17_Bytes_r9) (.block 2 (.loop lodgeref17_Bytes_l3))) (.seq (.seq (.reg lodgeref17_Bytes_r22) (.cond (.t 115) (.seq (.reg lodgeref17_Bytes_r23) .ret) .skip)) (.seq (.seq (.reg lodgeref17_Bytes_r24) (.block 8 (.loop lodgeref17_Bytes_l4))) (.seq (.reg lodgeref17_Bytes_r31) (.seq (.seq (.reg lodgeref17_Bytes_r32) (.block 10 (.loop lodgeref17_Bytes_l7))) (.seq (.reg lodgeref17_Bytes_r49) .ret)))))))))))
abbrev F_lodgeref17_Bytes : Nat := 25
theorem lodgeref17_Bytes_call {G : Nat → Option Value} {pre : List AV} {res : AV} (hsz : decide (pre.length ≤ 252) = true) (h : AW pg G 252 lodgeref17_Bytes_c (endR [(.tmp 2), (.cells 3 3)] res) (St.init pre)) : ACalls pg G F_lodgeref17_Bytes pre res :=
  ACalls.of_walk (fn := Go.Proofs.Tryd.f25) (vs := [(ResultVar.tmp 2), (ResultVar.cell 3 30)]) (ic := lodgeref17_Bytes_c) (by kernel_rfl) (by kernel_rfl) rfl (by kernel_rfl) (by kernel_rfl) (of_decide_eq_true (by kernel_rfl)) (by kernel_rfl) (by kernel_rfl) (by kernel_rfl) (of_decide_eq_true hsz) h
@[go_sem] theorem lodgeref17_Bytes_fnB : fnB pg 25 = true := by kernel_rfl

/-! F27 lodge/lodgeref17.Uses -/
@[go_sem] def lodgeref17_Uses_r0 : List AO := [⟨(some 1), .op (.box 41 2 (.t 0)), none⟩,
  ⟨(some 2), .op (.asg (.nl 1)), none⟩]
@[go_sem] def lodgeref17_Uses_r1 : List AO := [⟨(some 7), .op (.faddr 41 0 (.t 1) 0), none⟩,
  ⟨(some 8), .op (.load 39 none (.t 7)), none⟩,
  ⟨(some 9), .op (.len 39 false (.t 8)), none⟩,
  ⟨(some 10), .op (.mks 22 24 1 24 [.own 1 0 []] (.t 9) (.t 9)), none⟩,
  ⟨(some 3), .op (.asg (.t 10)), none⟩]
@[go_sem] def lodgeref17_Uses_r2 : List AO := [⟨(some 4), .op (.asg (.c (.int .i64 (0)))), none⟩]
@[go_sem] def lodgeref17_Uses_r3 : List AO := [⟨(some 11), .op (.mv (.t 4)), none⟩,
  ⟨(some 12), .op (.faddr 41 0 (.t 1) 0), none⟩,
  ⟨(some 13), .op (.load 39 none (.t 12)), none⟩,
  ⟨(some 14), .op (.len 39 false (.t 13)), none⟩,
  ⟨(some 15), .op (.bin .lss 3 0 (.t 11) (.t 14) 3), none⟩]
@[go_sem] def lodgeref17_Uses_r5 : List AO := [⟨(some 5), .op (.asg (.c (.int .i64 (0)))), none⟩]
@[go_sem] def lodgeref17_Uses_r6 : List AO := [⟨(some 18), .op (.mv (.t 5)), none⟩,
  ⟨(some 19), .op (.faddr 41 0 (.t 1) 0), none⟩,
  ⟨(some 20), .op (.load 39 none (.t 19)), none⟩,
  ⟨(some 21), .op (.mv (.t 4)), none⟩,
  ⟨(some 22), .op (.iaddr 39 6 (.t 20) (.t 21)), none⟩,
  ⟨(some 23), .op (.faddr 58 1 (.t 22) 1), none⟩,
  ⟨(some 24), .op (.load 24 none (.t 23)), none⟩,
  ⟨(some 25), .op (.len 24 false (.t 24)), none⟩,
  ⟨(some 26), .op (.bin .lss 3 0 (.t 18) (.t 25) 3), none⟩]
@[go_sem] def lodgeref17_Uses_r8 : List AO := [⟨(some 29), .op (.faddr 41 0 (.t 1) 0), none⟩,
  ⟨(some 30), .op (.load 39 none (.t 29)), none⟩,
  ⟨(some 31), .op (.mv (.t 4)), none⟩,
  ⟨(some 32), .op (.iaddr 39 6 (.t 30) (.t 31)), none⟩,
  ⟨(some 33), .op (.faddr 58 1 (.t 32) 1), none⟩,
  ⟨(some 34), .op (.load 24 none (.t 33)), none⟩,
  ⟨(some 35), .op (.mv (.t 5)), none⟩,
  ⟨(some 36), .op (.iaddr 24 1 (.t 34) (.t 35)), none⟩,
  ⟨(some 37), .op (.load 3 none (.t 36)), none⟩,
  ⟨(some 6), .op (.asg (.t 37)), none⟩]
@[go_sem] def lodgeref17_Uses_r9 : List AO := [⟨(some 38), .op (.mv (.t 6)), none⟩,
  ⟨(some 39), .op (.bin .geq 3 0 (.t 38) (.c (.int .i64 (0))) 3), none⟩,
  ⟨(some 40), .op (.mv (.t 39)), none⟩,
  ⟨(some 41), .op (.mv (.t 6)), (some (2, 40, true))⟩,
  ⟨(some 42), .op (.mv (.t 3)), (some (2, 40, true))⟩,
  ⟨(some 43), .op (.len 22 false (.t 42)), (some (2, 40, true))⟩,
  ⟨(some 44), .op (.bin .lss 3 0 (.t 41) (.t 43) 3), (some (2, 40, true))⟩,
  ⟨(some 45), .op (.pick (.t 40) (.t 44) (.c (.bool false))), none⟩,
  ⟨(some 46), .op (.mv (.t 45)), none⟩,
  ⟨(some 47), .op (.mv (.t 3)), (some (8, 46, true))⟩,
  ⟨(some 48), .op (.mv (.t 6)), (some (8, 46, true))⟩,
  ⟨(some 49), .op (.iaddr 22 1 (.t 47) (.t 48)), (some (8, 46, true))⟩,
  ⟨(some 50), .op (.load 24 none (.t 49)), (some (8, 46, true))⟩,
  ⟨(some 51), .op (.mv (.t 4)), (some (8, 46, true))⟩,
  ⟨(some 52), .call 31 [(false, (.t 50)), (false, (.t 51))] [24, 3], (some (8, 46, true))⟩,
  ⟨(some 53), .op (.un .not 4 (.t 52)), (some (8, 46, true))⟩,
  ⟨(some 54), .op (.pick (.t 46) (.t 53) (.c (.bool false))), none⟩]
@[go_sem] def lodgeref17_Uses_r10 : List AO := [⟨(some 55), .op (.mv (.t 3)), none⟩,
  ⟨(some 56), .op (.mv (.t 6)), none⟩,
  ⟨(some 57), .op (.mv (.t 3)), none⟩,
  ⟨(some 58), .op (.mv (.t 6)), none⟩,
  ⟨(some 59), .op (.iaddr 22 1 (.t 57) (.t 58)), none⟩,
  ⟨(some 60), .op (.load 24 none (.t 59)), none⟩,
  ⟨(some 61), .op (.mv (.t 4)), none⟩,
  ⟨(some 62), .op (.bslice 24 3 1 1 [.lit (.int .i64 0)] [(0, (.t 61))]), none⟩,
  ⟨(some 63), .op (.app 24 3 1 8 (.t 60) (.t 62)), none⟩,
  ⟨(some 64), .op (.iaddr 22 1 (.t 55) (.t 56)), none⟩,
  ⟨none, .op (.store 24 1 (.t 64) (.t 63)), none⟩]
@[go_sem] def lodgeref17_Uses_r7 : List AO := [⟨(some 27), .op (.mv (.t 5)), none⟩,
  ⟨(some 28), .op (.bin .add 3 0 (.t 27) (.c (.int .i64 (1))) 3), none⟩,
  ⟨(some 5), .op (.asg (.t 28)), none⟩]
def lodgeref17_Uses_l0 : IC := (.seq (.seq (.reg lodgeref17_Uses_r6) (.cond (.t 26) .skip (.exit 2))) (.seq (.block 3 (.seq (.reg lodgeref17_Uses_r8) (.seq (.reg lodgeref17_Uses_r9) (.cond (.t 54) (.reg lodgeref17_Uses_r10) .skip)))) (.reg lodgeref17_Uses_r7)))
@[go_sem] def lodgeref17_Uses_r4 : List AO := [⟨(some 16), .op (.mv (.t 4)), none⟩,
  ⟨(some 17), .op (.bin .add 3 0 (.t 16) (.c (.int .i64 (1))) 3), none⟩,
  ⟨(some 4), .op (.asg (.t 17)), none⟩]
def lodgeref17_Uses_l1 : IC := (.seq (.seq (.reg lodgeref17_Uses_r3) (.cond (.t 15) .skip (.exit 0))) (.seq (.block 1 (.seq (.reg lodgeref17_Uses_r5) (.block 2 (.loop lodgeref17_Uses_l0)))) (.reg lodgeref17_Uses_r4)))
@[go_sem] def lodgeref17_Uses_r11 : List AO := [⟨(some 65), .op (.mv (.t 3)), none⟩,
  ⟨(some 2), .op (.asg (.t 65)), none⟩]
def lodgeref17_Uses_c : IC := (.seq (.reg lodgeref17_Uses_r0) (.seq (.reg lodgeref17_Uses_r1) (.seq (.seq (.reg lodgeref17_Uses_r2) (.block 0 (.loop lodgeref17_Uses_l1))) (.seq (.reg lodgeref17_Uses_r11) .ret))))
abbrev F_lodgeref17_Uses : Nat := 27
theorem lodgeref17_Uses_call {G : Nat → Option Value} {pre : List AV} {res : AV} (hsz : decide (pre.length ≤ 66) = true) (h : AW pg G 66 lodgeref17_Uses_c (endR [(.tmp 2)] res) (St.init pre)) : ACalls pg G F_lodgeref17_Uses pre res :=
  ACalls.of_walk (fn := Go.Proofs.Tryd.f27) (vs := [(ResultVar.tmp 2)]) (ic := lodgeref17_Uses_c) (by kernel_rfl) (by kernel_rfl) rfl (by kernel_rfl) (by kernel_rfl) (of_decide_eq_true (by kernel_rfl)) (by kernel_rfl) (by kernel_rfl) (by kernel_rfl) (of_decide_eq_true hsz) h
@[go_sem] theorem lodgeref17_Uses_fnB : fnB pg 27 = true := by kernel_rfl

/-! F28 lodge/lodgeref.SameGraph -/
@[go_sem] def lodgeref_SameGraph_r0 : List AO := [⟨(some 2), .op (.box 41 2 (.t 0)), none⟩,
  ⟨(some 3), .op (.box 41 2 (.t 1)), none⟩,
  ⟨(some 4), .op (.asg (.c (.bool false))), none⟩]
@[go_sem] def lodgeref_SameGraph_r1 : List AO := [⟨(some 6), .op (.faddr 41 0 (.t 2) 0), none⟩,
  ⟨(some 7), .op (.load 39 none (.t 6)), none⟩,
  ⟨(some 8), .op (.faddr 41 0 (.t 3) 0), none⟩,
  ⟨(some 9), .op (.load 39 none (.t 8)), none⟩,
  ⟨(some 10), .call 63 [(false, (.t 7)), (false, (.t 9))] [39, 39], none⟩,
  ⟨(some 5), .op (.asg (.t 10)), none⟩]
@[go_sem] def lodgeref_SameGraph_r2 : List AO := [⟨(some 11), .op (.mv (.t 5)), none⟩,
  ⟨(some 12), .op (.mv (.t 11)), none⟩,
  ⟨(some 13), .op (.faddr 41 1 (.t 2) 1), (some (1, 12, true))⟩,
  ⟨(some 14), .op (.load 3 none (.t 13)), (some (1, 12, true))⟩,
  ⟨(some 15), .op (.faddr 41 1 (.t 3) 1), (some (1, 12, true))⟩,
  ⟨(some 16), .op (.load 3 none (.t 15)), (some (1, 12, true))⟩,
  ⟨(some 17), .op (.bin .eql 3 0 (.t 14) (.t 16) 3), (some (1, 12, true))⟩,
  ⟨(some 18), .op (.pick (.t 12) (.t 17) (.c (.bool false))), none⟩,
  ⟨(some 4), .op (.asg (.t 18)), none⟩]
def lodgeref_SameGraph_c : IC := (.seq (.reg lodgeref_SameGraph_r0) (.seq (.reg lodgeref_SameGraph_r1) (.seq (.reg lodgeref_SameGraph_r2) .ret)))
abbrev F_lodgeref_SameGraph : Nat := 28
theorem lodgeref_SameGraph_call {G : Nat → Option Value} {pre : List AV} {res : AV} (hsz : decide (pre.length ≤ 19) = true) (h : AW pg G 19 lodgeref_SameGraph_c (endR [(.tmp 4)] res) (St.init pre)) : ACalls pg G F_lodgeref_SameGraph pre res :=
  ACalls.of_walk (fn := Go.Proofs.Tryd.f28) (vs := [(ResultVar.tmp 4)]) (ic := lodgeref_SameGraph_c) (by kernel_rfl) (by kernel_rfl) rfl (by kernel_rfl) (by kernel_rfl) (of_decide_eq_true (by kernel_rfl)) (by kernel_rfl) (by kernel_rfl) (by kernel_rfl) (of_decide_eq_true hsz) h
@[go_sem] theorem lodgeref_SameGraph_fnB : fnB pg 28 = true := by kernel_rfl

/-! F29 lodge/lodgeref.SameBytes -/
@[go_sem] def lodgeref_SameBytes_r0 : List AO := [⟨(some 4), .op (.asg (.c (.bool false))), none⟩]
@[go_sem] def lodgeref_SameBytes_r1 : List AO := [⟨(some 7), .op (.mv (.t 0)), none⟩,
  ⟨(some 8), .op (.len 44 false (.t 7)), none⟩,
  ⟨(some 9), .op (.mv (.t 1)), none⟩,
  ⟨(some 10), .op (.len 44 false (.t 9)), none⟩,
  ⟨(some 11), .op (.bin .neq 3 0 (.t 8) (.t 10) 3), none⟩]
@[go_sem] def lodgeref_SameBytes_r2 : List AO := [⟨(some 4), .op (.asg (.c (.bool false))), none⟩]
@[go_sem] def lodgeref_SameBytes_r3 : List AO := [⟨(some 5), .op (.asg (.c (.int .i64 (0)))), none⟩]
@[go_sem] def lodgeref_SameBytes_r4 : List AO := [⟨(some 12), .op (.mv (.t 5)), none⟩,
  ⟨(some 13), .op (.mv (.t 0)), none⟩,
  ⟨(some 14), .op (.len 44 false (.t 13)), none⟩,
  ⟨(some 15), .op (.bin .lss 3 0 (.t 12) (.t 14) 3), none⟩]
@[go_sem] def lodgeref_SameBytes_r6 : List AO := [⟨(some 18), .op (.mv (.t 0)), none⟩,
  ⟨(some 19), .op (.mv (.t 5)), none⟩,
  ⟨(some 20), .op (.iaddr 44 1 (.t 18) (.t 19)), none⟩,
  ⟨(some 21), .op (.load 5 none (.t 20)), none⟩,
  ⟨(some 22), .op (.mv (.t 1)), none⟩,
  ⟨(some 23), .op (.mv (.t 5)), none⟩,
  ⟨(some 24), .op (.iaddr 44 1 (.t 22) (.t 23)), none⟩,
  ⟨(some 25), .op (.load 5 none (.t 24)), none⟩,
  ⟨(some 26), .op (.bin .eql 5 0 (.t 21) (.t 25) 5), none⟩,
  ⟨(some 6), .op (.asg (.t 26)), none⟩]
@[go_sem] def lodgeref_SameBytes_r7 : List AO := [⟨(some 27), .op (.mv (.t 6)), none⟩,
  ⟨(some 28), .op (.un .not 4 (.t 27)), none⟩]
@[go_sem] def lodgeref_SameBytes_r8 : List AO := [⟨(some 4), .op (.asg (.c (.bool false))), none⟩]
@[go_sem] def lodgeref_SameBytes_r5 : List AO := [⟨(some 16), .op (.mv (.t 5)), none⟩,
  ⟨(some 17), .op (.bin .add 3 0 (.t 16) (.c (.int .i64 (1))) 3), none⟩,
  ⟨(some 5), .op (.asg (.t 17)), none⟩]
def lodgeref_SameBytes_l0 : IC := (.seq (.seq (.reg lodgeref_SameBytes_r4) (.cond (.t 15) .skip (.exit 0))) (.seq (.block 1 (.seq (.draw lodgeref_SameBytes_r6 [[], [], [0, 1], [2], [], [], [4, 5], [6], [3, 7], [8, 0, 1, 2, 3, 4, 5, 6, 7, 8]]) (.seq (.reg lodgeref_SameBytes_r7) (.cond (.t 28) (.seq (.reg lodgeref_SameBytes_r8) .ret) .skip)))) (.reg lodgeref_SameBytes_r5)))
@[go_sem] def lodgeref_SameBytes_r9 : List AO := [⟨(some 4), .op (.asg (.c (.bool true))), none⟩]
def lodgeref_SameBytes_c : IC := (.seq (.reg lodgeref_SameBytes_r0) (.seq (.seq (.reg lodgeref_SameBytes_r1) (.cond (.t 11) (.seq (.reg lodgeref_SameBytes_r2) .ret) .skip)) (.seq (.seq (.reg lodgeref_SameBytes_r3) (.block 0 (.loop lodgeref_SameBytes_l0))) (.seq (.reg lodgeref_SameBytes_r9) .ret))))
abbrev F_lodgeref_SameBytes : Nat := 29
theorem lodgeref_SameBytes_call {G : Nat → Option Value} {pre : List AV} {res : AV} (hsz : decide (pre.length ≤ 29) = true) (h : AW pg G 29 lodgeref_SameBytes_c (endR [(.tmp 4)] res) (St.init pre)) : ACalls pg G F_lodgeref_SameBytes pre res :=
  ACalls.of_walk (fn := Go.Proofs.Tryd.f29) (vs := [(ResultVar.tmp 4)]) (ic := lodgeref_SameBytes_c) (by kernel_rfl) (by kernel_rfl) rfl (by kernel_rfl) (by kernel_rfl) (of_decide_eq_true (by kernel_rfl)) (by kernel_rfl) (by kernel_rfl) (by kernel_rfl) (of_decide_eq_true hsz) h
@[go_sem] theorem lodgeref_SameBytes_fnB : fnB pg 29 = true := by kernel_rfl

/-! F45 lodge/lodgeref.SameDesc -/
@[go_sem] def lodgeref_SameDesc_r0 : List AO := [⟨(some 2), .op (.box 54 2 (.t 0)), none⟩,
  ⟨(some 3), .op (.box 54 2 (.t 1)), none⟩,
  ⟨(some 4), .op (.asg (.c (.bool false))), none⟩]
@[go_sem] def lodgeref_SameDesc_r1 : List AO := [⟨(some 6), .op (.faddr 54 0 (.t 2) 0), none⟩,
  ⟨(some 7), .op (.load 24 none (.t 6)), none⟩,
  ⟨(some 8), .op (.faddr 54 0 (.t 3) 0), none⟩,
  ⟨(some 9), .op (.load 24 none (.t 8)), none⟩,
  ⟨(some 10), .call 17 [(false, (.t 7)), (false, (.t 9))] [24, 24], none⟩,
  ⟨(some 5), .op (.asg (.t 10)), none⟩]
@[go_sem] def lodgeref_SameDesc_r2 : List AO := [⟨(some 11), .op (.mv (.t 5)), none⟩,
  ⟨(some 12), .op (.mv (.t 11)), none⟩,
  ⟨(some 13), .op (.faddr 54 1 (.t 2) 1), (some (1, 12, true))⟩,
  ⟨(some 14), .op (.load 4 none (.t 13)), (some (1, 12, true))⟩,
  ⟨(some 15), .op (.faddr 54 1 (.t 3) 1), (some (1, 12, true))⟩,
  ⟨(some 16), .op (.load 4 none (.t 15)), (some (1, 12, true))⟩,
  ⟨(some 17), .op (.bin .eql 4 1 (.t 14) (.t 16) 4), (some (1, 12, true))⟩,
  ⟨(some 18), .op (.pick (.t 12) (.t 17) (.c (.bool false))), none⟩,
  ⟨(some 4), .op (.asg (.t 18)), none⟩]
def lodgeref_SameDesc_c : IC := (.seq (.reg lodgeref_SameDesc_r0) (.seq (.reg lodgeref_SameDesc_r1) (.seq (.reg lodgeref_SameDesc_r2) .ret)))
abbrev F_lodgeref_SameDesc : Nat := 45
theorem lodgeref_SameDesc_call {G : Nat → Option Value} {pre : List AV} {res : AV} (hsz : decide (pre.length ≤ 19) = true) (h : AW pg G 19 lodgeref_SameDesc_c (endR [(.tmp 4)] res) (St.init pre)) : ACalls pg G F_lodgeref_SameDesc pre res :=
  ACalls.of_walk (fn := Go.Proofs.Tryd.f45) (vs := [(ResultVar.tmp 4)]) (ic := lodgeref_SameDesc_c) (by kernel_rfl) (by kernel_rfl) rfl (by kernel_rfl) (by kernel_rfl) (of_decide_eq_true (by kernel_rfl)) (by kernel_rfl) (by kernel_rfl) (by kernel_rfl) (of_decide_eq_true hsz) h
@[go_sem] theorem lodgeref_SameDesc_fnB : fnB pg 45 = true := by kernel_rfl

/-! F50 lodge/lodgeworld.Tensor -/
@[go_sem] def lodgeworld_Tensor_r0 : List AO := [⟨(some 2), .op (.box 56 3 (.t 0)), none⟩,
  ⟨(some 4), .op (.asg (.c (.bool false))), none⟩]
@[go_sem] def lodgeworld_Tensor_r1 : List AO := [⟨(some 5), .op (.faddr 56 0 (.t 2) 0), none⟩,
  ⟨(some 6), .op (.load 54 (some 2) (.t 5)), none⟩,
  ⟨(some 7), .call 65 [(false, (.t 6))] [54], none⟩,
  ⟨(some 8), .op (.mv (.t 7)), none⟩,
  ⟨(some 9), .op (.faddr 56 2 (.t 2) 1), (some (3, 8, true))⟩,
  ⟨(some 10), .op (.load 24 none (.t 9)), (some (3, 8, true))⟩,
  ⟨(some 11), .op (.len 24 false (.t 10)), (some (3, 8, true))⟩,
  ⟨(some 12), .op (.mv (.t 1)), (some (3, 8, true))⟩,
  ⟨(some 13), .op (.bin .leq 3 0 (.t 11) (.t 12) 3), (some (3, 8, true))⟩,
  ⟨(some 14), .op (.pick (.t 8) (.t 13) (.c (.bool false))), none⟩,
  ⟨(some 4), .op (.asg (.t 14)), none⟩]
def lodgeworld_Tensor_c : IC := (.seq (.reg lodgeworld_Tensor_r0) (.seq (.reg lodgeworld_Tensor_r1) .ret))
abbrev F_lodgeworld_Tensor : Nat := 50
theorem lodgeworld_Tensor_call {G : Nat → Option Value} {pre : List AV} {res : AV} (hsz : decide (pre.length ≤ 15) = true) (h : AW pg G 15 lodgeworld_Tensor_c (endR [(.tmp 4)] res) (St.init pre)) : ACalls pg G F_lodgeworld_Tensor pre res :=
  ACalls.of_walk (fn := Go.Proofs.Tryd.f50) (vs := [(ResultVar.tmp 4)]) (ic := lodgeworld_Tensor_c) (by kernel_rfl) (by kernel_rfl) rfl (by kernel_rfl) (by kernel_rfl) (of_decide_eq_true (by kernel_rfl)) (by kernel_rfl) (by kernel_rfl) (by kernel_rfl) (of_decide_eq_true hsz) h
@[go_sem] theorem lodgeworld_Tensor_fnB : fnB pg 50 = true := by kernel_rfl

/-! F51 lodge/lodgeref.Nodes -/
@[go_sem] def lodgeref_Nodes_r0 : List AO := [⟨(some 2), .op (.asg (.nl 6)), none⟩]
@[go_sem] def lodgeref_Nodes_r1 : List AO := [⟨(some 5), .op (.mv (.t 0)), none⟩,
  ⟨(some 6), .op (.len 39 false (.t 5)), none⟩,
  ⟨(some 7), .op (.mks 39 58 6 112 [.lit (.int .i64 0), .own 1 0 [], .own 1 0 [], .own 1 0 [], .lit (.bool false), .own 1 0 []] (.c (.int .i64 (0))) (.t 6)), none⟩,
  ⟨(some 3), .op (.asg (.t 7)), none⟩]
@[go_sem] def lodgeref_Nodes_r2 : List AO := [⟨(some 4), .op (.asg (.c (.int .i64 (0)))), none⟩]
@[go_sem] def lodgeref_Nodes_r3 : List AO := [⟨(some 8), .op (.mv (.t 4)), none⟩,
  ⟨(some 9), .op (.mv (.t 0)), none⟩,
  ⟨(some 10), .op (.len 39 false (.t 9)), none⟩,
  ⟨(some 11), .op (.bin .lss 3 0 (.t 8) (.t 10) 3), none⟩]
@[go_sem] def lodgeref_Nodes_r5 : List AO := [⟨(some 14), .op (.mv (.t 3)), none⟩,
  ⟨(some 15), .op (.mv (.t 0)), none⟩,
  ⟨(some 16), .op (.mv (.t 4)), none⟩,
  ⟨(some 17), .op (.iaddr 39 6 (.t 15) (.t 16)), none⟩,
  ⟨(some 18), .op (.load 58 (some 6) (.t 17)), none⟩,
  ⟨(some 19), .call 100 [(false, (.t 18))] [58], none⟩,
  ⟨(some 20), .op (.bslice 39 58 6 1 [.lit (.int .i64 0), .own 1 0 [], .own 1 0 [], .own 1 0 [], .lit (.bool false), .own 1 0 []] [(0, (.t 19))]), none⟩,
  ⟨(some 21), .op (.app 39 58 6 112 (.t 14) (.t 20)), none⟩,
  ⟨(some 3), .op (.asg (.t 21)), none⟩]
@[go_sem] def lodgeref_Nodes_r4 : List AO := [⟨(some 12), .op (.mv (.t 4)), none⟩,
  ⟨(some 13), .op (.bin .add 3 0 (.t 12) (.c (.int .i64 (1))) 3), none⟩,
  ⟨(some 4), .op (.asg (.t 13)), none⟩]
def lodgeref_Nodes_l0 : IC := (.seq (.seq (.reg lodgeref_Nodes_r3) (.cond (.t 11) .skip (.exit 0))) (.seq (.block 1 (.reg lodgeref_Nodes_r5)) (.reg lodgeref_Nodes_r4)))
@[go_sem] def lodgeref_Nodes_r6 : List AO := [⟨(some 22), .op (.mv (.t 3)), none⟩,
  ⟨(some 2), .op (.asg (.t 22)), none⟩]
def lodgeref_Nodes_c : IC := (.seq (.reg lodgeref_Nodes_r0) (.seq (.reg lodgeref_Nodes_r1) (.seq (.seq (.reg lodgeref_Nodes_r2) (.block 0 (.loop lodgeref_Nodes_l0))) (.seq (.reg lodgeref_Nodes_r6) .ret))))
abbrev F_lodgeref_Nodes : Nat := 51
theorem lodgeref_Nodes_call {G : Nat → Option Value} {pre : List AV} {res : AV} (hsz : decide (pre.length ≤ 23) = true) (h : AW pg G 23 lodgeref_Nodes_c (endR [(.tmp 2)] res) (St.init pre)) : ACalls pg G F_lodgeref_Nodes pre res :=
  ACalls.of_walk (fn := Go.Proofs.Tryd.f51) (vs := [(ResultVar.tmp 2)]) (ic := lodgeref_Nodes_c) (by kernel_rfl) (by kernel_rfl) rfl (by kernel_rfl) (by kernel_rfl) (of_decide_eq_true (by kernel_rfl)) (by kernel_rfl) (by kernel_rfl) (by kernel_rfl) (of_decide_eq_true hsz) h
@[go_sem] theorem lodgeref_Nodes_fnB : fnB pg 51 = true := by kernel_rfl

/-! F58 lodge/lodgeref17.count -/
@[go_sem] def lodgeref17_count_r0 : List AO := [⟨(some 2), .op (.asg (.c (.bool false))), none⟩]
@[go_sem] def lodgeref17_count_r1 : List AO := [⟨(some 3), .op (.mv (.t 0)), none⟩,
  ⟨(some 4), .op (.bin .geq 3 0 (.t 3) (.c (.int .i64 (0))) 3), none⟩,
  ⟨(some 5), .op (.mv (.t 4)), none⟩,
  ⟨(some 6), .op (.mv (.t 0)), (some (2, 5, true))⟩,
  ⟨(some 7), .op (.bin .leq 3 0 (.t 6) (.c (.int .i64 (65535))) 3), (some (2, 5, true))⟩,
  ⟨(some 8), .op (.pick (.t 5) (.t 7) (.c (.bool false))), none⟩,
  ⟨(some 2), .op (.asg (.t 8)), none⟩]
def lodgeref17_count_c : IC := (.seq (.reg lodgeref17_count_r0) (.seq (.reg lodgeref17_count_r1) .ret))
abbrev F_lodgeref17_count : Nat := 58
theorem lodgeref17_count_call {G : Nat → Option Value} {pre : List AV} {res : AV} (hsz : decide (pre.length ≤ 9) = true) (h : AW pg G 9 lodgeref17_count_c (endR [(.tmp 2)] res) (St.init pre)) : ACalls pg G F_lodgeref17_count pre res :=
  ACalls.of_walk (fn := Go.Proofs.Tryd.f58) (vs := [(ResultVar.tmp 2)]) (ic := lodgeref17_count_c) (by kernel_rfl) (by kernel_rfl) rfl (by kernel_rfl) (by kernel_rfl) (of_decide_eq_true (by kernel_rfl)) (by kernel_rfl) (by kernel_rfl) (by kernel_rfl) (of_decide_eq_true hsz) h
@[go_sem] theorem lodgeref17_count_fnB : fnB pg 58 = true := by kernel_rfl

/-! F59 lodge/lodgeref17.wide -/
@[go_sem] def lodgeref17_wide_r0 : List AO := [⟨(some 2), .op (.asg (.c (.bool false))), none⟩]
@[go_sem] def lodgeref17_wide_r1 : List AO := [⟨(some 3), .op (.mv (.t 0)), none⟩,
  ⟨(some 4), .op (.bin .geq 3 0 (.t 3) (.c (.int .i64 (-2147483648))) 3), none⟩,
  ⟨(some 5), .op (.mv (.t 4)), none⟩,
  ⟨(some 6), .op (.mv (.t 0)), (some (2, 5, true))⟩,
  ⟨(some 7), .op (.bin .leq 3 0 (.t 6) (.c (.int .i64 (2147483647))) 3), (some (2, 5, true))⟩,
  ⟨(some 8), .op (.pick (.t 5) (.t 7) (.c (.bool false))), none⟩,
  ⟨(some 2), .op (.asg (.t 8)), none⟩]
def lodgeref17_wide_c : IC := (.seq (.reg lodgeref17_wide_r0) (.seq (.reg lodgeref17_wide_r1) .ret))
abbrev F_lodgeref17_wide : Nat := 59
theorem lodgeref17_wide_call {G : Nat → Option Value} {pre : List AV} {res : AV} (hsz : decide (pre.length ≤ 9) = true) (h : AW pg G 9 lodgeref17_wide_c (endR [(.tmp 2)] res) (St.init pre)) : ACalls pg G F_lodgeref17_wide pre res :=
  ACalls.of_walk (fn := Go.Proofs.Tryd.f59) (vs := [(ResultVar.tmp 2)]) (ic := lodgeref17_wide_c) (by kernel_rfl) (by kernel_rfl) rfl (by kernel_rfl) (by kernel_rfl) (of_decide_eq_true (by kernel_rfl)) (by kernel_rfl) (by kernel_rfl) (by kernel_rfl) (of_decide_eq_true hsz) h
@[go_sem] theorem lodgeref17_wide_fnB : fnB pg 59 = true := by kernel_rfl

/-! F60 lodge/lodgeref3.Valid -/
@[go_sem] def lodgeref3_Valid_r0 : List AO := [⟨(some 1), .op (.box 56 3 (.t 0)), none⟩,
  ⟨(some 2), .op (.alloc 30 [.lit (.int .i64 0), .lit (.bool false), .lit (.int .i64 0)]), none⟩]
@[go_sem] def lodgeref3_Valid_r1 : List AO := [⟨(some 5), .op (.faddr 56 0 (.t 1) 0), none⟩,
  ⟨(some 6), .op (.load 54 (some 2) (.t 5)), none⟩,
  ⟨(some 7), .call 110 [(false, (.t 6))] [54], none⟩,
  ⟨(some 3), .op (.asg (.t 7)), none⟩]
@[go_sem] def lodgeref3_Valid_r2 : List AO := [⟨(some 8), .op (.mv (.t 3)), none⟩,
  ⟨(some 9), .op (.bin .neq 3 0 (.t 8) (.c (.int .i64 (0))) 3), none⟩]
@[go_sem] def lodgeref3_Valid_r3 : List AO := [⟨(some 10), .op (.mv (.t 3)), none⟩,
  ⟨(some 11), .call 57 [(false, (.t 10))] [3], none⟩,
  ⟨none, .op (.store 30 3 (.t 2) (.t 11)), none⟩]
@[go_sem] def lodgeref3_Valid_r4 : List AO := [⟨(some 12), .op (.faddr 56 2 (.t 1) 1), none⟩,
  ⟨(some 13), .op (.load 24 none (.t 12)), none⟩,
  ⟨(some 14), .op (.len 24 false (.t 13)), none⟩,
  ⟨(some 15), .op (.faddr 56 0 (.t 1) 0), none⟩,
  ⟨(some 16), .op (.faddr 54 0 (.t 15) 0), none⟩,
  ⟨(some 17), .op (.load 24 none (.t 16)), none⟩,
  ⟨(some 18), .call 111 [(false, (.t 17))] [24], none⟩,
  ⟨(some 19), .op (.bin .neq 3 0 (.t 14) (.t 18) 3), none⟩]
@[go_sem] def lodgeref3_Valid_r5 : List AO := [⟨(some 20), .call 57 [(false, (.c (.int .i64 (101))))] [3], none⟩,
  ⟨none, .op (.store 30 3 (.t 2) (.t 20)), none⟩]
@[go_sem] def lodgeref3_Valid_r6 : List AO := [⟨(some 4), .op (.asg (.c (.int .i64 (0)))), none⟩]
@[go_sem] def lodgeref3_Valid_r7 : List AO := [⟨(some 21), .op (.mv (.t 4)), none⟩,
  ⟨(some 22), .op (.faddr 56 2 (.t 1) 1), none⟩,
  ⟨(some 23), .op (.load 24 none (.t 22)), none⟩,
  ⟨(some 24), .op (.len 24 false (.t 23)), none⟩,
  ⟨(some 25), .op (.bin .lss 3 0 (.t 21) (.t 24) 3), none⟩]
@[go_sem] def lodgeref3_Valid_r9 : List AO := [⟨(some 28), .op (.faddr 56 2 (.t 1) 1), none⟩,
  ⟨(some 29), .op (.load 24 none (.t 28)), none⟩,
  ⟨(some 30), .op (.mv (.t 4)), none⟩,
  ⟨(some 31), .op (.iaddr 24 1 (.t 29) (.t 30)), none⟩,
  ⟨(some 32), .op (.load 3 none (.t 31)), none⟩,
  ⟨(some 33), .op (.faddr 56 0 (.t 1) 0), none⟩,
  ⟨(some 34), .op (.faddr 54 1 (.t 33) 1), none⟩,
  ⟨(some 35), .op (.load 4 none (.t 34)), none⟩,
  ⟨(some 36), .call 112 [(false, (.t 32)), (false, (.t 35))] [3, 4], none⟩,
  ⟨(some 37), .op (.un .not 4 (.t 36)), none⟩]
@[go_sem] def lodgeref3_Valid_r10 : List AO := [⟨(some 38), .op (.mv (.t 4)), none⟩,
  ⟨(some 39), .call 20 [(false, (.c (.int .i64 (102)))), (false, (.t 38))] [3, 3], none⟩,
  ⟨none, .op (.store 30 3 (.t 2) (.t 39)), none⟩]
@[go_sem] def lodgeref3_Valid_r8 : List AO := [⟨(some 26), .op (.mv (.t 4)), none⟩,
  ⟨(some 27), .op (.bin .add 3 0 (.t 26) (.c (.int .i64 (1))) 3), none⟩,
  ⟨(some 4), .op (.asg (.t 27)), none⟩]
def lodgeref3_Valid_l0 : IC := (.seq (.seq (.reg lodgeref3_Valid_r7) (.cond (.t 25) .skip (.exit 0))) (.seq (.block 1 (.seq (.draw lodgeref3_Valid_r9 [[], [0], [], [1, 2], [3], [], [5], [6], [4, 7], [8]]) (.cond (.t 37) (.seq (.reg lodgeref3_Valid_r10) .ret) .skip))) (.reg lodgeref3_Valid_r8)))
@[go_sem] def lodgeref3_Valid_r11 : List AO := [⟨(some 40), .call 47 [] [], none⟩,
  ⟨none, .op (.store 30 3 (.t 2) (.t 40)), none⟩]
def lodgeref3_Valid_c : IC := (.seq (.reg lodgeref3_Valid_r0) (.seq (.reg lodgeref3_Valid_r1) (.seq (.seq (.reg lodgeref3_Valid_r2) (.cond (.t 9) (.seq (.reg lodgeref3_Valid_r3) .ret) .skip)) (.seq (.seq (.draw lodgeref3_Valid_r4 [[], [0], [1], [], [3], [4], [5], [2, 6]]) (.cond (.t 19) (.seq (.reg lodgeref3_Valid_r5) .ret) .skip)) (.seq (.seq (.reg lodgeref3_Valid_r6) (.block 0 (.loop lodgeref3_Valid_l0))) (.seq (.reg lodgeref3_Valid_r11) .ret))))))
abbrev F_lodgeref3_Valid : Nat := 60
theorem lodgeref3_Valid_call {G : Nat → Option Value} {pre : List AV} {res : AV} (hsz : decide (pre.length ≤ 41) = true) (h : AW pg G 41 lodgeref3_Valid_c (endR [(.cells 2 3)] res) (St.init pre)) : ACalls pg G F_lodgeref3_Valid pre res :=
  ACalls.of_walk (fn := Go.Proofs.Tryd.f60) (vs := [(ResultVar.cell 2 30)]) (ic := lodgeref3_Valid_c) (by kernel_rfl) (by kernel_rfl) rfl (by kernel_rfl) (by kernel_rfl) (of_decide_eq_true (by kernel_rfl)) (by kernel_rfl) (by kernel_rfl) (by kernel_rfl) (of_decide_eq_true hsz) h
@[go_sem] theorem lodgeref3_Valid_fnB : fnB pg 60 = true := by kernel_rfl

/-! F61 lodge/lodgeref3.Bytes -/
@[go_sem] def lodgeref3_Bytes_r0 : List AO := [⟨(some 1), .op (.box 56 3 (.t 0)), none⟩,
  ⟨(some 2), .op (.asg (.nl 1)), none⟩]
@[go_sem] def lodgeref3_Bytes_r1 : List AO := [⟨(some 3), .op (.faddr 56 0 (.t 1) 0), none⟩,
  ⟨(some 4), .op (.load 54 (some 2) (.t 3)), none⟩,
  ⟨(some 5), .call 113 [(false, (.t 4))] [54], none⟩,
  ⟨(some 6), .op (.load 56 (some 3) (.t 1)), none⟩,
  ⟨(some 7), .call 114 [(false, (.t 6))] [56], none⟩,
  ⟨(some 8), .op (.app 44 5 1 1 (.t 5) (.t 7)), none⟩,
  ⟨(some 2), .op (.asg (.t 8)), none⟩]
def lodgeref3_Bytes_c : IC := (.seq (.reg lodgeref3_Bytes_r0) (.seq (.draw lodgeref3_Bytes_r1 [[], [0], [1], [], [3, 2], [2, 4, 4], [5, 5, 0, 1, 2, 3, 4, 5]]) .ret))
abbrev F_lodgeref3_Bytes : Nat := 61
theorem lodgeref3_Bytes_call {G : Nat → Option Value} {pre : List AV} {res : AV} (hsz : decide (pre.length ≤ 9) = true) (h : AW pg G 9 lodgeref3_Bytes_c (endR [(.tmp 2)] res) (St.init pre)) : ACalls pg G F_lodgeref3_Bytes pre res :=
  ACalls.of_walk (fn := Go.Proofs.Tryd.f61) (vs := [(ResultVar.tmp 2)]) (ic := lodgeref3_Bytes_c) (by kernel_rfl) (by kernel_rfl) rfl (by kernel_rfl) (by kernel_rfl) (of_decide_eq_true (by kernel_rfl)) (by kernel_rfl) (by kernel_rfl) (by kernel_rfl) (of_decide_eq_true hsz) h
@[go_sem] theorem lodgeref3_Bytes_fnB : fnB pg 61 = true := by kernel_rfl

/-! F63 lodge/lodgeref.SameNodes -/
@[go_sem] def lodgeref_SameNodes_r0 : List AO := [⟨(some 4), .op (.asg (.c (.bool false))), none⟩]
@[go_sem] def lodgeref_SameNodes_r1 : List AO := [⟨(some 7), .op (.mv (.t 0)), none⟩,
  ⟨(some 8), .op (.len 39 false (.t 7)), none⟩,
  ⟨(some 9), .op (.mv (.t 1)), none⟩,
  ⟨(some 10), .op (.len 39 false (.t 9)), none⟩,
  ⟨(some 11), .op (.bin .neq 3 0 (.t 8) (.t 10) 3), none⟩]
@[go_sem] def lodgeref_SameNodes_r2 : List AO := [⟨(some 4), .op (.asg (.c (.bool false))), none⟩]
@[go_sem] def lodgeref_SameNodes_r3 : List AO := [⟨(some 5), .op (.asg (.c (.int .i64 (0)))), none⟩]
@[go_sem] def lodgeref_SameNodes_r4 : List AO := [⟨(some 12), .op (.mv (.t 5)), none⟩,
  ⟨(some 13), .op (.mv (.t 0)), none⟩,
  ⟨(some 14), .op (.len 39 false (.t 13)), none⟩,
  ⟨(some 15), .op (.bin .lss 3 0 (.t 12) (.t 14) 3), none⟩]
@[go_sem] def lodgeref_SameNodes_r6 : List AO := [⟨(some 18), .op (.mv (.t 0)), none⟩,
  ⟨(some 19), .op (.mv (.t 5)), none⟩,
  ⟨(some 20), .op (.iaddr 39 6 (.t 18) (.t 19)), none⟩,
  ⟨(some 21), .op (.load 58 (some 6) (.t 20)), none⟩,
  ⟨(some 22), .op (.mv (.t 1)), none⟩,
  ⟨(some 23), .op (.mv (.t 5)), none⟩,
  ⟨(some 24), .op (.iaddr 39 6 (.t 22) (.t 23)), none⟩,
  ⟨(some 25), .op (.load 58 (some 6) (.t 24)), none⟩,
  ⟨(some 26), .call 116 [(false, (.t 21)), (false, (.t 25))] [58, 58], none⟩,
  ⟨(some 6), .op (.asg (.t 26)), none⟩]
@[go_sem] def lodgeref_SameNodes_r7 : List AO := [⟨(some 27), .op (.mv (.t 6)), none⟩,
  ⟨(some 28), .op (.un .not 4 (.t 27)), none⟩]
@[go_sem] def lodgeref_SameNodes_r8 : List AO := [⟨(some 4), .op (.asg (.c (.bool false))), none⟩]
@[go_sem] def lodgeref_SameNodes_r5 : List AO := [⟨(some 16), .op (.mv (.t 5)), none⟩,
  ⟨(some 17), .op (.bin .add 3 0 (.t 16) (.c (.int .i64 (1))) 3), none⟩,
  ⟨(some 5), .op (.asg (.t 17)), none⟩]
def lodgeref_SameNodes_l0 : IC := (.seq (.seq (.reg lodgeref_SameNodes_r4) (.cond (.t 15) .skip (.exit 0))) (.seq (.block 1 (.seq (.draw lodgeref_SameNodes_r6 [[], [], [0, 1], [2], [], [], [4, 5], [6], [3, 7], [8, 8, 0, 1, 2, 3, 4, 5, 6, 7, 8]]) (.seq (.reg lodgeref_SameNodes_r7) (.cond (.t 28) (.seq (.reg lodgeref_SameNodes_r8) .ret) .skip)))) (.reg lodgeref_SameNodes_r5)))
@[go_sem] def lodgeref_SameNodes_r9 : List AO := [⟨(some 4), .op (.asg (.c (.bool true))), none⟩]
def lodgeref_SameNodes_c : IC := (.seq (.reg lodgeref_SameNodes_r0) (.seq (.seq (.reg lodgeref_SameNodes_r1) (.cond (.t 11) (.seq (.reg lodgeref_SameNodes_r2) .ret) .skip)) (.seq (.seq (.reg lodgeref_SameNodes_r3) (.block 0 (.loop lodgeref_SameNodes_l0))) (.seq (.reg lodgeref_SameNodes_r9) .ret))))
abbrev F_lodgeref_SameNodes : Nat := 63
theorem lodgeref_SameNodes_call {G : Nat → Option Value} {pre : List AV} {res : AV} (hsz : decide (pre.length ≤ 29) = true) (h : AW pg G 29 lodgeref_SameNodes_c (endR [(.tmp 4)] res) (St.init pre)) : ACalls pg G F_lodgeref_SameNodes pre res :=
  ACalls.of_walk (fn := Go.Proofs.Tryd.f63) (vs := [(ResultVar.tmp 4)]) (ic := lodgeref_SameNodes_c) (by kernel_rfl) (by kernel_rfl) rfl (by kernel_rfl) (by kernel_rfl) (of_decide_eq_true (by kernel_rfl)) (by kernel_rfl) (by kernel_rfl) (by kernel_rfl) (of_decide_eq_true hsz) h
@[go_sem] theorem lodgeref_SameNodes_fnB : fnB pg 63 = true := by kernel_rfl

/-! F65 lodge/lodgeworld.Desc -/
@[go_sem] def lodgeworld_Desc_r0 : List AO := [⟨(some 1), .op (.box 54 2 (.t 0)), none⟩,
  ⟨(some 2), .op (.asg (.c (.bool false))), none⟩]
@[go_sem] def lodgeworld_Desc_r1 : List AO := [⟨(some 3), .op (.faddr 54 0 (.t 1) 0), none⟩,
  ⟨(some 4), .op (.load 24 none (.t 3)), none⟩,
  ⟨(some 5), .op (.len 24 false (.t 4)), none⟩,
  ⟨(some 6), .op (.bin .leq 3 0 (.t 5) (.c (.int .i64 (8))) 3), none⟩,
  ⟨(some 2), .op (.asg (.t 6)), none⟩]
def lodgeworld_Desc_c : IC := (.seq (.reg lodgeworld_Desc_r0) (.seq (.reg lodgeworld_Desc_r1) .ret))
abbrev F_lodgeworld_Desc : Nat := 65
theorem lodgeworld_Desc_call {G : Nat → Option Value} {pre : List AV} {res : AV} (hsz : decide (pre.length ≤ 7) = true) (h : AW pg G 7 lodgeworld_Desc_c (endR [(.tmp 2)] res) (St.init pre)) : ACalls pg G F_lodgeworld_Desc pre res :=
  ACalls.of_walk (fn := Go.Proofs.Tryd.f65) (vs := [(ResultVar.tmp 2)]) (ic := lodgeworld_Desc_c) (by kernel_rfl) (by kernel_rfl) rfl (by kernel_rfl) (by kernel_rfl) (of_decide_eq_true (by kernel_rfl)) (by kernel_rfl) (by kernel_rfl) (by kernel_rfl) (of_decide_eq_true hsz) h
@[go_sem] theorem lodgeworld_Desc_fnB : fnB pg 65 = true := by kernel_rfl

/-! F110 lodge/lodgeref3.ValidDesc -/
@[go_sem] def lodgeref3_ValidDesc_r0 : List AO := [⟨(some 1), .op (.box 54 2 (.t 0)), none⟩,
  ⟨(some 2), .op (.asg (.c (.int .i64 (0)))), none⟩]
@[go_sem] def lodgeref3_ValidDesc_r1 : List AO := [⟨(some 5), .op (.faddr 54 0 (.t 1) 0), none⟩,
  ⟨(some 6), .op (.load 24 none (.t 5)), none⟩,
  ⟨(some 7), .op (.len 24 false (.t 6)), none⟩,
  ⟨(some 8), .op (.bin .gtr 3 0 (.t 7) (.c (.int .i64 (4))) 3), none⟩]
@[go_sem] def lodgeref3_ValidDesc_r2 : List AO := [⟨(some 2), .op (.asg (.c (.int .i64 (104)))), none⟩]
@[go_sem] def lodgeref3_ValidDesc_r3 : List AO := [⟨(some 3), .op (.asg (.c (.int .i64 (1)))), none⟩]
@[go_sem] def lodgeref3_ValidDesc_r4 : List AO := [⟨(some 4), .op (.asg (.c (.int .i64 (0)))), none⟩]
@[go_sem] def lodgeref3_ValidDesc_r5 : List AO := [⟨(some 9), .op (.mv (.t 4)), none⟩,
  ⟨(some 10), .op (.faddr 54 0 (.t 1) 0), none⟩,
  ⟨(some 11), .op (.load 24 none (.t 10)), none⟩,
  ⟨(some 12), .op (.len 24 false (.t 11)), none⟩,
  ⟨(some 13), .op (.bin .lss 3 0 (.t 9) (.t 12) 3), none⟩]
@[go_sem] def lodgeref3_ValidDesc_r7 : List AO := [⟨(some 16), .op (.faddr 54 0 (.t 1) 0), none⟩,
  ⟨(some 17), .op (.load 24 none (.t 16)), none⟩,
  ⟨(some 18), .op (.mv (.t 4)), none⟩,
  ⟨(some 19), .op (.iaddr 24 1 (.t 17) (.t 18)), none⟩,
  ⟨(some 20), .op (.load 3 none (.t 19)), none⟩,
  ⟨(some 21), .op (.bin .lss 3 0 (.t 20) (.c (.int .i64 (1))) 3), none⟩,
  ⟨(some 22), .op (.mv (.t 21)), none⟩,
  ⟨(some 23), .op (.faddr 54 0 (.t 1) 0), (some (6, 22, false))⟩,
  ⟨(some 24), .op (.load 24 none (.t 23)), (some (6, 22, false))⟩,
  ⟨(some 25), .op (.mv (.t 4)), (some (6, 22, false))⟩,
  ⟨(some 26), .op (.iaddr 24 1 (.t 24) (.t 25)), (some (6, 22, false))⟩,
  ⟨(some 27), .op (.load 3 none (.t 26)), (some (6, 22, false))⟩,
  ⟨(some 28), .op (.bin .gtr 3 0 (.t 27) (.c (.int .i64 (256))) 3), (some (6, 22, false))⟩,
  ⟨(some 29), .op (.pick (.t 22) (.c (.bool true)) (.t 28)), none⟩]
@[go_sem] def lodgeref3_ValidDesc_r8 : List AO := [⟨(some 2), .op (.asg (.c (.int .i64 (102)))), none⟩]
@[go_sem] def lodgeref3_ValidDesc_r9 : List AO := [⟨(some 30), .op (.mv (.t 3)), none⟩,
  ⟨(some 31), .op (.faddr 54 0 (.t 1) 0), none⟩,
  ⟨(some 32), .op (.load 24 none (.t 31)), none⟩,
  ⟨(some 33), .op (.mv (.t 4)), none⟩,
  ⟨(some 34), .op (.iaddr 24 1 (.t 32) (.t 33)), none⟩,
  ⟨(some 35), .op (.load 3 none (.t 34)), none⟩,
  ⟨(some 36), .op (.bin .mul 3 0 (.t 30) (.t 35) 3), none⟩,
  ⟨(some 3), .op (.asg (.t 36)), none⟩]
@[go_sem] def lodgeref3_ValidDesc_r6 : List AO := [⟨(some 14), .op (.mv (.t 4)), none⟩,
  ⟨(some 15), .op (.bin .add 3 0 (.t 14) (.c (.int .i64 (1))) 3), none⟩,
  ⟨(some 4), .op (.asg (.t 15)), none⟩]
def lodgeref3_ValidDesc_l0 : IC := (.seq (.seq (.reg lodgeref3_ValidDesc_r5) (.cond (.t 13) .skip (.exit 0))) (.seq (.block 1 (.seq (.seq (.reg lodgeref3_ValidDesc_r7) (.cond (.t 29) (.seq (.reg lodgeref3_ValidDesc_r8) .ret) .skip)) (.reg lodgeref3_ValidDesc_r9))) (.reg lodgeref3_ValidDesc_r6)))
@[go_sem] def lodgeref3_ValidDesc_r10 : List AO := [⟨(some 37), .op (.mv (.t 3)), none⟩,
  ⟨(some 38), .op (.bin .gtr 3 0 (.t 37) (.c (.int .i64 (16384))) 3), none⟩]
@[go_sem] def lodgeref3_ValidDesc_r11 : List AO := [⟨(some 2), .op (.asg (.c (.int .i64 (104)))), none⟩]
@[go_sem] def lodgeref3_ValidDesc_r12 : List AO := [⟨(some 2), .op (.asg (.c (.int .i64 (0)))), none⟩]
def lodgeref3_ValidDesc_c : IC := (.seq (.reg lodgeref3_ValidDesc_r0) (.seq (.seq (.reg lodgeref3_ValidDesc_r1) (.cond (.t 8) (.seq (.reg lodgeref3_ValidDesc_r2) .ret) .skip)) (.seq (.reg lodgeref3_ValidDesc_r3) (.seq (.seq (.reg lodgeref3_ValidDesc_r4) (.block 0 (.loop lodgeref3_ValidDesc_l0))) (.seq (.seq (.reg lodgeref3_ValidDesc_r10) (.cond (.t 38) (.seq (.reg lodgeref3_ValidDesc_r11) .ret) .skip)) (.seq (.reg lodgeref3_ValidDesc_r12) .ret))))))
abbrev F_lodgeref3_ValidDesc : Nat := 110
theorem lodgeref3_ValidDesc_call {G : Nat → Option Value} {pre : List AV} {res : AV} (hsz : decide (pre.length ≤ 39) = true) (h : AW pg G 39 lodgeref3_ValidDesc_c (endR [(.tmp 2)] res) (St.init pre)) : ACalls pg G F_lodgeref3_ValidDesc pre res :=
  ACalls.of_walk (fn := Go.Proofs.Tryd.f110) (vs := [(ResultVar.tmp 2)]) (ic := lodgeref3_ValidDesc_c) (by kernel_rfl) (by kernel_rfl) rfl (by kernel_rfl) (by kernel_rfl) (of_decide_eq_true (by kernel_rfl)) (by kernel_rfl) (by kernel_rfl) (by kernel_rfl) (of_decide_eq_true hsz) h
@[go_sem] theorem lodgeref3_ValidDesc_fnB : fnB pg 110 = true := by kernel_rfl

/-! F111 lodge/lodgeref3.Elems -/
@[go_sem] def lodgeref3_Elems_r0 : List AO := [⟨(some 2), .op (.asg (.c (.int .i64 (0)))), none⟩]
@[go_sem] def lodgeref3_Elems_r1 : List AO := [⟨(some 5), .op (.mv (.t 0)), none⟩,
  ⟨(some 6), .op (.build 54 [.own 1 0 [], .lit (.bool false)] [(0, 0, 1, (.t 5))]), none⟩,
  ⟨(some 7), .call 110 [(false, (.t 6))] [54], none⟩,
  ⟨(some 8), .op (.bin .neq 3 0 (.t 7) (.c (.int .i64 (0))) 3), none⟩]
@[go_sem] def lodgeref3_Elems_r2 : List AO := [⟨(some 2), .op (.asg (.c (.int .i64 (0)))), none⟩]
@[go_sem] def lodgeref3_Elems_r3 : List AO := [⟨(some 3), .op (.asg (.c (.int .i64 (1)))), none⟩]
@[go_sem] def lodgeref3_Elems_r4 : List AO := [⟨(some 4), .op (.asg (.c (.int .i64 (0)))), none⟩]
@[go_sem] def lodgeref3_Elems_r5 : List AO := [⟨(some 9), .op (.mv (.t 4)), none⟩,
  ⟨(some 10), .op (.mv (.t 0)), none⟩,
  ⟨(some 11), .op (.len 24 false (.t 10)), none⟩,
  ⟨(some 12), .op (.bin .lss 3 0 (.t 9) (.t 11) 3), none⟩]
@[go_sem] def lodgeref3_Elems_r7 : List AO := [⟨(some 15), .op (.mv (.t 3)), none⟩,
  ⟨(some 16), .op (.mv (.t 0)), none⟩,
  ⟨(some 17), .op (.mv (.t 4)), none⟩,
  ⟨(some 18), .op (.iaddr 24 1 (.t 16) (.t 17)), none⟩,
  ⟨(some 19), .op (.load 3 none (.t 18)), none⟩,
  ⟨(some 20), .op (.bin .mul 3 0 (.t 15) (.t 19) 3), none⟩,
  ⟨(some 3), .op (.asg (.t 20)), none⟩]
@[go_sem] def lodgeref3_Elems_r6 : List AO := [⟨(some 13), .op (.mv (.t 4)), none⟩,
  ⟨(some 14), .op (.bin .add 3 0 (.t 13) (.c (.int .i64 (1))) 3), none⟩,
  ⟨(some 4), .op (.asg (.t 14)), none⟩]
def lodgeref3_Elems_l0 : IC := (.seq (.seq (.reg lodgeref3_Elems_r5) (.cond (.t 12) .skip (.exit 0))) (.seq (.block 1 (.reg lodgeref3_Elems_r7)) (.reg lodgeref3_Elems_r6)))
@[go_sem] def lodgeref3_Elems_r8 : List AO := [⟨(some 21), .op (.mv (.t 3)), none⟩,
  ⟨(some 2), .op (.asg (.t 21)), none⟩]
def lodgeref3_Elems_c : IC := (.seq (.reg lodgeref3_Elems_r0) (.seq (.seq (.reg lodgeref3_Elems_r1) (.cond (.t 8) (.seq (.reg lodgeref3_Elems_r2) .ret) .skip)) (.seq (.reg lodgeref3_Elems_r3) (.seq (.seq (.reg lodgeref3_Elems_r4) (.block 0 (.loop lodgeref3_Elems_l0))) (.seq (.reg lodgeref3_Elems_r8) .ret)))))
abbrev F_lodgeref3_Elems : Nat := 111
theorem lodgeref3_Elems_call {G : Nat → Option Value} {pre : List AV} {res : AV} (hsz : decide (pre.length ≤ 22) = true) (h : AW pg G 22 lodgeref3_Elems_c (endR [(.tmp 2)] res) (St.init pre)) : ACalls pg G F_lodgeref3_Elems pre res :=
  ACalls.of_walk (fn := Go.Proofs.Tryd.f111) (vs := [(ResultVar.tmp 2)]) (ic := lodgeref3_Elems_c) (by kernel_rfl) (by kernel_rfl) rfl (by kernel_rfl) (by kernel_rfl) (of_decide_eq_true (by kernel_rfl)) (by kernel_rfl) (by kernel_rfl) (by kernel_rfl) (of_decide_eq_true hsz) h
@[go_sem] theorem lodgeref3_Elems_fnB : fnB pg 111 = true := by kernel_rfl

/-! F112 lodge/lodgeref3.in -/
@[go_sem] def lodgeref3_in_r0 : List AO := [⟨(some 4), .op (.asg (.c (.bool false))), none⟩]
@[go_sem] def lodgeref3_in_r1 : List AO := [⟨(some 5), .op (.mv (.t 1)), none⟩]
@[go_sem] def lodgeref3_in_r2 : List AO := [⟨(some 6), .op (.mv (.t 0)), none⟩,
  ⟨(some 7), .op (.bin .geq 3 0 (.t 6) (.c (.int .i64 (-2147483648))) 3), none⟩,
  ⟨(some 8), .op (.mv (.t 7)), none⟩,
  ⟨(some 9), .op (.mv (.t 0)), (some (2, 8, true))⟩,
  ⟨(some 10), .op (.bin .leq 3 0 (.t 9) (.c (.int .i64 (2147483647))) 3), (some (2, 8, true))⟩,
  ⟨(some 11), .op (.pick (.t 8) (.t 10) (.c (.bool false))), none⟩,
  ⟨(some 4), .op (.asg (.t 11)), none⟩]
@[go_sem] def lodgeref3_in_r3 : List AO := [⟨(some 12), .op (.mv (.t 0)), none⟩,
  ⟨(some 13), .op (.bin .geq 3 0 (.t 12) (.c (.int .i64 (-128))) 3), none⟩,
  ⟨(some 14), .op (.mv (.t 13)), none⟩,
  ⟨(some 15), .op (.mv (.t 0)), (some (2, 14, true))⟩,
  ⟨(some 16), .op (.bin .leq 3 0 (.t 15) (.c (.int .i64 (127))) 3), (some (2, 14, true))⟩,
  ⟨(some 17), .op (.pick (.t 14) (.t 16) (.c (.bool false))), none⟩,
  ⟨(some 4), .op (.asg (.t 17)), none⟩]
def lodgeref3_in_c : IC := (.seq (.reg lodgeref3_in_r0) (.seq (.seq (.reg lodgeref3_in_r1) (.cond (.t 5) (.seq (.reg lodgeref3_in_r2) .ret) .skip)) (.seq (.reg lodgeref3_in_r3) .ret)))
abbrev F_lodgeref3_in : Nat := 112
theorem lodgeref3_in_call {G : Nat → Option Value} {pre : List AV} {res : AV} (hsz : decide (pre.length ≤ 18) = true) (h : AW pg G 18 lodgeref3_in_c (endR [(.tmp 4)] res) (St.init pre)) : ACalls pg G F_lodgeref3_in pre res :=
  ACalls.of_walk (fn := Go.Proofs.Tryd.f112) (vs := [(ResultVar.tmp 4)]) (ic := lodgeref3_in_c) (by kernel_rfl) (by kernel_rfl) rfl (by kernel_rfl) (by kernel_rfl) (of_decide_eq_true (by kernel_rfl)) (by kernel_rfl) (by kernel_rfl) (by kernel_rfl) (of_decide_eq_true hsz) h
@[go_sem] theorem lodgeref3_in_fnB : fnB pg 112 = true := by kernel_rfl

/-! F113 lodge/lodgeref3.DescBytes -/
@[go_sem] def lodgeref3_DescBytes_r0 : List AO := [⟨(some 1), .op (.box 54 2 (.t 0)), none⟩,
  ⟨(some 2), .op (.asg (.nl 1)), none⟩]
@[go_sem] def lodgeref3_DescBytes_r1 : List AO := [⟨(some 6), .op (.faddr 54 0 (.t 1) 0), none⟩,
  ⟨(some 7), .op (.load 24 none (.t 6)), none⟩,
  ⟨(some 8), .op (.len 24 false (.t 7)), none⟩,
  ⟨(some 3), .op (.asg (.t 8)), none⟩]
@[go_sem] def lodgeref3_DescBytes_r2 : List AO := [⟨(some 9), .op (.faddr 54 1 (.t 1) 1), none⟩,
  ⟨(some 10), .op (.load 4 none (.t 9)), none⟩]
@[go_sem] def lodgeref3_DescBytes_r3 : List AO := [⟨(some 11), .op (.mv (.t 3)), none⟩,
  ⟨(some 12), .op (.bin .add 3 0 (.t 11) (.c (.int .i64 (8))) 3), none⟩,
  ⟨(some 3), .op (.asg (.t 12)), none⟩]
@[go_sem] def lodgeref3_DescBytes_r4 : List AO := [⟨(some 13), .op (.mv (.t 3)), none⟩,
  ⟨(some 14), .op (.conv 3 5 (.int .u8) (.t 13)), none⟩,
  ⟨(some 15), .op (.bslice 44 5 1 1 [.lit (.int .u8 0)] [(0, (.t 14))]), none⟩,
  ⟨(some 4), .op (.asg (.t 15)), none⟩]
@[go_sem] def lodgeref3_DescBytes_r5 : List AO := [⟨(some 5), .op (.asg (.c (.int .i64 (0)))), none⟩]
@[go_sem] def lodgeref3_DescBytes_r6 : List AO := [⟨(some 16), .op (.mv (.t 5)), none⟩,
  ⟨(some 17), .op (.faddr 54 0 (.t 1) 0), none⟩,
  ⟨(some 18), .op (.load 24 none (.t 17)), none⟩,
  ⟨(some 19), .op (.len 24 false (.t 18)), none⟩,
  ⟨(some 20), .op (.bin .lss 3 0 (.t 16) (.t 19) 3), none⟩]
@[go_sem] def lodgeref3_DescBytes_r8 : List AO := [⟨(some 23), .op (.mv (.t 4)), none⟩,
  ⟨(some 24), .op (.faddr 54 0 (.t 1) 0), none⟩,
  ⟨(some 25), .op (.load 24 none (.t 24)), none⟩,
  ⟨(some 26), .op (.mv (.t 5)), none⟩,
  ⟨(some 27), .op (.iaddr 24 1 (.t 25) (.t 26)), none⟩,
  ⟨(some 28), .op (.load 3 none (.t 27)), none⟩,
  ⟨(some 29), .op (.conv 3 5 (.int .u8) (.t 28)), none⟩,
  ⟨(some 30), .op (.faddr 54 0 (.t 1) 0), none⟩,
  ⟨(some 31), .op (.load 24 none (.t 30)), none⟩,
  ⟨(some 32), .op (.mv (.t 5)), none⟩,
  ⟨(some 33), .op (.iaddr 24 1 (.t 31) (.t 32)), none⟩,
  ⟨(some 34), .op (.load 3 none (.t 33)), none⟩,
  ⟨(some 35), .op (.bin .shr 3 0 (.t 34) (.c (.int .u64 (8))) 111), none⟩,
  ⟨(some 36), .op (.conv 3 5 (.int .u8) (.t 35)), none⟩,
  ⟨(some 37), .op (.bslice 44 5 1 2 [.lit (.int .u8 0)] [(0, (.t 29)), (1, (.t 36))]), none⟩,
  ⟨(some 38), .op (.app 44 5 1 1 (.t 23) (.t 37)), none⟩,
  ⟨(some 4), .op (.asg (.t 38)), none⟩]
@[go_sem] def lodgeref3_DescBytes_r7 : List AO := [⟨(some 21), .op (.mv (.t 5)), none⟩,
  ⟨(some 22), .op (.bin .add 3 0 (.t 21) (.c (.int .i64 (1))) 3), none⟩,
  ⟨(some 5), .op (.asg (.t 22)), none⟩]
def lodgeref3_DescBytes_l0 : IC := (.seq (.seq (.reg lodgeref3_DescBytes_r6) (.cond (.t 20) .skip (.exit 0))) (.seq (.block 1 (.draw lodgeref3_DescBytes_r8 [[], [], [1], [], [2, 3], [4], [5], [], [7], [], [8, 9], [10], [11], [12], [6, 13], [0, 14], [15, 15, 0, 1, 2, 3, 4, 5, 6, 7, 8, 9, 10, 11, 12, 13, 14, 15]])) (.reg lodgeref3_DescBytes_r7)))
@[go_sem] def lodgeref3_DescBytes_r9 : List AO := [⟨(some 39), .op (.mv (.t 4)), none⟩,
  ⟨(some 2), .op (.asg (.t 39)), none⟩]
def lodgeref3_DescBytes_c : IC := (.seq (.reg lodgeref3_DescBytes_r0) (.seq (.reg lodgeref3_DescBytes_r1) (.seq (.seq (.reg lodgeref3_DescBytes_r2) (.cond (.t 10) (.reg lodgeref3_DescBytes_r3) .skip)) (.seq (.reg lodgeref3_DescBytes_r4) (.seq (.seq (.reg lodgeref3_DescBytes_r5) (.block 0 (.loop lodgeref3_DescBytes_l0))) (.seq (.reg lodgeref3_DescBytes_r9) .ret))))))
abbrev F_lodgeref3_DescBytes : Nat := 113
theorem lodgeref3_DescBytes_call {G : Nat → Option Value} {pre : List AV} {res : AV} (hsz : decide (pre.length ≤ 40) = true) (h : AW pg G 40 lodgeref3_DescBytes_c (endR [(.tmp 2)] res) (St.init pre)) : ACalls pg G F_lodgeref3_DescBytes pre res :=
  ACalls.of_walk (fn := Go.Proofs.Tryd.f113) (vs := [(ResultVar.tmp 2)]) (ic := lodgeref3_DescBytes_c) (by kernel_rfl) (by kernel_rfl) rfl (by kernel_rfl) (by kernel_rfl) (of_decide_eq_true (by kernel_rfl)) (by kernel_rfl) (by kernel_rfl) (by kernel_rfl) (of_decide_eq_true hsz) h
@[go_sem] theorem lodgeref3_DescBytes_fnB : fnB pg 113 = true := by kernel_rfl

/-! F114 lodge/lodgeref3.Raw -/
@[go_sem] def lodgeref3_Raw_r0 : List AO := [⟨(some 1), .op (.box 56 3 (.t 0)), none⟩,
  ⟨(some 2), .op (.asg (.nl 1)), none⟩]
@[go_sem] def lodgeref3_Raw_r1 : List AO := [⟨(some 3), .op (.asg (.nl 1)), none⟩]
@[go_sem] def lodgeref3_Raw_r2 : List AO := [⟨(some 4), .op (.asg (.c (.int .i64 (0)))), none⟩]
@[go_sem] def lodgeref3_Raw_r3 : List AO := [⟨(some 6), .op (.mv (.t 4)), none⟩,
  ⟨(some 7), .op (.faddr 56 2 (.t 1) 1), none⟩,
  ⟨(some 8), .op (.load 24 none (.t 7)), none⟩,
  ⟨(some 9), .op (.len 24 false (.t 8)), none⟩,
  ⟨(some 10), .op (.bin .lss 3 0 (.t 6) (.t 9) 3), none⟩]
@[go_sem] def lodgeref3_Raw_r5 : List AO := [⟨(some 13), .op (.faddr 56 2 (.t 1) 1), none⟩,
  ⟨(some 14), .op (.load 24 none (.t 13)), none⟩,
  ⟨(some 15), .op (.mv (.t 4)), none⟩,
  ⟨(some 16), .op (.iaddr 24 1 (.t 14) (.t 15)), none⟩,
  ⟨(some 17), .op (.load 3 none (.t 16)), none⟩,
  ⟨(some 5), .op (.asg (.t 17)), none⟩]
@[go_sem] def lodgeref3_Raw_r6 : List AO := [⟨(some 18), .op (.mv (.t 3)), none⟩,
  ⟨(some 19), .op (.mv (.t 5)), none⟩,
  ⟨(some 20), .op (.conv 3 5 (.int .u8) (.t 19)), none⟩,
  ⟨(some 21), .op (.bslice 44 5 1 1 [.lit (.int .u8 0)] [(0, (.t 20))]), none⟩,
  ⟨(some 22), .op (.app 44 5 1 1 (.t 18) (.t 21)), none⟩,
  ⟨(some 3), .op (.asg (.t 22)), none⟩]
@[go_sem] def lodgeref3_Raw_r7 : List AO := [⟨(some 23), .op (.faddr 56 0 (.t 1) 0), none⟩,
  ⟨(some 24), .op (.faddr 54 1 (.t 23) 1), none⟩,
  ⟨(some 25), .op (.load 4 none (.t 24)), none⟩]
@[go_sem] def lodgeref3_Raw_r8 : List AO := [⟨(some 26), .op (.mv (.t 3)), none⟩,
  ⟨(some 27), .op (.mv (.t 5)), none⟩,
  ⟨(some 28), .op (.bin .shr 3 0 (.t 27) (.c (.int .u64 (8))) 111), none⟩,
  ⟨(some 29), .op (.conv 3 5 (.int .u8) (.t 28)), none⟩,
  ⟨(some 30), .op (.mv (.t 5)), none⟩,
  ⟨(some 31), .op (.bin .shr 3 0 (.t 30) (.c (.int .u64 (16))) 111), none⟩,
  ⟨(some 32), .op (.conv 3 5 (.int .u8) (.t 31)), none⟩,
  ⟨(some 33), .op (.mv (.t 5)), none⟩,
  ⟨(some 34), .op (.bin .shr 3 0 (.t 33) (.c (.int .u64 (24))) 111), none⟩,
  ⟨(some 35), .op (.conv 3 5 (.int .u8) (.t 34)), none⟩,
  ⟨(some 36), .op (.bslice 44 5 1 3 [.lit (.int .u8 0)] [(0, (.t 29)), (1, (.t 32)), (2, (.t 35))]), none⟩,
  ⟨(some 37), .op (.app 44 5 1 1 (.t 26) (.t 36)), none⟩,
  ⟨(some 3), .op (.asg (.t 37)), none⟩]
@[go_sem] def lodgeref3_Raw_r4 : List AO := [⟨(some 11), .op (.mv (.t 4)), none⟩,
  ⟨(some 12), .op (.bin .add 3 0 (.t 11) (.c (.int .i64 (1))) 3), none⟩,
  ⟨(some 4), .op (.asg (.t 12)), none⟩]
def lodgeref3_Raw_l0 : IC := (.seq (.seq (.reg lodgeref3_Raw_r3) (.cond (.t 10) .skip (.exit 0))) (.seq (.block 1 (.seq (.reg lodgeref3_Raw_r5) (.seq (.reg lodgeref3_Raw_r6) (.seq (.reg lodgeref3_Raw_r7) (.cond (.t 25) (.reg lodgeref3_Raw_r8) .skip))))) (.reg lodgeref3_Raw_r4)))
@[go_sem] def lodgeref3_Raw_r9 : List AO := [⟨(some 38), .op (.mv (.t 3)), none⟩,
  ⟨(some 2), .op (.asg (.t 38)), none⟩]
def lodgeref3_Raw_c : IC := (.seq (.reg lodgeref3_Raw_r0) (.seq (.reg lodgeref3_Raw_r1) (.seq (.seq (.reg lodgeref3_Raw_r2) (.block 0 (.loop lodgeref3_Raw_l0))) (.seq (.reg lodgeref3_Raw_r9) .ret))))
abbrev F_lodgeref3_Raw : Nat := 114
theorem lodgeref3_Raw_call {G : Nat → Option Value} {pre : List AV} {res : AV} (hsz : decide (pre.length ≤ 39) = true) (h : AW pg G 39 lodgeref3_Raw_c (endR [(.tmp 2)] res) (St.init pre)) : ACalls pg G F_lodgeref3_Raw pre res :=
  ACalls.of_walk (fn := Go.Proofs.Tryd.f114) (vs := [(ResultVar.tmp 2)]) (ic := lodgeref3_Raw_c) (by kernel_rfl) (by kernel_rfl) rfl (by kernel_rfl) (by kernel_rfl) (of_decide_eq_true (by kernel_rfl)) (by kernel_rfl) (by kernel_rfl) (by kernel_rfl) (of_decide_eq_true hsz) h
@[go_sem] theorem lodgeref3_Raw_fnB : fnB pg 114 = true := by kernel_rfl

/-! F116 lodge/lodgeref.SameNode -/
@[go_sem] def lodgeref_SameNode_r0 : List AO := [⟨(some 2), .op (.box 58 6 (.t 0)), none⟩,
  ⟨(some 3), .op (.box 58 6 (.t 1)), none⟩,
  ⟨(some 4), .op (.asg (.c (.bool false))), none⟩]
@[go_sem] def lodgeref_SameNode_r1 : List AO := [⟨(some 8), .op (.faddr 58 1 (.t 2) 1), none⟩,
  ⟨(some 9), .op (.load 24 none (.t 8)), none⟩,
  ⟨(some 10), .op (.faddr 58 1 (.t 3) 1), none⟩,
  ⟨(some 11), .op (.load 24 none (.t 10)), none⟩,
  ⟨(some 12), .call 17 [(false, (.t 9)), (false, (.t 11))] [24, 24], none⟩,
  ⟨(some 5), .op (.asg (.t 12)), none⟩]
@[go_sem] def lodgeref_SameNode_r2 : List AO := [⟨(some 13), .op (.faddr 58 2 (.t 2) 2), none⟩,
  ⟨(some 14), .op (.load 24 none (.t 13)), none⟩,
  ⟨(some 15), .op (.faddr 58 2 (.t 3) 2), none⟩,
  ⟨(some 16), .op (.load 24 none (.t 15)), none⟩,
  ⟨(some 17), .call 17 [(false, (.t 14)), (false, (.t 16))] [24, 24], none⟩,
  ⟨(some 6), .op (.asg (.t 17)), none⟩]
@[go_sem] def lodgeref_SameNode_r3 : List AO := [⟨(some 18), .op (.faddr 58 3 (.t 2) 3), none⟩,
  ⟨(some 19), .op (.load 56 (some 3) (.t 18)), none⟩,
  ⟨(some 20), .op (.faddr 58 3 (.t 3) 3), none⟩,
  ⟨(some 21), .op (.load 56 (some 3) (.t 20)), none⟩,
  ⟨(some 22), .call 119 [(false, (.t 19)), (false, (.t 21))] [56, 56], none⟩,
  ⟨(some 7), .op (.asg (.t 22)), none⟩]
@[go_sem] def lodgeref_SameNode_r4 : List AO := [⟨(some 23), .op (.mv (.t 5)), none⟩,
  ⟨(some 24), .op (.mv (.t 23)), none⟩,
  ⟨(some 25), .op (.mv (.t 6)), (some (1, 24, true))⟩,
  ⟨(some 26), .op (.pick (.t 24) (.t 25) (.c (.bool false))), none⟩,
  ⟨(some 27), .op (.mv (.t 26)), none⟩,
  ⟨(some 28), .op (.mv (.t 7)), (some (4, 27, true))⟩,
  ⟨(some 29), .op (.pick (.t 27) (.t 28) (.c (.bool false))), none⟩,
  ⟨(some 30), .op (.mv (.t 29)), none⟩,
  ⟨(some 31), .op (.faddr 58 0 (.t 2) 0), (some (7, 30, true))⟩,
  ⟨(some 32), .op (.load 3 none (.t 31)), (some (7, 30, true))⟩,
  ⟨(some 33), .op (.faddr 58 0 (.t 3) 0), (some (7, 30, true))⟩,
  ⟨(some 34), .op (.load 3 none (.t 33)), (some (7, 30, true))⟩,
  ⟨(some 35), .op (.bin .eql 3 0 (.t 32) (.t 34) 3), (some (7, 30, true))⟩,
  ⟨(some 36), .op (.pick (.t 30) (.t 35) (.c (.bool false))), none⟩,
  ⟨(some 4), .op (.asg (.t 36)), none⟩]
def lodgeref_SameNode_c : IC := (.seq (.reg lodgeref_SameNode_r0) (.seq (.reg lodgeref_SameNode_r1) (.seq (.reg lodgeref_SameNode_r2) (.seq (.reg lodgeref_SameNode_r3) (.seq (.reg lodgeref_SameNode_r4) .ret)))))
abbrev F_lodgeref_SameNode : Nat := 116
theorem lodgeref_SameNode_call {G : Nat → Option Value} {pre : List AV} {res : AV} (hsz : decide (pre.length ≤ 37) = true) (h : AW pg G 37 lodgeref_SameNode_c (endR [(.tmp 4)] res) (St.init pre)) : ACalls pg G F_lodgeref_SameNode pre res :=
  ACalls.of_walk (fn := Go.Proofs.Tryd.f116) (vs := [(ResultVar.tmp 4)]) (ic := lodgeref_SameNode_c) (by kernel_rfl) (by kernel_rfl) rfl (by kernel_rfl) (by kernel_rfl) (of_decide_eq_true (by kernel_rfl)) (by kernel_rfl) (by kernel_rfl) (by kernel_rfl) (of_decide_eq_true hsz) h
@[go_sem] theorem lodgeref_SameNode_fnB : fnB pg 116 = true := by kernel_rfl

/-! F119 lodge/lodgeref.SameTensor -/
@[go_sem] def lodgeref_SameTensor_r0 : List AO := [⟨(some 2), .op (.box 56 3 (.t 0)), none⟩,
  ⟨(some 3), .op (.box 56 3 (.t 1)), none⟩,
  ⟨(some 4), .op (.asg (.c (.bool false))), none⟩]
@[go_sem] def lodgeref_SameTensor_r1 : List AO := [⟨(some 7), .op (.faddr 56 0 (.t 2) 0), none⟩,
  ⟨(some 8), .op (.load 54 (some 2) (.t 7)), none⟩,
  ⟨(some 9), .op (.faddr 56 0 (.t 3) 0), none⟩,
  ⟨(some 10), .op (.load 54 (some 2) (.t 9)), none⟩,
  ⟨(some 11), .call 45 [(false, (.t 8)), (false, (.t 10))] [54, 54], none⟩,
  ⟨(some 5), .op (.asg (.t 11)), none⟩]
@[go_sem] def lodgeref_SameTensor_r2 : List AO := [⟨(some 12), .op (.faddr 56 2 (.t 2) 1), none⟩,
  ⟨(some 13), .op (.load 24 none (.t 12)), none⟩,
  ⟨(some 14), .op (.faddr 56 2 (.t 3) 1), none⟩,
  ⟨(some 15), .op (.load 24 none (.t 14)), none⟩,
  ⟨(some 16), .call 17 [(false, (.t 13)), (false, (.t 15))] [24, 24], none⟩,
  ⟨(some 6), .op (.asg (.t 16)), none⟩]
@[go_sem] def lodgeref_SameTensor_r3 : List AO := [⟨(some 17), .op (.mv (.t 5)), none⟩,
  ⟨(some 18), .op (.mv (.t 17)), none⟩,
  ⟨(some 19), .op (.mv (.t 6)), (some (1, 18, true))⟩,
  ⟨(some 20), .op (.pick (.t 18) (.t 19) (.c (.bool false))), none⟩,
  ⟨(some 4), .op (.asg (.t 20)), none⟩]
def lodgeref_SameTensor_c : IC := (.seq (.reg lodgeref_SameTensor_r0) (.seq (.reg lodgeref_SameTensor_r1) (.seq (.reg lodgeref_SameTensor_r2) (.seq (.reg lodgeref_SameTensor_r3) .ret))))
abbrev F_lodgeref_SameTensor : Nat := 119
theorem lodgeref_SameTensor_call {G : Nat → Option Value} {pre : List AV} {res : AV} (hsz : decide (pre.length ≤ 21) = true) (h : AW pg G 21 lodgeref_SameTensor_c (endR [(.tmp 4)] res) (St.init pre)) : ACalls pg G F_lodgeref_SameTensor pre res :=
  ACalls.of_walk (fn := Go.Proofs.Tryd.f119) (vs := [(ResultVar.tmp 4)]) (ic := lodgeref_SameTensor_c) (by kernel_rfl) (by kernel_rfl) rfl (by kernel_rfl) (by kernel_rfl) (of_decide_eq_true (by kernel_rfl)) (by kernel_rfl) (by kernel_rfl) (by kernel_rfl) (of_decide_eq_true hsz) h
@[go_sem] theorem lodgeref_SameTensor_fnB : fnB pg 119 = true := by kernel_rfl

/-! F141 lodge/lodgeref.Tensor -/
@[go_sem] def lodgeref_Tensor_r0 : List AO := [⟨(some 1), .op (.box 56 3 (.t 0)), none⟩,
  ⟨(some 2), .op (.alloc 56 [.own 1 0 [], .lit (.bool false), .own 1 0 []]), none⟩]
@[go_sem] def lodgeref_Tensor_r1 : List AO := [⟨(some 3), .op (.faddr 56 0 (.t 1) 0), none⟩,
  ⟨(some 4), .op (.load 54 (some 2) (.t 3)), none⟩,
  ⟨(some 5), .call 166 [(false, (.t 4))] [54], none⟩,
  ⟨(some 6), .op (.faddr 56 2 (.t 1) 1), none⟩,
  ⟨(some 7), .op (.load 24 none (.t 6)), none⟩,
  ⟨(some 8), .call 30 [(false, (.t 7))] [24], none⟩,
  ⟨(some 9), .op (.build 56 [.own 1 0 [], .lit (.bool false), .own 1 0 []] [(0, 0, 2, (.t 5)), (1, 2, 1, (.t 8))]), none⟩,
  ⟨none, .op (.store 56 3 (.t 2) (.t 9)), none⟩]
def lodgeref_Tensor_c : IC := (.seq (.reg lodgeref_Tensor_r0) (.seq (.draw lodgeref_Tensor_r1 [[], [0], [1], [], [3], [4, 2], [2, 5], [6, 5, 0, 1, 2, 3, 4, 5, 6]]) .ret))
abbrev F_lodgeref_Tensor : Nat := 141
theorem lodgeref_Tensor_call {G : Nat → Option Value} {pre : List AV} {res : AV} (hsz : decide (pre.length ≤ 10) = true) (h : AW pg G 10 lodgeref_Tensor_c (endR [(.cells 2 3)] res) (St.init pre)) : ACalls pg G F_lodgeref_Tensor pre res :=
  ACalls.of_walk (fn := Go.Proofs.Tryd.f141) (vs := [(ResultVar.cell 2 56)]) (ic := lodgeref_Tensor_c) (by kernel_rfl) (by kernel_rfl) rfl (by kernel_rfl) (by kernel_rfl) (of_decide_eq_true (by kernel_rfl)) (by kernel_rfl) (by kernel_rfl) (by kernel_rfl) (of_decide_eq_true hsz) h
@[go_sem] theorem lodgeref_Tensor_fnB : fnB pg 141 = true := by kernel_rfl

/-! F166 lodge/lodgeref.Desc -/
@[go_sem] def lodgeref_Desc_r0 : List AO := [⟨(some 1), .op (.box 54 2 (.t 0)), none⟩,
  ⟨(some 2), .op (.alloc 54 [.own 1 0 [], .lit (.bool false)]), none⟩]
@[go_sem] def lodgeref_Desc_r1 : List AO := [⟨(some 3), .op (.faddr 54 0 (.t 1) 0), none⟩,
  ⟨(some 4), .op (.load 24 none (.t 3)), none⟩,
  ⟨(some 5), .call 30 [(false, (.t 4))] [24], none⟩,
  ⟨(some 6), .op (.faddr 54 1 (.t 1) 1), none⟩,
  ⟨(some 7), .op (.load 4 none (.t 6)), none⟩,
  ⟨(some 8), .op (.build 54 [.own 1 0 [], .lit (.bool false)] [(0, 0, 1, (.t 5)), (1, 1, 1, (.t 7))]), none⟩,
  ⟨none, .op (.store 54 2 (.t 2) (.t 8)), none⟩]
def lodgeref_Desc_c : IC := (.seq (.reg lodgeref_Desc_r0) (.seq (.draw lodgeref_Desc_r1 [[], [0], [1], [], [3], [2, 4], [5, 2, 0, 1, 2, 3, 4, 5]]) .ret))
abbrev F_lodgeref_Desc : Nat := 166
theorem lodgeref_Desc_call {G : Nat → Option Value} {pre : List AV} {res : AV} (hsz : decide (pre.length ≤ 9) = true) (h : AW pg G 9 lodgeref_Desc_c (endR [(.cells 2 2)] res) (St.init pre)) : ACalls pg G F_lodgeref_Desc pre res :=
  ACalls.of_walk (fn := Go.Proofs.Tryd.f166) (vs := [(ResultVar.cell 2 54)]) (ic := lodgeref_Desc_c) (by kernel_rfl) (by kernel_rfl) rfl (by kernel_rfl) (by kernel_rfl) (of_decide_eq_true (by kernel_rfl)) (by kernel_rfl) (by kernel_rfl) (by kernel_rfl) (of_decide_eq_true hsz) h
@[go_sem] theorem lodgeref_Desc_fnB : fnB pg 166 = true := by kernel_rfl

/-! F100 lodge/lodgeref.Node -/
@[go_sem] def lodgeref_Node_r0 : List AO := [⟨(some 1), .op (.box 58 6 (.t 0)), none⟩,
  ⟨(some 2), .op (.alloc 58 [.lit (.int .i64 0), .own 1 0 [], .own 1 0 [], .own 1 0 [], .lit (.bool false), .own 1 0 []]), none⟩]
@[go_sem] def lodgeref_Node_r1 : List AO := [⟨(some 3), .op (.faddr 58 0 (.t 1) 0), none⟩,
  ⟨(some 4), .op (.load 3 none (.t 3)), none⟩,
  ⟨(some 5), .op (.faddr 58 1 (.t 1) 1), none⟩,
  ⟨(some 6), .op (.load 24 none (.t 5)), none⟩,
  ⟨(some 7), .call 30 [(false, (.t 6))] [24], none⟩,
  ⟨(some 8), .op (.faddr 58 2 (.t 1) 2), none⟩,
  ⟨(some 9), .op (.load 24 none (.t 8)), none⟩,
  ⟨(some 10), .call 30 [(false, (.t 9))] [24], none⟩,
  ⟨(some 11), .op (.faddr 58 3 (.t 1) 3), none⟩,
  ⟨(some 12), .op (.load 56 (some 3) (.t 11)), none⟩,
  ⟨(some 13), .call 141 [(false, (.t 12))] [56], none⟩,
  ⟨(some 14), .op (.build 58 [.lit (.int .i64 0), .own 1 0 [], .own 1 0 [], .own 1 0 [], .lit (.bool false), .own 1 0 []] [(0, 0, 1, (.t 4)), (1, 1, 1, (.t 7)), (2, 2, 1, (.t 10)), (3, 3, 3, (.t 13))]), none⟩,
  ⟨none, .op (.store 58 6 (.t 2) (.t 14)), none⟩]
def lodgeref_Node_c : IC := (.seq (.reg lodgeref_Node_r0) (.seq (.draw lodgeref_Node_r1 [[], [0], [], [2], [3], [], [5], [6, 4], [], [8], [9, 7], [1, 4, 7, 10], [11, 10, 0, 1, 2, 3, 4, 5, 6, 7, 8, 9, 10, 11]]) .ret))
abbrev F_lodgeref_Node : Nat := 100
theorem lodgeref_Node_call {G : Nat → Option Value} {pre : List AV} {res : AV} (hsz : decide (pre.length ≤ 15) = true) (h : AW pg G 15 lodgeref_Node_c (endR [(.cells 2 6)] res) (St.init pre)) : ACalls pg G F_lodgeref_Node pre res :=
  ACalls.of_walk (fn := Go.Proofs.Tryd.f100) (vs := [(ResultVar.cell 2 58)]) (ic := lodgeref_Node_c) (by kernel_rfl) (by kernel_rfl) rfl (by kernel_rfl) (by kernel_rfl) (of_decide_eq_true (by kernel_rfl)) (by kernel_rfl) (by kernel_rfl) (by kernel_rfl) (of_decide_eq_true hsz) h
@[go_sem] theorem lodgeref_Node_fnB : fnB pg 100 = true := by kernel_rfl


end Go.Ideal.Tryd
end
