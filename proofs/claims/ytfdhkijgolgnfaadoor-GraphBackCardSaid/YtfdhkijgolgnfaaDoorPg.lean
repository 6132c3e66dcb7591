/- Part Pg of the proof: a machine with trees for values, its soundness, and walks on it. -/
import Derived.Test.YtfdhkijgolgnfaaDoorPd

section
set_option linter.unusedVariables false
set_option maxRecDepth 10000
namespace Go.Ideal.Tryd
@[go_sem] theorem lodgelaw17_GraphBytes_fnB : fnB pg 5 = true := by kernel_rfl

@[go_sem] def lodgeworld_Graph_r0 : List AO := [⟨(some 1), .op (.box 41 2 (.t 0)), none⟩,
  ⟨(some 2), .op (.asg (.c (.bool false))), none⟩]
@[go_sem] def lodgeworld_Graph_r1 : List AO := [⟨(some 5), .op (.faddr 41 0 (.t 1) 0), none⟩,
  ⟨(some 6), .op (.load 39 none (.t 5)), none⟩,
  ⟨(some 7), .op (.len 39 false (.t 6)), none⟩,
  ⟨(some 8), .op (.bin .gtr 3 0 (.t 7) (.c (.int .i64 (70))) 3), none⟩]
@[go_sem] def lodgeworld_Graph_r2 : List AO := [⟨(some 2), .op (.asg (.c (.bool false))), none⟩]
@[go_sem] def lodgeworld_Graph_r3 : List AO := [⟨(some 3), .op (.asg (.c (.int .i64 (0)))), none⟩]
@[go_sem] def lodgeworld_Graph_r4 : List AO := [⟨(some 9), .op (.mv (.t 3)), none⟩,
  ⟨(some 10), .op (.faddr 41 0 (.t 1) 0), none⟩,
  ⟨(some 11), .op (.load 39 none (.t 10)), none⟩,
  ⟨(some 12), .op (.len 39 false (.t 11)), none⟩,
  ⟨(some 13), .op (.bin .lss 3 0 (.t 9) (.t 12) 3), none⟩]
@[go_sem] def lodgeworld_Graph_r6 : List AO := [⟨(some 16), .op (.faddr 41 0 (.t 1) 0), none⟩,
  ⟨(some 17), .op (.load 39 none (.t 16)), none⟩,
  ⟨(some 18), .op (.mv (.t 3)), none⟩,
  ⟨(some 19), .op (.iaddr 39 6 (.t 17) (.t 18)), none⟩,
  ⟨(some 20), .op (.load 58 (some 6) (.t 19)), none⟩,
  ⟨(some 4), .op (.alloc 58 [.lit (.int .i64 0), .own 1 0 [], .own 1 0 [], .own 1 0 [], .lit (.bool false), .own 1 0 []]), none⟩,
  ⟨none, .op (.store 58 6 (.t 4) (.t 20)), none⟩]
@[go_sem] def lodgeworld_Graph_r7 : List AO := [⟨(some 21), .op (.faddr 58 1 (.t 4) 1), none⟩,
  ⟨(some 22), .op (.load 24 none (.t 21)), none⟩,
  ⟨(some 23), .op (.len 24 false (.t 22)), none⟩,
  ⟨(some 24), .op (.bin .gtr 3 0 (.t 23) (.c (.int .i64 (10))) 3), none⟩,
  ⟨(some 25), .op (.mv (.t 24)), none⟩,
  ⟨(some 26), .op (.faddr 58 2 (.t 4) 2), (some (4, 25, false))⟩,
  ⟨(some 27), .op (.load 24 none (.t 26)), (some (4, 25, false))⟩,
  ⟨(some 28), .op (.len 24 false (.t 27)), (some (4, 25, false))⟩,
  ⟨(some 29), .op (.bin .gtr 3 0 (.t 28) (.c (.int .i64 (10))) 3), (some (4, 25, false))⟩,
  ⟨(some 30), .op (.pick (.t 25) (.c (.bool true)) (.t 29)), none⟩,
  ⟨(some 31), .op (.mv (.t 30)), none⟩,
  ⟨(some 32), .op (.faddr 58 3 (.t 4) 3), (some (10, 31, false))⟩,
  ⟨(some 33), .op (.load 56 (some 3) (.t 32)), (some (10, 31, false))⟩,
  ⟨(some 34), .call 50 [(false, (.t 33)), (false, (.c (.int .i64 (300))))] [56, 3], (some (10, 31, false))⟩,
  ⟨(some 35), .op (.un .not 4 (.t 34)), (some (10, 31, false))⟩,
  ⟨(some 36), .op (.pick (.t 31) (.c (.bool true)) (.t 35)), none⟩]
@[go_sem] def lodgeworld_Graph_r8 : List AO := [⟨(some 2), .op (.asg (.c (.bool false))), none⟩]
@[go_sem] def lodgeworld_Graph_r5 : List AO := [⟨(some 14), .op (.mv (.t 3)), none⟩,
  ⟨(some 15), .op (.bin .add 3 0 (.t 14) (.c (.int .i64 (1))) 3), none⟩,
  ⟨(some 3), .op (.asg (.t 15)), none⟩]
def lodgeworld_Graph_l0 : IC := (.seq (.seq (.reg lodgeworld_Graph_r4) (.cond (.t 13) .skip (.exit 0))) (.seq (.block 1 (.seq (.reg lodgeworld_Graph_r6) (.seq (.reg lodgeworld_Graph_r7) (.cond (.t 36) (.seq (.reg lodgeworld_Graph_r8) .ret) .skip)))) (.reg lodgeworld_Graph_r5)))
@[go_sem] def lodgeworld_Graph_r9 : List AO := [⟨(some 2), .op (.asg (.c (.bool true))), none⟩]
def lodgeworld_Graph_c : IC := (.seq (.reg lodgeworld_Graph_r0) (.seq (.seq (.reg lodgeworld_Graph_r1) (.cond (.t 8) (.seq (.reg lodgeworld_Graph_r2) .ret) .skip)) (.seq (.seq (.reg lodgeworld_Graph_r3) (.block 0 (.loop lodgeworld_Graph_l0))) (.seq (.reg lodgeworld_Graph_r9) .ret))))
abbrev F_lodgeworld_Graph : Nat := 22
theorem lodgeworld_Graph_call {G : Nat → Option Value} {pre : List AV} {res : AV} (hsz : decide (pre.length ≤ 37) = true) (h : AW pg G 37 lodgeworld_Graph_c (endR [(.tmp 2)] res) (St.init pre)) : ACalls pg G F_lodgeworld_Graph pre res :=
  ACalls.of_walk (fn := Go.Proofs.Tryd.f22) (vs := [(ResultVar.tmp 2)]) (ic := lodgeworld_Graph_c) (by kernel_rfl) (by kernel_rfl) rfl (by kernel_rfl) (by kernel_rfl) (of_decide_eq_true (by kernel_rfl)) (by kernel_rfl) (by kernel_rfl) (by kernel_rfl) (of_decide_eq_true hsz) h
@[go_sem] theorem lodgeworld_Graph_fnB : fnB pg 22 = true := by kernel_rfl

@[go_sem] theorem lodgeref_Graph_fnB : fnB pg 23 = true := by kernel_rfl

@[go_sem] theorem lodgeref17_Bytes_fnB : fnB pg 25 = true := by kernel_rfl

@[go_sem] theorem lodgeref17_Uses_fnB : fnB pg 27 = true := by kernel_rfl

@[go_sem] theorem lodgeref_SameGraph_fnB : fnB pg 28 = true := by kernel_rfl

@[go_sem] def lodgeref_SameBytes_r0 : List AO := [⟨(some 4), .op (.asg (.c (.bool false))), none⟩]
@[go_sem] def lodgeref_SameBytes_r1 : List AO := [⟨(some 7), .op (.mv (.t 0)), none⟩,
  ⟨(some 8), .op (.len 44 false (.t 7)), none⟩,
  ⟨(some 9), .op (.mv (.t 1)), none⟩,
  ⟨(some 10), .op (.len 44 false (.t 9)), none⟩,
  ⟨(some 11), .op (.bin .neq 3 0 (.t 8) (.t 10) 3), none⟩]
@[go_sem] def lodgeref_SameBytes_r2 : List AO := [⟨(some 4), .op (.asg (.c (.bool false))), none⟩]
@[go_sem] def lodgeref_SameBytes_r3 : List AO := [⟨(some 5), .op (.asg (.c (.int .i64 (0)))), none⟩]
@[go_sem] def lodgeref_SameBytes_r4 : List AO := [⟨(some 12), .op (.mv (.t 5)), none⟩,
  ⟨(some 13), .op (.mv (.t 0)), none⟩,
  ⟨(some 14), .op (.len 44 false (.t 13)), none⟩,
  ⟨(some 15), .op (.bin .lss 3 0 (.t 12) (.t 14) 3), none⟩]
@[go_sem] def lodgeref_SameBytes_r6 : List AO := [⟨(some 18), .op (.mv (.t 0)), none⟩,
  ⟨(some 19), .op (.mv (.t 5)), none⟩,
  ⟨(some 20), .op (.iaddr 44 1 (.t 18) (.t 19)), none⟩,
  ⟨(some 21), .op (.load 5 none (.t 20)), none⟩,
  ⟨(some 22), .op (.mv (.t 1)), none⟩,
  ⟨(some 23), .op (.mv (.t 5)), none⟩,
  ⟨(some 24), .op (.iaddr 44 1 (.t 22) (.t 23)), none⟩,
  ⟨(some 25), .op (.load 5 none (.t 24)), none⟩,
  ⟨(some 26), .op (.bin .eql 5 0 (.t 21) (.t 25) 5), none⟩,
  ⟨(some 6), .op (.asg (.t 26)), none⟩]
@[go_sem] def lodgeref_SameBytes_r7 : List AO := [⟨(some 27), .op (.mv (.t 6)), none⟩,
  ⟨(some 28), .op (.un .not 4 (.t 27)), none⟩]
@[go_sem] def lodgeref_SameBytes_r8 : List AO := [⟨(some 4), .op (.asg (.c (.bool false))), none⟩]
@[go_sem] def lodgeref_SameBytes_r5 : List AO := [⟨(some 16), .op (.mv (.t 5)), none⟩,
  ⟨(some 17), .op (.bin .add 3 0 (.t 16) (.c (.int .i64 (1))) 3), none⟩,
  ⟨(some 5), .op (.asg (.t 17)), none⟩]
def lodgeref_SameBytes_l0 : IC := (.seq (.seq (.reg lodgeref_SameBytes_r4) (.cond (.t 15) .skip (.exit 0))) (.seq (.block 1 (.seq (.draw lodgeref_SameBytes_r6 [[], [], [0, 1], [2], [], [], [4, 5], [6], [3, 7], [8, 0, 1, 2, 3, 4, 5, 6, 7, 8]]) (.seq (.reg lodgeref_SameBytes_r7) (.cond (.t 28) (.seq (.reg lodgeref_SameBytes_r8) .ret) .skip)))) (.reg lodgeref_SameBytes_r5)))
@[go_sem] def lodgeref_SameBytes_r9 : List AO := [⟨(some 4), .op (.asg (.c (.bool true))), none⟩]
def lodgeref_SameBytes_c : IC := (.seq (.reg lodgeref_SameBytes_r0) (.seq (.seq (.reg lodgeref_SameBytes_r1) (.cond (.t 11) (.seq (.reg lodgeref_SameBytes_r2) .ret) .skip)) (.seq (.seq (.reg lodgeref_SameBytes_r3) (.block 0 (.loop lodgeref_SameBytes_l0))) (.seq (.reg lodgeref_SameBytes_r9) .ret))))
abbrev F_lodgeref_SameBytes : Nat := 29
theorem lodgeref_SameBytes_call {G : Nat → Option Value} {pre : List AV} {res : AV} (hsz : decide (pre.length ≤ 29) = true) (h : AW pg G 29 lodgeref_SameBytes_c (endR [(.tmp 4)] res) (St.init pre)) : ACalls pg G F_lodgeref_SameBytes pre res :=
  ACalls.of_walk (fn := Go.Proofs.Tryd.f29) (vs := [(ResultVar.tmp 4)]) (ic := lodgeref_SameBytes_c) (by kernel_rfl) (by kernel_rfl) rfl (by kernel_rfl) (by kernel_rfl) (of_decide_eq_true (by kernel_rfl)) (by kernel_rfl) (by kernel_rfl) (by kernel_rfl) (of_decide_eq_true hsz) h
@[go_sem] theorem lodgeref_SameBytes_fnB : fnB pg 29 = true := by kernel_rfl

@[go_sem] theorem lodgeref_SameDesc_fnB : fnB pg 45 = true := by kernel_rfl

@[go_sem] def lodgeworld_Tensor_r0 : List AO := [⟨(some 2), .op (.box 56 3 (.t 0)), none⟩,
  ⟨(some 4), .op (.asg (.c (.bool false))), none⟩]
@[go_sem] def lodgeworld_Tensor_r1 : List AO := [⟨(some 5), .op (.faddr 56 0 (.t 2) 0), none⟩,
  ⟨(some 6), .op (.load 54 (some 2) (.t 5)), none⟩,
  ⟨(some 7), .call 65 [(false, (.t 6))] [54], none⟩,
  ⟨(some 8), .op (.mv (.t 7)), none⟩,
  ⟨(some 9), .op (.faddr 56 2 (.t 2) 1), (some (3, 8, true))⟩,
  ⟨(some 10), .op (.load 24 none (.t 9)), (some (3, 8, true))⟩,
  ⟨(some 11), .op (.len 24 false (.t 10)), (some (3, 8, true))⟩,
  ⟨(some 12), .op (.mv (.t 1)), (some (3, 8, true))⟩,
  ⟨(some 13), .op (.bin .leq 3 0 (.t 11) (.t 12) 3), (some (3, 8, true))⟩,
  ⟨(some 14), .op (.pick (.t 8) (.t 13) (.c (.bool false))), none⟩,
  ⟨(some 4), .op (.asg (.t 14)), none⟩]
def lodgeworld_Tensor_c : IC := (.seq (.reg lodgeworld_Tensor_r0) (.seq (.reg lodgeworld_Tensor_r1) .ret))
abbrev F_lodgeworld_Tensor : Nat := 50
theorem lodgeworld_Tensor_call {G : Nat → Option Value} {pre : List AV} {res : AV} (hsz : decide (pre.length ≤ 15) = true) (h : AW pg G 15 lodgeworld_Tensor_c (endR [(.tmp 4)] res) (St.init pre)) : ACalls pg G F_lodgeworld_Tensor pre res :=
  ACalls.of_walk (fn := Go.Proofs.Tryd.f50) (vs := [(ResultVar.tmp 4)]) (ic := lodgeworld_Tensor_c) (by kernel_rfl) (by kernel_rfl) rfl (by kernel_rfl) (by kernel_rfl) (of_decide_eq_true (by kernel_rfl)) (by kernel_rfl) (by kernel_rfl) (by kernel_rfl) (of_decide_eq_true hsz) h
@[go_sem] theorem lodgeworld_Tensor_fnB : fnB pg 50 = true := by kernel_rfl

@[go_sem] theorem lodgeref_Nodes_fnB : fnB pg 51 = true := by kernel_rfl

@[go_sem] theorem lodgeref17_count_fnB : fnB pg 58 = true := by kernel_rfl

@[go_sem] theorem lodgeref17_wide_fnB : fnB pg 59 = true := by kernel_rfl

@[go_sem] theorem lodgeref3_Valid_fnB : fnB pg 60 = true := by kernel_rfl

@[go_sem] theorem lodgeref3_Bytes_fnB : fnB pg 61 = true := by kernel_rfl

@[go_sem] theorem lodgeref_SameNodes_fnB : fnB pg 63 = true := by kernel_rfl

@[go_sem] def lodgeworld_Desc_r0 : List AO := [⟨(some 1), .op (.box 54 2 (.t 0)), none⟩,
  ⟨(some 2), .op (.asg (.c (.bool false))), none⟩]
@[go_sem] def lodgeworld_Desc_r1 : List AO := [⟨(some 3), .op (.faddr 54 0 (.t 1) 0), none⟩,
  ⟨(some 4), .op (.load 24 none (.t 3)), none⟩,
  ⟨(some 5), .op (.len 24 false (.t 4)), none⟩,
  ⟨(some 6), .op (.bin .leq 3 0 (.t 5) (.c (.int .i64 (8))) 3), none⟩,
  ⟨(some 2), .op (.asg (.t 6)), none⟩]
def lodgeworld_Desc_c : IC := (.seq (.reg lodgeworld_Desc_r0) (.seq (.reg lodgeworld_Desc_r1) .ret))
abbrev F_lodgeworld_Desc : Nat := 65
theorem lodgeworld_Desc_call {G : Nat → Option Value} {pre : List AV} {res : AV} (hsz : decide (pre.length ≤ 7) = true) (h : AW pg G 7 lodgeworld_Desc_c (endR [(.tmp 2)] res) (St.init pre)) : ACalls pg G F_lodgeworld_Desc pre res :=
  ACalls.of_walk (fn := Go.Proofs.Tryd.f65) (vs := [(ResultVar.tmp 2)]) (ic := lodgeworld_Desc_c) (by kernel_rfl) (by kernel_rfl) rfl (by kernel_rfl) (by kernel_rfl) (of_decide_eq_true (by kernel_rfl)) (by kernel_rfl) (by kernel_rfl) (by kernel_rfl) (of_decide_eq_true hsz) h
@[go_sem] theorem lodgeworld_Desc_fnB : fnB pg 65 = true := by kernel_rfl

@[go_sem] theorem lodgeref3_ValidDesc_fnB : fnB pg 110 = true := by kernel_rfl

@[go_sem] theorem lodgeref3_Elems_fnB : fnB pg 111 = true := by kernel_rfl

@[go_sem] theorem lodgeref3_in_fnB : fnB pg 112 = true := by kernel_rfl

@[go_sem] theorem lodgeref3_DescBytes_fnB : fnB pg 113 = true := by kernel_rfl

@[go_sem] theorem lodgeref3_Raw_fnB : fnB pg 114 = true := by kernel_rfl

@[go_sem] theorem lodgeref_SameNode_fnB : fnB pg 116 = true := by kernel_rfl

@[go_sem] theorem lodgeref_SameTensor_fnB : fnB pg 119 = true := by kernel_rfl

@[go_sem] theorem lodgeref_Tensor_fnB : fnB pg 141 = true := by kernel_rfl

@[go_sem] theorem lodgeref_Desc_fnB : fnB pg 166 = true := by kernel_rfl

@[go_sem] theorem lodgeref_Node_fnB : fnB pg 100 = true := by kernel_rfl


end Go.Ideal.Tryd
end
