/- Part Pk of the proof: a machine with trees for values, its soundness, and walks on it. -/
import Derived.Test.YtfdhkijgolgnfaaDoorPj
import Derived.Test.YtfdhkijgolgnfaaDoorPh
import Derived.WalkKit
import Derived.LaidEql
import Derived.Stop.Asserts
import Derived.RowKitTokens

section
set_option linter.unusedVariables false
set_option maxRecDepth 10000
namespace Go.Ideal.Tryd
@[go_sem] def lodgelaw14_first_r0 : List AO := [⟨(some 0), .op (.asg (.c (.bool false))), none⟩]
@[go_sem] def lodgelaw14_first_r1 : List AO := [⟨(some 4), .op (.build 65 [.lit (.int .i64 0), .sl 0 [], .sl 0 [], .sl 0 [], .sl 0 [], .lit (.int .i64 0), .lit (.int .i64 0)] []), none⟩,
  ⟨(some 5), .call 43 [(false, (.t 4))] [65], none⟩,
  ⟨(some 3), .op (.mva (.t 5)), none⟩,
  ⟨(some 6), .op (.ext (.t 3) 0), none⟩,
  ⟨(some 7), .op (.ext (.t 3) 1), none⟩,
  ⟨(some 1), .op (.asg (.t 6)), none⟩,
  ⟨(some 2), .op (.asg (.t 7)), none⟩]
@[go_sem] def lodgelaw14_first_r2 : List AO := [⟨(some 8), .op (.mv (.t 2)), none⟩,
  ⟨(some 9), .op (.bin .eql 26 2 (.t 8) (.c .nilIface) 26), none⟩,
  ⟨(some 10), .op (.mv (.t 9)), none⟩,
  ⟨(some 11), .op (.mv (.t 1)), (some (2, 10, true))⟩,
  ⟨(some 12), .op (.len 44 false (.t 11)), (some (2, 10, true))⟩,
  ⟨(some 13), .op (.bin .eql 3 0 (.t 12) (.c (.int .i64 (22))) 3), (some (2, 10, true))⟩,
  ⟨(some 14), .op (.pick (.t 10) (.t 13) (.c (.bool false))), none⟩,
  ⟨(some 0), .op (.asg (.t 14)), none⟩]
def lodgelaw14_first_c : IC := (.seq (.reg lodgelaw14_first_r0) (.seq (.reg lodgelaw14_first_r1) (.seq (.reg lodgelaw14_first_r2) .ret)))
abbrev F_lodgelaw14_first : Nat := 32
theorem lodgelaw14_first_call {G : Nat → Option Value} {pre : List AV} {res : AV} (hsz : decide (pre.length ≤ 15) = true) (h : AW pg G 15 lodgelaw14_first_c (endR [(.tmp 0)] res) (St.init pre)) : ACalls pg G F_lodgelaw14_first pre res :=
  ACalls.of_walk (fn := Go.Proofs.Tryd.f32) (vs := [(ResultVar.tmp 0)]) (ic := lodgelaw14_first_c) (by kernel_rfl) (by kernel_rfl) rfl (by kernel_rfl) (by kernel_rfl) (of_decide_eq_true (by kernel_rfl)) (by kernel_rfl) (by kernel_rfl) (by kernel_rfl) (of_decide_eq_true hsz) h
@[go_sem] theorem lodgelaw14_first_fnB : fnB pg 32 = true := by kernel_rfl

@[go_sem] theorem lodgeworld_Plan_fnB : fnB pg 33 = true := by kernel_rfl

@[go_sem] theorem lodgeworld_Tensors_fnB : fnB pg 64 = true := by kernel_rfl

@[go_sem] theorem plan_Clone_fnB : fnB pg 34 = true := by kernel_rfl

@[go_sem] def plan_Same_r0 : List AO := [⟨(some 2), .op (.box 65 7 (.t 0)), none⟩,
  ⟨(some 3), .op (.box 65 7 (.t 1)), none⟩,
  ⟨(some 4), .op (.asg (.c (.bool false))), none⟩]
@[go_sem] def plan_Same_r1 : List AO := [⟨(some 5), .op (.asg (.f 69)), none⟩]
@[go_sem] def plan_Same_r2 : List AO := [⟨(some 6), .op (.faddr 65 0 (.t 2) 0), none⟩,
  ⟨(some 7), .op (.load 3 none (.t 6)), none⟩,
  ⟨(some 8), .op (.faddr 65 0 (.t 3) 0), none⟩,
  ⟨(some 9), .op (.load 3 none (.t 8)), none⟩,
  ⟨(some 10), .op (.bin .eql 3 0 (.t 7) (.t 9) 3), none⟩,
  ⟨(some 11), .op (.mv (.t 10)), none⟩,
  ⟨(some 12), .op (.faddr 65 5 (.t 2) 5), (some (5, 11, true))⟩,
  ⟨(some 13), .op (.load 3 none (.t 12)), (some (5, 11, true))⟩,
  ⟨(some 14), .op (.faddr 65 5 (.t 3) 5), (some (5, 11, true))⟩,
  ⟨(some 15), .op (.load 3 none (.t 14)), (some (5, 11, true))⟩,
  ⟨(some 16), .op (.bin .eql 3 0 (.t 13) (.t 15) 3), (some (5, 11, true))⟩,
  ⟨(some 17), .op (.pick (.t 11) (.t 16) (.c (.bool false))), none⟩,
  ⟨(some 18), .op (.mv (.t 17)), none⟩,
  ⟨(some 19), .op (.faddr 65 6 (.t 2) 6), (some (12, 18, true))⟩,
  ⟨(some 20), .op (.load 3 none (.t 19)), (some (12, 18, true))⟩,
  ⟨(some 21), .op (.faddr 65 6 (.t 3) 6), (some (12, 18, true))⟩,
  ⟨(some 22), .op (.load 3 none (.t 21)), (some (12, 18, true))⟩,
  ⟨(some 23), .op (.bin .eql 3 0 (.t 20) (.t 22) 3), (some (12, 18, true))⟩,
  ⟨(some 24), .op (.pick (.t 18) (.t 23) (.c (.bool false))), none⟩,
  ⟨(some 25), .op (.mv (.t 24)), none⟩,
  ⟨(some 26), .op (.faddr 65 1 (.t 2) 1), (some (19, 25, true))⟩,
  ⟨(some 27), .op (.load 60 none (.t 26)), (some (19, 25, true))⟩,
  ⟨(some 28), .op (.faddr 65 1 (.t 3) 1), (some (19, 25, true))⟩,
  ⟨(some 29), .op (.load 60 none (.t 28)), (some (19, 25, true))⟩,
  ⟨(some 30), .op (.mv (.t 5)), (some (19, 25, true))⟩,
  ⟨(some 31), .callx (.f 71) [(false, (.t 27)), (false, (.t 29))] [.p 0, .p 1, .x (.t 30)] [60, 60, 117], (some (19, 25, true))⟩,
  ⟨(some 32), .op (.pick (.t 25) (.t 31) (.c (.bool false))), none⟩,
  ⟨(some 33), .op (.mv (.t 32)), none⟩,
  ⟨(some 34), .op (.faddr 65 2 (.t 2) 2), (some (27, 33, true))⟩,
  ⟨(some 35), .op (.load 61 none (.t 34)), (some (27, 33, true))⟩,
  ⟨(some 36), .op (.faddr 65 2 (.t 3) 2), (some (27, 33, true))⟩,
  ⟨(some 37), .op (.load 61 none (.t 36)), (some (27, 33, true))⟩,
  ⟨(some 38), .callx (.f 72) [(false, (.t 35)), (false, (.t 37))] [.p 0, .p 1, .x (.f 73)] [61, 61, 120], (some (27, 33, true))⟩,
  ⟨(some 39), .op (.pick (.t 33) (.t 38) (.c (.bool false))), none⟩,
  ⟨(some 40), .op (.mv (.t 39)), none⟩,
  ⟨(some 41), .op (.faddr 65 3 (.t 2) 3), (some (34, 40, true))⟩,
  ⟨(some 42), .op (.load 62 none (.t 41)), (some (34, 40, true))⟩,
  ⟨(some 43), .op (.faddr 65 3 (.t 3) 3), (some (34, 40, true))⟩,
  ⟨(some 44), .op (.load 62 none (.t 43)), (some (34, 40, true))⟩,
  ⟨(some 45), .callx (.f 74) [(false, (.t 42)), (false, (.t 44))] [.p 0, .p 1, .x (.f 70)] [62, 62, 90], (some (34, 40, true))⟩,
  ⟨(some 46), .op (.pick (.t 40) (.t 45) (.c (.bool false))), none⟩,
  ⟨(some 47), .op (.mv (.t 46)), none⟩,
  ⟨(some 48), .op (.faddr 65 4 (.t 2) 4), (some (41, 47, true))⟩,
  ⟨(some 49), .op (.load 63 none (.t 48)), (some (41, 47, true))⟩,
  ⟨(some 50), .op (.faddr 65 4 (.t 3) 4), (some (41, 47, true))⟩,
  ⟨(some 51), .op (.load 63 none (.t 50)), (some (41, 47, true))⟩,
  ⟨(some 52), .callx (.f 75) [(false, (.t 49)), (false, (.t 51))] [.p 0, .p 1, .x (.f 76)] [63, 63, 123], (some (41, 47, true))⟩,
  ⟨(some 53), .op (.pick (.t 47) (.t 52) (.c (.bool false))), none⟩,
  ⟨(some 4), .op (.asg (.t 53)), none⟩]
def plan_Same_c : IC := (.seq (.reg plan_Same_r0) (.seq (.reg plan_Same_r1) (.seq (.reg plan_Same_r2) .ret)))
abbrev F_plan_Same : Nat := 35
theorem plan_Same_call {G : Nat → Option Value} {pre : List AV} {res : AV} (hsz : decide (pre.length ≤ 54) = true) (h : AW pg G 54 plan_Same_c (endR [(.tmp 4)] res) (St.init pre)) : ACalls pg G F_plan_Same pre res :=
  ACalls.of_walk (fn := Go.Proofs.Tryd.f35) (vs := [(ResultVar.tmp 4)]) (ic := plan_Same_c) (by kernel_rfl) (by kernel_rfl) rfl (by kernel_rfl) (by kernel_rfl) (of_decide_eq_true (by kernel_rfl)) (by kernel_rfl) (by kernel_rfl) (by kernel_rfl) (of_decide_eq_true hsz) h
@[go_sem] theorem plan_Same_fnB : fnB pg 35 = true := by kernel_rfl

@[go_sem] theorem lodgeref_SamePlan_fnB : fnB pg 36 = true := by kernel_rfl

@[go_sem] def shape_Clone_r0 : List AO := [⟨(some 1), .op (.box 54 2 (.t 0)), none⟩,
  ⟨(some 2), .op (.alloc 54 [.own 1 0 [], .lit (.bool false)]), none⟩]
@[go_sem] def shape_Clone_r1 : List AO := [⟨(some 3), .op (.faddr 54 0 (.t 1) 0), none⟩,
  ⟨(some 4), .op (.load 24 none (.t 3)), none⟩,
  ⟨(some 5), .call 68 [(false, (.t 4))] [24], none⟩,
  ⟨(some 6), .op (.faddr 54 1 (.t 1) 1), none⟩,
  ⟨(some 7), .op (.load 4 none (.t 6)), none⟩,
  ⟨(some 8), .op (.build 54 [.own 1 0 [], .lit (.bool false)] [(0, 0, 1, (.t 5)), (1, 1, 1, (.t 7))]), none⟩,
  ⟨none, .op (.store 54 2 (.t 2) (.t 8)), none⟩]
def shape_Clone_c : IC := (.seq (.reg shape_Clone_r0) (.seq (.draw shape_Clone_r1 [[], [0], [1], [], [3], [2, 4], [5, 2, 0, 1, 2, 3, 4, 5]]) .ret))
abbrev F_shape_Clone : Nat := 66
theorem shape_Clone_call {G : Nat → Option Value} {pre : List AV} {res : AV} (hsz : decide (pre.length ≤ 9) = true) (h : AW pg G 9 shape_Clone_c (endR [(.cells 2 2)] res) (St.init pre)) : ACalls pg G F_shape_Clone pre res :=
  ACalls.of_walk (fn := Go.Proofs.Tryd.f66) (vs := [(ResultVar.cell 2 54)]) (ic := shape_Clone_c) (by kernel_rfl) (by kernel_rfl) rfl (by kernel_rfl) (by kernel_rfl) (of_decide_eq_true (by kernel_rfl)) (by kernel_rfl) (by kernel_rfl) (by kernel_rfl) (of_decide_eq_true hsz) h
@[go_sem] theorem shape_Clone_fnB : fnB pg 66 = true := by kernel_rfl

@[go_sem] theorem tens_Clone_fnB : fnB pg 67 = true := by kernel_rfl

@[go_sem] def slices_Clone_int_r0 : List AO := [⟨(some 2), .op (.asg (.nl 1)), none⟩]
@[go_sem] def slices_Clone_int_r1 : List AO := [⟨(some 3), .op (.mv (.t 0)), none⟩,
  ⟨(some 4), .nilq 24 (.t 3) 24, none⟩]
@[go_sem] def slices_Clone_int_r2 : List AO := [⟨(some 2), .op (.asg (.nl 1)), none⟩]
@[go_sem] def slices_Clone_int_r3 : List AO := [⟨(some 5), .op (.bslice 24 3 1 0 [.lit (.int .i64 0)] []), none⟩,
  ⟨(some 6), .op (.mv (.t 0)), none⟩,
  ⟨(some 7), .op (.app 24 3 1 8 (.t 5) (.t 6)), none⟩,
  ⟨(some 2), .op (.asg (.t 7)), none⟩]
def slices_Clone_int_c : IC := (.seq (.reg slices_Clone_int_r0) (.seq (.seq (.reg slices_Clone_int_r1) (.cond (.t 4) (.seq (.reg slices_Clone_int_r2) .ret) .skip)) (.seq (.reg slices_Clone_int_r3) .ret)))
abbrev F_slices_Clone_int : Nat := 68
theorem slices_Clone_int_call {G : Nat → Option Value} {pre : List AV} {res : AV} (hsz : decide (pre.length ≤ 8) = true) (h : AW pg G 8 slices_Clone_int_c (endR [(.tmp 2)] res) (St.init pre)) : ACalls pg G F_slices_Clone_int pre res :=
  ACalls.of_walk (fn := Go.Proofs.Tryd.f68) (vs := [(ResultVar.tmp 2)]) (ic := slices_Clone_int_c) (by kernel_rfl) (by kernel_rfl) rfl (by kernel_rfl) (by kernel_rfl) (of_decide_eq_true (by kernel_rfl)) (by kernel_rfl) (by kernel_rfl) (by kernel_rfl) (of_decide_eq_true hsz) h
@[go_sem] theorem slices_Clone_int_fnB : fnB pg 68 = true := by kernel_rfl

@[go_sem] def plan_Same_1_r0 : List AO := [⟨(some 2), .op (.box 74 3 (.t 0)), none⟩,
  ⟨(some 3), .op (.box 74 3 (.t 1)), none⟩,
  ⟨(some 4), .op (.asg (.c (.bool false))), none⟩]
@[go_sem] def plan_Same_1_r1 : List AO := [⟨(some 5), .op (.faddr 74 0 (.t 2) 0), none⟩,
  ⟨(some 6), .op (.load 3 none (.t 5)), none⟩,
  ⟨(some 7), .op (.faddr 74 0 (.t 3) 0), none⟩,
  ⟨(some 8), .op (.load 3 none (.t 7)), none⟩,
  ⟨(some 9), .op (.bin .eql 3 0 (.t 6) (.t 8) 3), none⟩,
  ⟨(some 10), .op (.mv (.t 9)), none⟩,
  ⟨(some 11), .op (.faddr 74 1 (.t 2) 1), (some (5, 10, true))⟩,
  ⟨(some 12), .op (.load 54 (some 2) (.t 11)), (some (5, 10, true))⟩,
  ⟨(some 13), .op (.faddr 74 1 (.t 3) 1), (some (5, 10, true))⟩,
  ⟨(some 14), .op (.load 54 (some 2) (.t 13)), (some (5, 10, true))⟩,
  ⟨(some 15), .call 70 [(false, (.t 12)), (false, (.t 14))] [54, 54], (some (5, 10, true))⟩,
  ⟨(some 16), .op (.pick (.t 10) (.t 15) (.c (.bool false))), none⟩,
  ⟨(some 4), .op (.asg (.t 16)), none⟩]
def plan_Same_1_c : IC := (.seq (.reg plan_Same_1_r0) (.seq (.reg plan_Same_1_r1) .ret))
abbrev F_plan_Same_1 : Nat := 69
theorem plan_Same_1_call {G : Nat → Option Value} {pre : List AV} {res : AV} (hsz : decide (pre.length ≤ 17) = true) (h : AW pg G 17 plan_Same_1_c (endR [(.tmp 4)] res) (St.init pre)) : ACalls pg G F_plan_Same_1 pre res :=
  ACalls.of_walk (fn := Go.Proofs.Tryd.f69) (vs := [(ResultVar.tmp 4)]) (ic := plan_Same_1_c) (by kernel_rfl) (by kernel_rfl) rfl (by kernel_rfl) (by kernel_rfl) (of_decide_eq_true (by kernel_rfl)) (by kernel_rfl) (by kernel_rfl) (by kernel_rfl) (of_decide_eq_true hsz) h
@[go_sem] theorem plan_Same_1_fnB : fnB pg 69 = true := by kernel_rfl

@[go_sem] def shape_Same_r0 : List AO := [⟨(some 2), .op (.box 54 2 (.t 0)), none⟩,
  ⟨(some 3), .op (.box 54 2 (.t 1)), none⟩,
  ⟨(some 4), .op (.asg (.c (.bool false))), none⟩]
@[go_sem] def shape_Same_r1 : List AO := [⟨(some 5), .op (.faddr 54 1 (.t 2) 1), none⟩,
  ⟨(some 6), .op (.load 4 none (.t 5)), none⟩,
  ⟨(some 7), .op (.faddr 54 1 (.t 3) 1), none⟩,
  ⟨(some 8), .op (.load 4 none (.t 7)), none⟩,
  ⟨(some 9), .op (.bin .eql 4 1 (.t 6) (.t 8) 4), none⟩,
  ⟨(some 10), .op (.mv (.t 9)), none⟩,
  ⟨(some 11), .op (.faddr 54 0 (.t 2) 0), (some (5, 10, true))⟩,
  ⟨(some 12), .op (.load 24 none (.t 11)), (some (5, 10, true))⟩,
  ⟨(some 13), .op (.faddr 54 0 (.t 3) 0), (some (5, 10, true))⟩,
  ⟨(some 14), .op (.load 24 none (.t 13)), (some (5, 10, true))⟩,
  ⟨(some 15), .call 117 [(false, (.t 12)), (false, (.t 14))] [24, 24], (some (5, 10, true))⟩,
  ⟨(some 16), .op (.pick (.t 10) (.t 15) (.c (.bool false))), none⟩,
  ⟨(some 4), .op (.asg (.t 16)), none⟩]
def shape_Same_c : IC := (.seq (.reg shape_Same_r0) (.seq (.reg shape_Same_r1) .ret))
abbrev F_shape_Same : Nat := 70
theorem shape_Same_call {G : Nat → Option Value} {pre : List AV} {res : AV} (hsz : decide (pre.length ≤ 17) = true) (h : AW pg G 17 shape_Same_c (endR [(.tmp 4)] res) (St.init pre)) : ACalls pg G F_shape_Same pre res :=
  ACalls.of_walk (fn := Go.Proofs.Tryd.f70) (vs := [(ResultVar.tmp 4)]) (ic := shape_Same_c) (by kernel_rfl) (by kernel_rfl) rfl (by kernel_rfl) (by kernel_rfl) (of_decide_eq_true (by kernel_rfl)) (by kernel_rfl) (by kernel_rfl) (by kernel_rfl) (of_decide_eq_true hsz) h
@[go_sem] theorem shape_Same_fnB : fnB pg 70 = true := by kernel_rfl

@[go_sem] def slices_EqualFunc_View_r0 : List AO := [⟨(some 6), .op (.asg (.c (.bool false))), none⟩]
@[go_sem] def slices_EqualFunc_View_r1 : List AO := [⟨(some 10), .op (.mv (.t 0)), none⟩,
  ⟨(some 11), .op (.len 60 false (.t 10)), none⟩,
  ⟨(some 12), .op (.mv (.t 1)), none⟩,
  ⟨(some 13), .op (.len 60 false (.t 12)), none⟩,
  ⟨(some 14), .op (.bin .neq 3 0 (.t 11) (.t 13) 3), none⟩]
@[go_sem] def slices_EqualFunc_View_r2 : List AO := [⟨(some 6), .op (.asg (.c (.bool false))), none⟩]
@[go_sem] def slices_EqualFunc_View_r3 : List AO := [⟨(some 15), .op (.mv (.t 0)), none⟩,
  ⟨(some 16), .op (.len 60 false (.t 15)), none⟩,
  ⟨(some 17), .op (.mv (.c (.int .i64 (0)))), none⟩]
@[go_sem] def slices_EqualFunc_View_r4 : List AO := [⟨(some 18), .op (.bin .lss 3 0 (.t 17) (.t 16) 3), none⟩]
@[go_sem] def slices_EqualFunc_View_r5 : List AO := [⟨(some 19), .op (.mv (.t 17)), none⟩,
  ⟨(some 20), .op (.iaddr 60 3 (.t 15) (.t 17)), none⟩,
  ⟨(some 21), .op (.load 74 (some 3) (.t 20)), none⟩,
  ⟨(some 8), .op (.alloc 74 [.lit (.int .i64 0), .own 1 0 [], .lit (.bool false)]), none⟩,
  ⟨(some 7), .op (.asg (.t 19)), none⟩,
  ⟨none, .op (.store 74 3 (.t 8) (.t 21)), none⟩]
@[go_sem] def slices_EqualFunc_View_r6 : List AO := [⟨(some 22), .op (.mv (.t 1)), none⟩,
  ⟨(some 23), .op (.mv (.t 7)), none⟩,
  ⟨(some 24), .op (.iaddr 60 3 (.t 22) (.t 23)), none⟩,
  ⟨(some 25), .op (.load 74 (some 3) (.t 24)), none⟩,
  ⟨(some 9), .op (.alloc 74 [.lit (.int .i64 0), .own 1 0 [], .lit (.bool false)]), none⟩,
  ⟨none, .op (.store 74 3 (.t 9) (.t 25)), none⟩]
@[go_sem] def slices_EqualFunc_View_r7 : List AO := [⟨(some 26), .op (.mv (.t 2)), none⟩,
  ⟨(some 27), .op (.load 74 (some 3) (.t 8)), none⟩,
  ⟨(some 28), .op (.load 74 (some 3) (.t 9)), none⟩,
  ⟨(some 29), .callx (.t 26) [(false, (.t 27)), (false, (.t 28))] [.p 0, .p 1] [74, 74], none⟩,
  ⟨(some 30), .op (.un .not 4 (.t 29)), none⟩]
@[go_sem] def slices_EqualFunc_View_r8 : List AO := [⟨(some 6), .op (.asg (.c (.bool false))), none⟩]
@[go_sem] def slices_EqualFunc_View_r9 : List AO := [⟨(some 31), .op (.bin .add 3 0 (.t 17) (.c (.int .i64 (1))) 3), none⟩,
  ⟨(some 17), .op (.mv (.t 31)), none⟩]
def slices_EqualFunc_View_l0 : IC := (.seq (.reg slices_EqualFunc_View_r4) (.seq (.cond (.t 18) .skip (.exit 0)) (.seq (.block 1 (.seq (.reg slices_EqualFunc_View_r5) (.seq (.reg slices_EqualFunc_View_r6) (.seq (.reg slices_EqualFunc_View_r7) (.cond (.t 30) (.seq (.reg slices_EqualFunc_View_r8) .ret) .skip))))) (.reg slices_EqualFunc_View_r9))))
@[go_sem] def slices_EqualFunc_View_r10 : List AO := [⟨(some 6), .op (.asg (.c (.bool true))), none⟩]
def slices_EqualFunc_View_c : IC := (.seq (.reg slices_EqualFunc_View_r0) (.seq (.seq (.reg slices_EqualFunc_View_r1) (.cond (.t 14) (.seq (.reg slices_EqualFunc_View_r2) .ret) .skip)) (.seq (.seq (.reg slices_EqualFunc_View_r3) (.block 0 (.loop slices_EqualFunc_View_l0))) (.seq (.reg slices_EqualFunc_View_r10) .ret))))
abbrev F_slices_EqualFunc_View : Nat := 71
@[go_sem] theorem slices_EqualFunc_View_fnB : fnB pg 71 = true := by kernel_rfl
theorem slices_EqualFunc_View_callX {G : Nat → Option Value} {pre : List AV} {res : AV} {posts : List (Nat × AV)} {pins : List Nat} (hpin : slices_EqualFunc_View_c.pin pins = true) (hpo : posts.map (·.1) = pins) (hpr : (pins.all fun t => !([(ResultVar.tmp 6)].map rvT).contains t && decide (t < pre.length)) = true) (hnr : (posts.all fun p => noRef p.2) = true) (hsz : decide (pre.length ≤ 32) = true) (h : AW pg G 32 slices_EqualFunc_View_c (endRX [(.tmp 6)] res posts) (St.init pre)) : ACallsX pg G F_slices_EqualFunc_View pre res posts :=
  ACallsX.of_walk (fn := Go.Proofs.Tryd.f71) (vs := [(ResultVar.tmp 6)]) (ic := slices_EqualFunc_View_c) (by kernel_rfl) (by kernel_rfl) rfl (by kernel_rfl) (by kernel_rfl) (of_decide_eq_true (by kernel_rfl)) (by kernel_rfl) (by kernel_rfl) (by kernel_rfl) hpin (of_decide_eq_true hsz) hpo hpr hnr h

@[go_sem] def slices_EqualFunc_Tensor_r0 : List AO := [⟨(some 6), .op (.asg (.c (.bool false))), none⟩]
@[go_sem] def slices_EqualFunc_Tensor_r1 : List AO := [⟨(some 10), .op (.mv (.t 0)), none⟩,
  ⟨(some 11), .op (.len 61 false (.t 10)), none⟩,
  ⟨(some 12), .op (.mv (.t 1)), none⟩,
  ⟨(some 13), .op (.len 61 false (.t 12)), none⟩,
  ⟨(some 14), .op (.bin .neq 3 0 (.t 11) (.t 13) 3), none⟩]
@[go_sem] def slices_EqualFunc_Tensor_r2 : List AO := [⟨(some 6), .op (.asg (.c (.bool false))), none⟩]
@[go_sem] def slices_EqualFunc_Tensor_r3 : List AO := [⟨(some 15), .op (.mv (.t 0)), none⟩,
  ⟨(some 16), .op (.len 61 false (.t 15)), none⟩,
  ⟨(some 17), .op (.mv (.c (.int .i64 (0)))), none⟩]
@[go_sem] def slices_EqualFunc_Tensor_r4 : List AO := [⟨(some 18), .op (.bin .lss 3 0 (.t 17) (.t 16) 3), none⟩]
@[go_sem] def slices_EqualFunc_Tensor_r5 : List AO := [⟨(some 19), .op (.mv (.t 17)), none⟩,
  ⟨(some 20), .op (.iaddr 61 3 (.t 15) (.t 17)), none⟩,
  ⟨(some 21), .op (.load 56 (some 3) (.t 20)), none⟩,
  ⟨(some 8), .op (.alloc 56 [.own 1 0 [], .lit (.bool false), .own 1 0 []]), none⟩,
  ⟨(some 7), .op (.asg (.t 19)), none⟩,
  ⟨none, .op (.store 56 3 (.t 8) (.t 21)), none⟩]
@[go_sem] def slices_EqualFunc_Tensor_r6 : List AO := [⟨(some 22), .op (.mv (.t 1)), none⟩,
  ⟨(some 23), .op (.mv (.t 7)), none⟩,
  ⟨(some 24), .op (.iaddr 61 3 (.t 22) (.t 23)), none⟩,
  ⟨(some 25), .op (.load 56 (some 3) (.t 24)), none⟩,
  ⟨(some 9), .op (.alloc 56 [.own 1 0 [], .lit (.bool false), .own 1 0 []]), none⟩,
  ⟨none, .op (.store 56 3 (.t 9) (.t 25)), none⟩]
@[go_sem] def slices_EqualFunc_Tensor_r7 : List AO := [⟨(some 26), .op (.mv (.t 2)), none⟩,
  ⟨(some 27), .op (.load 56 (some 3) (.t 8)), none⟩,
  ⟨(some 28), .op (.load 56 (some 3) (.t 9)), none⟩,
  ⟨(some 29), .callx (.t 26) [(false, (.t 27)), (false, (.t 28))] [.p 0, .p 1] [56, 56], none⟩,
  ⟨(some 30), .op (.un .not 4 (.t 29)), none⟩]
@[go_sem] def slices_EqualFunc_Tensor_r8 : List AO := [⟨(some 6), .op (.asg (.c (.bool false))), none⟩]
@[go_sem] def slices_EqualFunc_Tensor_r9 : List AO := [⟨(some 31), .op (.bin .add 3 0 (.t 17) (.c (.int .i64 (1))) 3), none⟩,
  ⟨(some 17), .op (.mv (.t 31)), none⟩]
def slices_EqualFunc_Tensor_l0 : IC := (.seq (.reg slices_EqualFunc_Tensor_r4) (.seq (.cond (.t 18) .skip (.exit 0)) (.seq (.block 1 (.seq (.reg slices_EqualFunc_Tensor_r5) (.seq (.reg slices_EqualFunc_Tensor_r6) (.seq (.reg slices_EqualFunc_Tensor_r7) (.cond (.t 30) (.seq (.reg slices_EqualFunc_Tensor_r8) .ret) .skip))))) (.reg slices_EqualFunc_Tensor_r9))))
@[go_sem] def slices_EqualFunc_Tensor_r10 : List AO := [⟨(some 6), .op (.asg (.c (.bool true))), none⟩]
def slices_EqualFunc_Tensor_c : IC := (.seq (.reg slices_EqualFunc_Tensor_r0) (.seq (.seq (.reg slices_EqualFunc_Tensor_r1) (.cond (.t 14) (.seq (.reg slices_EqualFunc_Tensor_r2) .ret) .skip)) (.seq (.seq (.reg slices_EqualFunc_Tensor_r3) (.block 0 (.loop slices_EqualFunc_Tensor_l0))) (.seq (.reg slices_EqualFunc_Tensor_r10) .ret))))
abbrev F_slices_EqualFunc_Tensor : Nat := 72
@[go_sem] theorem slices_EqualFunc_Tensor_fnB : fnB pg 72 = true := by kernel_rfl
theorem slices_EqualFunc_Tensor_callX {G : Nat → Option Value} {pre : List AV} {res : AV} {posts : List (Nat × AV)} {pins : List Nat} (hpin : slices_EqualFunc_Tensor_c.pin pins = true) (hpo : posts.map (·.1) = pins) (hpr : (pins.all fun t => !([(ResultVar.tmp 6)].map rvT).contains t && decide (t < pre.length)) = true) (hnr : (posts.all fun p => noRef p.2) = true) (hsz : decide (pre.length ≤ 32) = true) (h : AW pg G 32 slices_EqualFunc_Tensor_c (endRX [(.tmp 6)] res posts) (St.init pre)) : ACallsX pg G F_slices_EqualFunc_Tensor pre res posts :=
  ACallsX.of_walk (fn := Go.Proofs.Tryd.f72) (vs := [(ResultVar.tmp 6)]) (ic := slices_EqualFunc_Tensor_c) (by kernel_rfl) (by kernel_rfl) rfl (by kernel_rfl) (by kernel_rfl) (of_decide_eq_true (by kernel_rfl)) (by kernel_rfl) (by kernel_rfl) (by kernel_rfl) hpin (of_decide_eq_true hsz) hpo hpr hnr h

@[go_sem] def tens_Same_r0 : List AO := [⟨(some 2), .op (.box 56 3 (.t 0)), none⟩,
  ⟨(some 3), .op (.box 56 3 (.t 1)), none⟩,
  ⟨(some 4), .op (.asg (.c (.bool false))), none⟩]
@[go_sem] def tens_Same_r1 : List AO := [⟨(some 5), .op (.faddr 56 0 (.t 2) 0), none⟩,
  ⟨(some 6), .op (.load 54 (some 2) (.t 5)), none⟩,
  ⟨(some 7), .op (.faddr 56 0 (.t 3) 0), none⟩,
  ⟨(some 8), .op (.load 54 (some 2) (.t 7)), none⟩,
  ⟨(some 9), .call 70 [(false, (.t 6)), (false, (.t 8))] [54, 54], none⟩,
  ⟨(some 10), .op (.mv (.t 9)), none⟩,
  ⟨(some 11), .op (.faddr 56 2 (.t 2) 1), (some (5, 10, true))⟩,
  ⟨(some 12), .op (.load 24 none (.t 11)), (some (5, 10, true))⟩,
  ⟨(some 13), .op (.faddr 56 2 (.t 3) 1), (some (5, 10, true))⟩,
  ⟨(some 14), .op (.load 24 none (.t 13)), (some (5, 10, true))⟩,
  ⟨(some 15), .call 117 [(false, (.t 12)), (false, (.t 14))] [24, 24], (some (5, 10, true))⟩,
  ⟨(some 16), .op (.pick (.t 10) (.t 15) (.c (.bool false))), none⟩,
  ⟨(some 4), .op (.asg (.t 16)), none⟩]
def tens_Same_c : IC := (.seq (.reg tens_Same_r0) (.seq (.reg tens_Same_r1) .ret))
abbrev F_tens_Same : Nat := 73
theorem tens_Same_call {G : Nat → Option Value} {pre : List AV} {res : AV} (hsz : decide (pre.length ≤ 17) = true) (h : AW pg G 17 tens_Same_c (endR [(.tmp 4)] res) (St.init pre)) : ACalls pg G F_tens_Same pre res :=
  ACalls.of_walk (fn := Go.Proofs.Tryd.f73) (vs := [(ResultVar.tmp 4)]) (ic := tens_Same_c) (by kernel_rfl) (by kernel_rfl) rfl (by kernel_rfl) (by kernel_rfl) (of_decide_eq_true (by kernel_rfl)) (by kernel_rfl) (by kernel_rfl) (by kernel_rfl) (of_decide_eq_true hsz) h
@[go_sem] theorem tens_Same_fnB : fnB pg 73 = true := by kernel_rfl

@[go_sem] def slices_EqualFunc_Desc_r0 : List AO := [⟨(some 6), .op (.asg (.c (.bool false))), none⟩]
@[go_sem] def slices_EqualFunc_Desc_r1 : List AO := [⟨(some 10), .op (.mv (.t 0)), none⟩,
  ⟨(some 11), .op (.len 62 false (.t 10)), none⟩,
  ⟨(some 12), .op (.mv (.t 1)), none⟩,
  ⟨(some 13), .op (.len 62 false (.t 12)), none⟩,
  ⟨(some 14), .op (.bin .neq 3 0 (.t 11) (.t 13) 3), none⟩]
@[go_sem] def slices_EqualFunc_Desc_r2 : List AO := [⟨(some 6), .op (.asg (.c (.bool false))), none⟩]
@[go_sem] def slices_EqualFunc_Desc_r3 : List AO := [⟨(some 15), .op (.mv (.t 0)), none⟩,
  ⟨(some 16), .op (.len 62 false (.t 15)), none⟩,
  ⟨(some 17), .op (.mv (.c (.int .i64 (0)))), none⟩]
@[go_sem] def slices_EqualFunc_Desc_r4 : List AO := [⟨(some 18), .op (.bin .lss 3 0 (.t 17) (.t 16) 3), none⟩]
@[go_sem] def slices_EqualFunc_Desc_r5 : List AO := [⟨(some 19), .op (.mv (.t 17)), none⟩,
  ⟨(some 20), .op (.iaddr 62 2 (.t 15) (.t 17)), none⟩,
  ⟨(some 21), .op (.load 54 (some 2) (.t 20)), none⟩,
  ⟨(some 8), .op (.alloc 54 [.own 1 0 [], .lit (.bool false)]), none⟩,
  ⟨(some 7), .op (.asg (.t 19)), none⟩,
  ⟨none, .op (.store 54 2 (.t 8) (.t 21)), none⟩]
@[go_sem] def slices_EqualFunc_Desc_r6 : List AO := [⟨(some 22), .op (.mv (.t 1)), none⟩,
  ⟨(some 23), .op (.mv (.t 7)), none⟩,
  ⟨(some 24), .op (.iaddr 62 2 (.t 22) (.t 23)), none⟩,
  ⟨(some 25), .op (.load 54 (some 2) (.t 24)), none⟩,
  ⟨(some 9), .op (.alloc 54 [.own 1 0 [], .lit (.bool false)]), none⟩,
  ⟨none, .op (.store 54 2 (.t 9) (.t 25)), none⟩]
@[go_sem] def slices_EqualFunc_Desc_r7 : List AO := [⟨(some 26), .op (.mv (.t 2)), none⟩,
  ⟨(some 27), .op (.load 54 (some 2) (.t 8)), none⟩,
  ⟨(some 28), .op (.load 54 (some 2) (.t 9)), none⟩,
  ⟨(some 29), .callx (.t 26) [(false, (.t 27)), (false, (.t 28))] [.p 0, .p 1] [54, 54], none⟩,
  ⟨(some 30), .op (.un .not 4 (.t 29)), none⟩]
@[go_sem] def slices_EqualFunc_Desc_r8 : List AO := [⟨(some 6), .op (.asg (.c (.bool false))), none⟩]
@[go_sem] def slices_EqualFunc_Desc_r9 : List AO := [⟨(some 31), .op (.bin .add 3 0 (.t 17) (.c (.int .i64 (1))) 3), none⟩,
  ⟨(some 17), .op (.mv (.t 31)), none⟩]
def slices_EqualFunc_Desc_l0 : IC := (.seq (.reg slices_EqualFunc_Desc_r4) (.seq (.cond (.t 18) .skip (.exit 0)) (.seq (.block 1 (.seq (.reg slices_EqualFunc_Desc_r5) (.seq (.reg slices_EqualFunc_Desc_r6) (.seq (.reg slices_EqualFunc_Desc_r7) (.cond (.t 30) (.seq (.reg slices_EqualFunc_Desc_r8) .ret) .skip))))) (.reg slices_EqualFunc_Desc_r9))))
@[go_sem] def slices_EqualFunc_Desc_r10 : List AO := [⟨(some 6), .op (.asg (.c (.bool true))), none⟩]
def slices_EqualFunc_Desc_c : IC := (.seq (.reg slices_EqualFunc_Desc_r0) (.seq (.seq (.reg slices_EqualFunc_Desc_r1) (.cond (.t 14) (.seq (.reg slices_EqualFunc_Desc_r2) .ret) .skip)) (.seq (.seq (.reg slices_EqualFunc_Desc_r3) (.block 0 (.loop slices_EqualFunc_Desc_l0))) (.seq (.reg slices_EqualFunc_Desc_r10) .ret))))
abbrev F_slices_EqualFunc_Desc : Nat := 74
@[go_sem] theorem slices_EqualFunc_Desc_fnB : fnB pg 74 = true := by kernel_rfl
theorem slices_EqualFunc_Desc_callX {G : Nat → Option Value} {pre : List AV} {res : AV} {posts : List (Nat × AV)} {pins : List Nat} (hpin : slices_EqualFunc_Desc_c.pin pins = true) (hpo : posts.map (·.1) = pins) (hpr : (pins.all fun t => !([(ResultVar.tmp 6)].map rvT).contains t && decide (t < pre.length)) = true) (hnr : (posts.all fun p => noRef p.2) = true) (hsz : decide (pre.length ≤ 32) = true) (h : AW pg G 32 slices_EqualFunc_Desc_c (endRX [(.tmp 6)] res posts) (St.init pre)) : ACallsX pg G F_slices_EqualFunc_Desc pre res posts :=
  ACallsX.of_walk (fn := Go.Proofs.Tryd.f74) (vs := [(ResultVar.tmp 6)]) (ic := slices_EqualFunc_Desc_c) (by kernel_rfl) (by kernel_rfl) rfl (by kernel_rfl) (by kernel_rfl) (of_decide_eq_true (by kernel_rfl)) (by kernel_rfl) (by kernel_rfl) (by kernel_rfl) hpin (of_decide_eq_true hsz) hpo hpr hnr h

@[go_sem] def slices_EqualFunc_Instr_r0 : List AO := [⟨(some 6), .op (.asg (.c (.bool false))), none⟩]
@[go_sem] def slices_EqualFunc_Instr_r1 : List AO := [⟨(some 10), .op (.mv (.t 0)), none⟩,
  ⟨(some 11), .op (.len 63 false (.t 10)), none⟩,
  ⟨(some 12), .op (.mv (.t 1)), none⟩,
  ⟨(some 13), .op (.len 63 false (.t 12)), none⟩,
  ⟨(some 14), .op (.bin .neq 3 0 (.t 11) (.t 13) 3), none⟩]
@[go_sem] def slices_EqualFunc_Instr_r2 : List AO := [⟨(some 6), .op (.asg (.c (.bool false))), none⟩]
@[go_sem] def slices_EqualFunc_Instr_r3 : List AO := [⟨(some 15), .op (.mv (.t 0)), none⟩,
  ⟨(some 16), .op (.len 63 false (.t 15)), none⟩,
  ⟨(some 17), .op (.mv (.c (.int .i64 (0)))), none⟩]
@[go_sem] def slices_EqualFunc_Instr_r4 : List AO := [⟨(some 18), .op (.bin .lss 3 0 (.t 17) (.t 16) 3), none⟩]
@[go_sem] def slices_EqualFunc_Instr_r5 : List AO := [⟨(some 19), .op (.mv (.t 17)), none⟩,
  ⟨(some 20), .op (.iaddr 63 6 (.t 15) (.t 17)), none⟩,
  ⟨(some 21), .op (.load 71 (some 6) (.t 20)), none⟩,
  ⟨(some 8), .op (.alloc 71 [.lit (.int .i64 0), .lit (.int .i64 0), .own 1 0 [], .own 1 0 [], .lit (.int .i64 0), .lit (.int .i64 0)]), none⟩,
  ⟨(some 7), .op (.asg (.t 19)), none⟩,
  ⟨none, .op (.store 71 6 (.t 8) (.t 21)), none⟩]
@[go_sem] def slices_EqualFunc_Instr_r6 : List AO := [⟨(some 22), .op (.mv (.t 1)), none⟩,
  ⟨(some 23), .op (.mv (.t 7)), none⟩,
  ⟨(some 24), .op (.iaddr 63 6 (.t 22) (.t 23)), none⟩,
  ⟨(some 25), .op (.load 71 (some 6) (.t 24)), none⟩,
  ⟨(some 9), .op (.alloc 71 [.lit (.int .i64 0), .lit (.int .i64 0), .own 1 0 [], .own 1 0 [], .lit (.int .i64 0), .lit (.int .i64 0)]), none⟩,
  ⟨none, .op (.store 71 6 (.t 9) (.t 25)), none⟩]
@[go_sem] def slices_EqualFunc_Instr_r7 : List AO := [⟨(some 26), .op (.mv (.t 2)), none⟩,
  ⟨(some 27), .op (.load 71 (some 6) (.t 8)), none⟩,
  ⟨(some 28), .op (.load 71 (some 6) (.t 9)), none⟩,
  ⟨(some 29), .callx (.t 26) [(false, (.t 27)), (false, (.t 28))] [.p 0, .p 1] [71, 71], none⟩,
  ⟨(some 30), .op (.un .not 4 (.t 29)), none⟩]
@[go_sem] def slices_EqualFunc_Instr_r8 : List AO := [⟨(some 6), .op (.asg (.c (.bool false))), none⟩]
@[go_sem] def slices_EqualFunc_Instr_r9 : List AO := [⟨(some 31), .op (.bin .add 3 0 (.t 17) (.c (.int .i64 (1))) 3), none⟩,
  ⟨(some 17), .op (.mv (.t 31)), none⟩]
def slices_EqualFunc_Instr_l0 : IC := (.seq (.reg slices_EqualFunc_Instr_r4) (.seq (.cond (.t 18) .skip (.exit 0)) (.seq (.block 1 (.seq (.reg slices_EqualFunc_Instr_r5) (.seq (.reg slices_EqualFunc_Instr_r6) (.seq (.reg slices_EqualFunc_Instr_r7) (.cond (.t 30) (.seq (.reg slices_EqualFunc_Instr_r8) .ret) .skip))))) (.reg slices_EqualFunc_Instr_r9))))
@[go_sem] def slices_EqualFunc_Instr_r10 : List AO := [⟨(some 6), .op (.asg (.c (.bool true))), none⟩]
def slices_EqualFunc_Instr_c : IC := (.seq (.reg slices_EqualFunc_Instr_r0) (.seq (.seq (.reg slices_EqualFunc_Instr_r1) (.cond (.t 14) (.seq (.reg slices_EqualFunc_Instr_r2) .ret) .skip)) (.seq (.seq (.reg slices_EqualFunc_Instr_r3) (.block 0 (.loop slices_EqualFunc_Instr_l0))) (.seq (.reg slices_EqualFunc_Instr_r10) .ret))))
abbrev F_slices_EqualFunc_Instr : Nat := 75
@[go_sem] theorem slices_EqualFunc_Instr_fnB : fnB pg 75 = true := by kernel_rfl
theorem slices_EqualFunc_Instr_callX {G : Nat → Option Value} {pre : List AV} {res : AV} {posts : List (Nat × AV)} {pins : List Nat} (hpin : slices_EqualFunc_Instr_c.pin pins = true) (hpo : posts.map (·.1) = pins) (hpr : (pins.all fun t => !([(ResultVar.tmp 6)].map rvT).contains t && decide (t < pre.length)) = true) (hnr : (posts.all fun p => noRef p.2) = true) (hsz : decide (pre.length ≤ 32) = true) (h : AW pg G 32 slices_EqualFunc_Instr_c (endRX [(.tmp 6)] res posts) (St.init pre)) : ACallsX pg G F_slices_EqualFunc_Instr pre res posts :=
  ACallsX.of_walk (fn := Go.Proofs.Tryd.f75) (vs := [(ResultVar.tmp 6)]) (ic := slices_EqualFunc_Instr_c) (by kernel_rfl) (by kernel_rfl) rfl (by kernel_rfl) (by kernel_rfl) (of_decide_eq_true (by kernel_rfl)) (by kernel_rfl) (by kernel_rfl) (by kernel_rfl) hpin (of_decide_eq_true hsz) hpo hpr hnr h

@[go_sem] def plan_sameInstr_r0 : List AO := [⟨(some 2), .op (.box 71 6 (.t 0)), none⟩,
  ⟨(some 3), .op (.box 71 6 (.t 1)), none⟩,
  ⟨(some 4), .op (.asg (.c (.bool false))), none⟩]
@[go_sem] def plan_sameInstr_r1 : List AO := [⟨(some 5), .op (.faddr 71 0 (.t 2) 0), none⟩,
  ⟨(some 6), .op (.load 3 none (.t 5)), none⟩,
  ⟨(some 7), .op (.faddr 71 0 (.t 3) 0), none⟩,
  ⟨(some 8), .op (.load 3 none (.t 7)), none⟩,
  ⟨(some 9), .op (.bin .eql 3 0 (.t 6) (.t 8) 3), none⟩,
  ⟨(some 10), .op (.mv (.t 9)), none⟩,
  ⟨(some 11), .op (.faddr 71 1 (.t 2) 1), (some (5, 10, true))⟩,
  ⟨(some 12), .op (.load 3 none (.t 11)), (some (5, 10, true))⟩,
  ⟨(some 13), .op (.faddr 71 1 (.t 3) 1), (some (5, 10, true))⟩,
  ⟨(some 14), .op (.load 3 none (.t 13)), (some (5, 10, true))⟩,
  ⟨(some 15), .op (.bin .eql 3 0 (.t 12) (.t 14) 3), (some (5, 10, true))⟩,
  ⟨(some 16), .op (.pick (.t 10) (.t 15) (.c (.bool false))), none⟩,
  ⟨(some 17), .op (.mv (.t 16)), none⟩,
  ⟨(some 18), .op (.faddr 71 2 (.t 2) 2), (some (12, 17, true))⟩,
  ⟨(some 19), .op (.load 24 none (.t 18)), (some (12, 17, true))⟩,
  ⟨(some 20), .op (.faddr 71 2 (.t 3) 2), (some (12, 17, true))⟩,
  ⟨(some 21), .op (.load 24 none (.t 20)), (some (12, 17, true))⟩,
  ⟨(some 22), .call 117 [(false, (.t 19)), (false, (.t 21))] [24, 24], (some (12, 17, true))⟩,
  ⟨(some 23), .op (.pick (.t 17) (.t 22) (.c (.bool false))), none⟩,
  ⟨(some 24), .op (.mv (.t 23)), none⟩,
  ⟨(some 25), .op (.faddr 71 3 (.t 2) 3), (some (19, 24, true))⟩,
  ⟨(some 26), .op (.load 24 none (.t 25)), (some (19, 24, true))⟩,
  ⟨(some 27), .op (.faddr 71 3 (.t 3) 3), (some (19, 24, true))⟩,
  ⟨(some 28), .op (.load 24 none (.t 27)), (some (19, 24, true))⟩,
  ⟨(some 29), .call 117 [(false, (.t 26)), (false, (.t 28))] [24, 24], (some (19, 24, true))⟩,
  ⟨(some 30), .op (.pick (.t 24) (.t 29) (.c (.bool false))), none⟩,
  ⟨(some 31), .op (.mv (.t 30)), none⟩,
  ⟨(some 32), .op (.faddr 71 4 (.t 2) 4), (some (26, 31, true))⟩,
  ⟨(some 33), .op (.load 3 none (.t 32)), (some (26, 31, true))⟩,
  ⟨(some 34), .op (.faddr 71 4 (.t 3) 4), (some (26, 31, true))⟩,
  ⟨(some 35), .op (.load 3 none (.t 34)), (some (26, 31, true))⟩,
  ⟨(some 36), .op (.bin .eql 3 0 (.t 33) (.t 35) 3), (some (26, 31, true))⟩,
  ⟨(some 37), .op (.pick (.t 31) (.t 36) (.c (.bool false))), none⟩,
  ⟨(some 38), .op (.mv (.t 37)), none⟩,
  ⟨(some 39), .op (.faddr 71 5 (.t 2) 5), (some (33, 38, true))⟩,
  ⟨(some 40), .op (.load 3 none (.t 39)), (some (33, 38, true))⟩,
  ⟨(some 41), .op (.faddr 71 5 (.t 3) 5), (some (33, 38, true))⟩,
  ⟨(some 42), .op (.load 3 none (.t 41)), (some (33, 38, true))⟩,
  ⟨(some 43), .op (.bin .eql 3 0 (.t 40) (.t 42) 3), (some (33, 38, true))⟩,
  ⟨(some 44), .op (.pick (.t 38) (.t 43) (.c (.bool false))), none⟩,
  ⟨(some 4), .op (.asg (.t 44)), none⟩]
def plan_sameInstr_c : IC := (.seq (.reg plan_sameInstr_r0) (.seq (.reg plan_sameInstr_r1) .ret))
abbrev F_plan_sameInstr : Nat := 76
theorem plan_sameInstr_call {G : Nat → Option Value} {pre : List AV} {res : AV} (hsz : decide (pre.length ≤ 45) = true) (h : AW pg G 45 plan_sameInstr_c (endR [(.tmp 4)] res) (St.init pre)) : ACalls pg G F_plan_sameInstr pre res :=
  ACalls.of_walk (fn := Go.Proofs.Tryd.f76) (vs := [(ResultVar.tmp 4)]) (ic := plan_sameInstr_c) (by kernel_rfl) (by kernel_rfl) rfl (by kernel_rfl) (by kernel_rfl) (of_decide_eq_true (by kernel_rfl)) (by kernel_rfl) (by kernel_rfl) (by kernel_rfl) (of_decide_eq_true hsz) h
@[go_sem] theorem plan_sameInstr_fnB : fnB pg 76 = true := by kernel_rfl

@[go_sem] theorem lodgeref_SameViews_fnB : fnB pg 77 = true := by kernel_rfl

@[go_sem] theorem lodgeref_SameTensors_fnB : fnB pg 78 = true := by kernel_rfl

@[go_sem] theorem lodgeref_SameDescs_fnB : fnB pg 79 = true := by kernel_rfl

@[go_sem] theorem lodgeref_SameInstrs_fnB : fnB pg 80 = true := by kernel_rfl

@[go_sem] def slices_Equal_int_r0 : List AO := [⟨(some 4), .op (.asg (.c (.bool false))), none⟩]
@[go_sem] def slices_Equal_int_r1 : List AO := [⟨(some 6), .op (.mv (.t 0)), none⟩,
  ⟨(some 7), .op (.len 24 false (.t 6)), none⟩,
  ⟨(some 8), .op (.mv (.t 1)), none⟩,
  ⟨(some 9), .op (.len 24 false (.t 8)), none⟩,
  ⟨(some 10), .op (.bin .neq 3 0 (.t 7) (.t 9) 3), none⟩]
@[go_sem] def slices_Equal_int_r2 : List AO := [⟨(some 4), .op (.asg (.c (.bool false))), none⟩]
@[go_sem] def slices_Equal_int_r3 : List AO := [⟨(some 11), .op (.mv (.t 0)), none⟩,
  ⟨(some 12), .op (.len 24 false (.t 11)), none⟩,
  ⟨(some 13), .op (.mv (.c (.int .i64 (0)))), none⟩]
@[go_sem] def slices_Equal_int_r4 : List AO := [⟨(some 14), .op (.bin .lss 3 0 (.t 13) (.t 12) 3), none⟩]
@[go_sem] def slices_Equal_int_r5 : List AO := [⟨(some 15), .op (.mv (.t 13)), none⟩,
  ⟨(some 5), .op (.asg (.t 15)), none⟩]
@[go_sem] def slices_Equal_int_r6 : List AO := [⟨(some 16), .op (.mv (.t 0)), none⟩,
  ⟨(some 17), .op (.mv (.t 5)), none⟩,
  ⟨(some 18), .op (.iaddr 24 1 (.t 16) (.t 17)), none⟩,
  ⟨(some 19), .op (.load 3 none (.t 18)), none⟩,
  ⟨(some 20), .op (.mv (.t 1)), none⟩,
  ⟨(some 21), .op (.mv (.t 5)), none⟩,
  ⟨(some 22), .op (.iaddr 24 1 (.t 20) (.t 21)), none⟩,
  ⟨(some 23), .op (.load 3 none (.t 22)), none⟩,
  ⟨(some 24), .op (.bin .neq 3 0 (.t 19) (.t 23) 3), none⟩]
@[go_sem] def slices_Equal_int_r7 : List AO := [⟨(some 4), .op (.asg (.c (.bool false))), none⟩]
@[go_sem] def slices_Equal_int_r8 : List AO := [⟨(some 25), .op (.bin .add 3 0 (.t 13) (.c (.int .i64 (1))) 3), none⟩,
  ⟨(some 13), .op (.mv (.t 25)), none⟩]
def slices_Equal_int_l0 : IC := (.seq (.reg slices_Equal_int_r4) (.seq (.cond (.t 14) .skip (.exit 0)) (.seq (.block 1 (.seq (.reg slices_Equal_int_r5) (.seq (.draw slices_Equal_int_r6 [[], [], [0, 1], [2], [], [], [4, 5], [6], [3, 7]]) (.cond (.t 24) (.seq (.reg slices_Equal_int_r7) .ret) .skip)))) (.reg slices_Equal_int_r8))))
@[go_sem] def slices_Equal_int_r9 : List AO := [⟨(some 4), .op (.asg (.c (.bool true))), none⟩]
def slices_Equal_int_c : IC := (.seq (.reg slices_Equal_int_r0) (.seq (.seq (.reg slices_Equal_int_r1) (.cond (.t 10) (.seq (.reg slices_Equal_int_r2) .ret) .skip)) (.seq (.seq (.reg slices_Equal_int_r3) (.block 0 (.loop slices_Equal_int_l0))) (.seq (.reg slices_Equal_int_r9) .ret))))
abbrev F_slices_Equal_int : Nat := 117
theorem slices_Equal_int_call {G : Nat → Option Value} {pre : List AV} {res : AV} (hsz : decide (pre.length ≤ 26) = true) (h : AW pg G 26 slices_Equal_int_c (endR [(.tmp 4)] res) (St.init pre)) : ACalls pg G F_slices_Equal_int pre res :=
  ACalls.of_walk (fn := Go.Proofs.Tryd.f117) (vs := [(ResultVar.tmp 4)]) (ic := slices_Equal_int_c) (by kernel_rfl) (by kernel_rfl) rfl (by kernel_rfl) (by kernel_rfl) (of_decide_eq_true (by kernel_rfl)) (by kernel_rfl) (by kernel_rfl) (by kernel_rfl) (of_decide_eq_true hsz) h
@[go_sem] theorem slices_Equal_int_fnB : fnB pg 117 = true := by kernel_rfl

@[go_sem] theorem lodgeref_SameView_fnB : fnB pg 118 = true := by kernel_rfl

@[go_sem] theorem lodgeref_SameInstr_fnB : fnB pg 120 = true := by kernel_rfl

@[go_sem] theorem lodgelaw14_PlanCopies_fnB : fnB pg 7 = true := by kernel_rfl

end Go.Ideal.Tryd
end

section
set_option linter.unusedVariables false
set_option linter.unusedSimpArgs false
set_option maxRecDepth 10000
namespace Go.Ideal.Tryd
/-! ### plans -/
structure Ds where
  shape : List Int
  wide : Bool
  deriving DecidableEq
structure Tn where
  shape : List Int
  wide : Bool
  data : List Int
  deriving DecidableEq
structure Vw where
  off : Int
  shape : List Int
  wide : Bool
  deriving DecidableEq
structure In where
  op : Int
  dst : Int
  ins : List Int
  args : List Int
  frm : Int
  to : Int
  deriving DecidableEq
structure Pl where
  size : Int
  views : List Vw
  consts : List Tn
  weights : List Ds
  code : List In
  input : Int
  output : Int
  deriving DecidableEq
def eD (d : Ds) : List AV := [slI d.shape, lb d.wide]
def eT (d : Tn) : List AV := [slI d.shape, lb d.wide, slI d.data]
def eV (d : Vw) : List AV := [li d.off, slI d.shape, lb d.wide]
def eI (d : In) : List AV := [li d.op, li d.dst, slI d.ins, slI d.args, li d.frm, li d.to]
def oD (d : Ds) : List AV := [owI d.shape, lb d.wide]
def oT (d : Tn) : List AV := [owI d.shape, lb d.wide, owI d.data]
def oV (d : Vw) : List AV := [li d.off, owI d.shape, lb d.wide]
def oI (d : In) : List AV := [li d.op, li d.dst, owI d.ins, owI d.args, li d.frm, li d.to]
@[go_sem] theorem eD_len {xs : List Ds} : (fm eD xs).length = xs.length * 2 := fm_len fun _ => rfl
@[go_sem] theorem eD_get {xs : List Ds} {i : Nat} (h : i < xs.length) : ((fm eD xs).drop (i * 2)).take 2 = [slI xs[i].shape, lb xs[i].wide] := fm_get (f := eD) (k := 2) (fun _ => rfl) h
@[go_sem] theorem eD_take {xs : List Ds} : (fm eD xs).take (xs.length * 2) = fm eD xs := fm_take fun _ => rfl
@[go_sem] theorem eD_noOwn {xs : List Ds} : noOwnL (fm eD xs) = true := fm_noOwn fun _ => rfl
@[go_sem] theorem eD_frz {xs : List Ds} : frzL (fm eD xs) = fm eD xs := by
  rw [fm_frz]; congr 1
@[go_sem] theorem oD_len {xs : List Ds} : (fm oD xs).length = xs.length * 2 := fm_len fun _ => rfl
@[go_sem] theorem oD_take {xs : List Ds} : (fm oD xs).take (xs.length * 2) = fm oD xs := fm_take fun _ => rfl
@[go_sem] theorem oD_frz {xs : List Ds} : frzL (fm oD xs) = fm eD xs := by
  rw [fm_frz]
  congr 1
  funext n
  simp [oD, eD, go_sem]
@[go_sem] theorem oD_noImm {xs : List Ds} : noImmL (fm oD xs) = true := fm_noImm fun n => by simp [oD, go_sem]
@[go_sem] theorem eT_len {xs : List Tn} : (fm eT xs).length = xs.length * 3 := fm_len fun _ => rfl
@[go_sem] theorem eT_get {xs : List Tn} {i : Nat} (h : i < xs.length) : ((fm eT xs).drop (i * 3)).take 3 = [slI xs[i].shape, lb xs[i].wide, slI xs[i].data] := fm_get (f := eT) (k := 3) (fun _ => rfl) h
@[go_sem] theorem eT_take {xs : List Tn} : (fm eT xs).take (xs.length * 3) = fm eT xs := fm_take fun _ => rfl
@[go_sem] theorem eT_noOwn {xs : List Tn} : noOwnL (fm eT xs) = true := fm_noOwn fun _ => rfl
@[go_sem] theorem eT_frz {xs : List Tn} : frzL (fm eT xs) = fm eT xs := by
  rw [fm_frz]; congr 1
@[go_sem] theorem oT_len {xs : List Tn} : (fm oT xs).length = xs.length * 3 := fm_len fun _ => rfl
@[go_sem] theorem oT_take {xs : List Tn} : (fm oT xs).take (xs.length * 3) = fm oT xs := fm_take fun _ => rfl
@[go_sem] theorem oT_frz {xs : List Tn} : frzL (fm oT xs) = fm eT xs := by
  rw [fm_frz]
  congr 1
  funext n
  simp [oT, eT, go_sem]
@[go_sem] theorem oT_noImm {xs : List Tn} : noImmL (fm oT xs) = true := fm_noImm fun n => by simp [oT, go_sem]
@[go_sem] theorem eV_len {xs : List Vw} : (fm eV xs).length = xs.length * 3 := fm_len fun _ => rfl
@[go_sem] theorem eV_get {xs : List Vw} {i : Nat} (h : i < xs.length) : ((fm eV xs).drop (i * 3)).take 3 = [li xs[i].off, slI xs[i].shape, lb xs[i].wide] := fm_get (f := eV) (k := 3) (fun _ => rfl) h
@[go_sem] theorem eV_take {xs : List Vw} : (fm eV xs).take (xs.length * 3) = fm eV xs := fm_take fun _ => rfl
@[go_sem] theorem eV_noOwn {xs : List Vw} : noOwnL (fm eV xs) = true := fm_noOwn fun _ => rfl
@[go_sem] theorem eV_frz {xs : List Vw} : frzL (fm eV xs) = fm eV xs := by
  rw [fm_frz]; congr 1
@[go_sem] theorem oV_len {xs : List Vw} : (fm oV xs).length = xs.length * 3 := fm_len fun _ => rfl
@[go_sem] theorem oV_take {xs : List Vw} : (fm oV xs).take (xs.length * 3) = fm oV xs := fm_take fun _ => rfl
@[go_sem] theorem oV_frz {xs : List Vw} : frzL (fm oV xs) = fm eV xs := by
  rw [fm_frz]
  congr 1
  funext n
  simp [oV, eV, go_sem]
@[go_sem] theorem oV_noImm {xs : List Vw} : noImmL (fm oV xs) = true := fm_noImm fun n => by simp [oV, go_sem]
@[go_sem] theorem eI_len {xs : List In} : (fm eI xs).length = xs.length * 6 := fm_len fun _ => rfl
@[go_sem] theorem eI_get {xs : List In} {i : Nat} (h : i < xs.length) : ((fm eI xs).drop (i * 6)).take 6 = [li xs[i].op, li xs[i].dst, slI xs[i].ins, slI xs[i].args, li xs[i].frm, li xs[i].to] := fm_get (f := eI) (k := 6) (fun _ => rfl) h
@[go_sem] theorem eI_take {xs : List In} : (fm eI xs).take (xs.length * 6) = fm eI xs := fm_take fun _ => rfl
@[go_sem] theorem eI_noOwn {xs : List In} : noOwnL (fm eI xs) = true := fm_noOwn fun _ => rfl
@[go_sem] theorem eI_frz {xs : List In} : frzL (fm eI xs) = fm eI xs := by
  rw [fm_frz]; congr 1
@[go_sem] theorem oI_len {xs : List In} : (fm oI xs).length = xs.length * 6 := fm_len fun _ => rfl
@[go_sem] theorem oI_take {xs : List In} : (fm oI xs).take (xs.length * 6) = fm oI xs := fm_take fun _ => rfl
@[go_sem] theorem oI_frz {xs : List In} : frzL (fm oI xs) = fm eI xs := by
  rw [fm_frz]
  congr 1
  funext n
  simp [oI, eI, go_sem]
@[go_sem] theorem oI_noImm {xs : List In} : noImmL (fm oI xs) = true := fm_noImm fun n => by simp [oI, go_sem]
abbrev slD (xs : List Ds) : AV := .sl xs.length (fm eD xs)
abbrev slT (xs : List Tn) : AV := .sl xs.length (fm eT xs)
abbrev slV (xs : List Vw) : AV := .sl xs.length (fm eV xs)
abbrev slJ (xs : List In) : AV := .sl xs.length (fm eI xs)
def eP (p : Pl) : List AV := [li p.size, slV p.views, slT p.consts, slD p.weights, slJ p.code, li p.input, li p.output]
section
variable {G : Nat → Option Value} {bk : Nat → Nat × Nat} {Q : Exit → St → Prop} {st : St}
/-! ### copies -/
theorem clone68 (xs : List Int) (h : xs.length < 2 ^ 40) : ACalls pg G F_slices_Clone_int [slI xs] (owI xs) := by
  refine slices_Clone_int_call rfl ?_
  simp (disch := omega) [go_sem, slices_Clone_int_c]
  refine nq_sl fun b hb => ?_
  cases b with
  | true =>
    have : xs = [] := by simpa using hb rfl
    subst this
    simp (disch := omega) [go_sem]
  | false => simp (disch := omega) [go_sem]
theorem cldesc66 (sh : List Int) (w : Bool) (hlen : sh.length < 2 ^ 40) : ACalls pg G F_shape_Clone [.agg [slI sh, lb w]] (.agg [owI sh, lb w]) := by
  refine shape_Clone_call rfl ?_
  simp (disch := omega) [go_sem, shape_Clone_c]
  refine aw_draw ?_
  simp (disch := omega) [go_sem]
  refine dCal_pure (clone68 sh hlen) rfl (noImm_owI _) (by simp) [5] (by simp) (by simp (disch := omega) [go_sem]) ?_
  simp (disch := omega) [go_sem]
  refine dFin_i (by decide) fun s2 hs he => ?_
  simp (disch := omega) [go_sem, hs]
end
end Go.Ideal.Tryd
end

section
set_option linter.unusedVariables false
set_option linter.unusedSimpArgs false
set_option maxRecDepth 10000
namespace Go.Ideal.Tryd
def eqP {α : Type} (p : α → α → Bool) : List α → List α → Bool
  | [], [] => true
  | x :: xs, y :: ys => p x y && eqP p xs ys
  | _, _ => false
theorem eqP_len {α : Type} {p : α → α → Bool} : ∀ {a b : List α}, a.length ≠ b.length → eqP p a b = false
  | [], [], h => absurd rfl h
  | [], _ :: _, _ => rfl
  | _ :: _, [], _ => rfl
  | x :: xs, y :: ys, h => by rw [eqP, eqP_len (by simpa using h), Bool.and_false]
theorem eqP_eq {α : Type} [DecidableEq α] {p : α → α → Bool} : ∀ {a b : List α}, (∀ x ∈ a, ∀ y ∈ b, p x y = decide (x = y)) → eqP p a b = decide (a = b)
  | [], [], h => by simp [eqP]
  | [], _ :: _, _ => by simp [eqP]
  | _ :: _, [], _ => by simp [eqP]
  | x :: xs, y :: ys, h => by
    rw [eqP, h x (by simp) y (by simp), eqP_eq fun a ha b hb => h a (by simp [ha]) b (by simp [hb])]
    by_cases h1 : x = y <;> by_cases h2 : xs = ys <;> simp [h1, h2]
theorem eqP_drop {α : Type} {p : α → α → Bool} {a b : List α} {i : Nat} (h : i < a.length) (h2 : i < b.length) : eqP p (a.drop i) (b.drop i) = (p a[i] b[i] && eqP p (a.drop (i + 1)) (b.drop (i + 1))) := by
  rw [List.drop_eq_getElem_cons h, List.drop_eq_getElem_cons h2]; rfl
section
variable {G : Nat → Option Value} {bk : Nat → Nat × Nat} {Q : Exit → St → Prop} {st : St}
theorem equal117 (a b : List Int) (ha : a.length < 2 ^ 62) (hb : b.length < 2 ^ 62) : ACalls pg G F_slices_Equal_int [slI a, slI b] (lb (decide (a = b))) := by
  refine slices_Equal_int_call rfl ?_
  by_cases hl : a.length = b.length
  · have hl' : (a.length : Int) = b.length := by omega
    simp (disch := omega) [go_sem, slices_Equal_int_c, hl']
    refine aw_loop Nat (fun i st => i ≤ a.length ∧ eqP (fun x y => decide (x = y)) (a.drop i) (b.drop i) = decide (a = b) ∧ st.s 0 = slI a ∧ st.s 1 = slI b ∧ st.s 11 = slI a ∧ st.s 12 = li a.length ∧ st.s 13 = li i) (fun i => a.length - i) 0 ⟨by simp, eqP_eq fun _ _ _ _ => rfl, by simp (disch := omega) [go_sem, hl']⟩ ?_
    rintro i st K ⟨hi, hm, h⟩ hK
    by_cases hlt : i < a.length
    · have hlt2 : i < b.length := by omega
      rw [eqP_drop hlt hlt2] at hm
      simp (disch := omega) [go_sem, slices_Equal_int_l0, h, hlt]
      refine aw_draw ?_
      simp (disch := omega) [go_sem, h, hlt]
      refine dFin_i (by decide) fun s2 hs he => ?_
      by_cases k : a[i] = b[i]
      · rw [decide_eq_true k, Bool.true_and] at hm
        simp (disch := omega) [go_sem, hs, h, k]
        exact hK (i + 1) _ ⟨by omega, hm, by simp (disch := omega) [go_sem, hs, h]⟩ (by omega)
      · rw [decide_eq_false k, Bool.false_and] at hm
        simp (disch := omega) [go_sem, hs, h, k, ← hm]
    · obtain rfl : i = a.length := by omega
      rw [List.drop_length, hl, List.drop_length, eqP] at hm
      simp (disch := omega) [go_sem, slices_Equal_int_l0, h, ← hm]
  · have hl' : ¬ (a.length : Int) = b.length := by omega
    have hn : a ≠ b := fun h => hl (by rw [h])
    simp (disch := omega) [go_sem, slices_Equal_int_c, hl', hn]
theorem eqf71 {f : FuncId} (hf : fnB pg f = true) {p : Vw → Vw → Bool} (a b : List Vw) (hp : ∀ x ∈ a, ∀ y ∈ b, ACallsX pg G f [.agg (eV x), .agg (eV y)] (lb (p x y)) []) (ha : a.length < 2 ^ 62) (hb : b.length < 2 ^ 62) : ACallsX pg G F_slices_EqualFunc_View [slV a, slV b, .fn f [] []] (lb (eqP p a b)) [] := by
  refine slices_EqualFunc_View_callX (pins := []) (by kernel_rfl) rfl rfl rfl rfl ?_
  by_cases hl : a.length = b.length
  · have hl' : (a.length : Int) = b.length := by omega
    simp (disch := omega) [go_sem, slices_EqualFunc_View_c, hl']
    refine aw_loop Nat (fun i st => i ≤ a.length ∧ eqP p (a.drop i) (b.drop i) = eqP p a b ∧ st.s 0 = slV a ∧ st.s 1 = slV b ∧ st.s 2 = .fn f [] [] ∧ st.s 15 = slV a ∧ st.s 16 = li a.length ∧ st.s 17 = li i) (fun i => a.length - i) 0 ⟨by simp, rfl, by simp (disch := omega) [go_sem, hl']⟩ ?_
    rintro i st K ⟨hi, hm, h⟩ hK
    by_cases hlt : i < a.length
    · have hlt2 : i < b.length := by omega
      rw [eqP_drop hlt hlt2] at hm
      simp (disch := omega) [go_sem, slices_EqualFunc_View_l0, h, hlt, hlt2, hf]
      refine clx_pure (hp _ (List.getElem_mem hlt) _ (List.getElem_mem hlt2)) rfl rfl rfl rfl ?_
      cases k : p a[i] b[i] with
      | true =>
        rw [k, Bool.true_and] at hm
        simp (disch := omega) [go_sem, h]
        exact hK (i + 1) _ ⟨by omega, hm, by simp (disch := omega) [go_sem, h]⟩ (by omega)
      | false =>
        rw [k, Bool.false_and] at hm
        simp (disch := omega) [go_sem, h, ← hm]
    · obtain rfl : i = a.length := by omega
      rw [List.drop_length, hl, List.drop_length, eqP] at hm
      simp (disch := omega) [go_sem, slices_EqualFunc_View_l0, h, ← hm]
  · have hl' : ¬ (a.length : Int) = b.length := by omega
    simp (disch := omega) [go_sem, slices_EqualFunc_View_c, hl', eqP_len hl]
theorem eqf72 {f : FuncId} (hf : fnB pg f = true) {p : Tn → Tn → Bool} (a b : List Tn) (hp : ∀ x ∈ a, ∀ y ∈ b, ACallsX pg G f [.agg (eT x), .agg (eT y)] (lb (p x y)) []) (ha : a.length < 2 ^ 62) (hb : b.length < 2 ^ 62) : ACallsX pg G F_slices_EqualFunc_Tensor [slT a, slT b, .fn f [] []] (lb (eqP p a b)) [] := by
  refine slices_EqualFunc_Tensor_callX (pins := []) (by kernel_rfl) rfl rfl rfl rfl ?_
  by_cases hl : a.length = b.length
  · have hl' : (a.length : Int) = b.length := by omega
    simp (disch := omega) [go_sem, slices_EqualFunc_Tensor_c, hl']
    refine aw_loop Nat (fun i st => i ≤ a.length ∧ eqP p (a.drop i) (b.drop i) = eqP p a b ∧ st.s 0 = slT a ∧ st.s 1 = slT b ∧ st.s 2 = .fn f [] [] ∧ st.s 15 = slT a ∧ st.s 16 = li a.length ∧ st.s 17 = li i) (fun i => a.length - i) 0 ⟨by simp, rfl, by simp (disch := omega) [go_sem, hl']⟩ ?_
    rintro i st K ⟨hi, hm, h⟩ hK
    by_cases hlt : i < a.length
    · have hlt2 : i < b.length := by omega
      rw [eqP_drop hlt hlt2] at hm
      simp (disch := omega) [go_sem, slices_EqualFunc_Tensor_l0, h, hlt, hlt2, hf]
      refine clx_pure (hp _ (List.getElem_mem hlt) _ (List.getElem_mem hlt2)) rfl rfl rfl rfl ?_
      cases k : p a[i] b[i] with
      | true =>
        rw [k, Bool.true_and] at hm
        simp (disch := omega) [go_sem, h]
        exact hK (i + 1) _ ⟨by omega, hm, by simp (disch := omega) [go_sem, h]⟩ (by omega)
      | false =>
        rw [k, Bool.false_and] at hm
        simp (disch := omega) [go_sem, h, ← hm]
    · obtain rfl : i = a.length := by omega
      rw [List.drop_length, hl, List.drop_length, eqP] at hm
      simp (disch := omega) [go_sem, slices_EqualFunc_Tensor_l0, h, ← hm]
  · have hl' : ¬ (a.length : Int) = b.length := by omega
    simp (disch := omega) [go_sem, slices_EqualFunc_Tensor_c, hl', eqP_len hl]
theorem eqf74 {f : FuncId} (hf : fnB pg f = true) {p : Ds → Ds → Bool} (a b : List Ds) (hp : ∀ x ∈ a, ∀ y ∈ b, ACallsX pg G f [.agg (eD x), .agg (eD y)] (lb (p x y)) []) (ha : a.length < 2 ^ 62) (hb : b.length < 2 ^ 62) : ACallsX pg G F_slices_EqualFunc_Desc [slD a, slD b, .fn f [] []] (lb (eqP p a b)) [] := by
  refine slices_EqualFunc_Desc_callX (pins := []) (by kernel_rfl) rfl rfl rfl rfl ?_
  by_cases hl : a.length = b.length
  · have hl' : (a.length : Int) = b.length := by omega
    simp (disch := omega) [go_sem, slices_EqualFunc_Desc_c, hl']
    refine aw_loop Nat (fun i st => i ≤ a.length ∧ eqP p (a.drop i) (b.drop i) = eqP p a b ∧ st.s 0 = slD a ∧ st.s 1 = slD b ∧ st.s 2 = .fn f [] [] ∧ st.s 15 = slD a ∧ st.s 16 = li a.length ∧ st.s 17 = li i) (fun i => a.length - i) 0 ⟨by simp, rfl, by simp (disch := omega) [go_sem, hl']⟩ ?_
    rintro i st K ⟨hi, hm, h⟩ hK
    by_cases hlt : i < a.length
    · have hlt2 : i < b.length := by omega
      rw [eqP_drop hlt hlt2] at hm
      simp (disch := omega) [go_sem, slices_EqualFunc_Desc_l0, h, hlt, hlt2, hf]
      refine clx_pure (hp _ (List.getElem_mem hlt) _ (List.getElem_mem hlt2)) rfl rfl rfl rfl ?_
      cases k : p a[i] b[i] with
      | true =>
        rw [k, Bool.true_and] at hm
        simp (disch := omega) [go_sem, h]
        exact hK (i + 1) _ ⟨by omega, hm, by simp (disch := omega) [go_sem, h]⟩ (by omega)
      | false =>
        rw [k, Bool.false_and] at hm
        simp (disch := omega) [go_sem, h, ← hm]
    · obtain rfl : i = a.length := by omega
      rw [List.drop_length, hl, List.drop_length, eqP] at hm
      simp (disch := omega) [go_sem, slices_EqualFunc_Desc_l0, h, ← hm]
  · have hl' : ¬ (a.length : Int) = b.length := by omega
    simp (disch := omega) [go_sem, slices_EqualFunc_Desc_c, hl', eqP_len hl]
theorem eqf75 {f : FuncId} (hf : fnB pg f = true) {p : In → In → Bool} (a b : List In) (hp : ∀ x ∈ a, ∀ y ∈ b, ACallsX pg G f [.agg (eI x), .agg (eI y)] (lb (p x y)) []) (ha : a.length < 2 ^ 62) (hb : b.length < 2 ^ 62) : ACallsX pg G F_slices_EqualFunc_Instr [slJ a, slJ b, .fn f [] []] (lb (eqP p a b)) [] := by
  refine slices_EqualFunc_Instr_callX (pins := []) (by kernel_rfl) rfl rfl rfl rfl ?_
  by_cases hl : a.length = b.length
  · have hl' : (a.length : Int) = b.length := by omega
    simp (disch := omega) [go_sem, slices_EqualFunc_Instr_c, hl']
    refine aw_loop Nat (fun i st => i ≤ a.length ∧ eqP p (a.drop i) (b.drop i) = eqP p a b ∧ st.s 0 = slJ a ∧ st.s 1 = slJ b ∧ st.s 2 = .fn f [] [] ∧ st.s 15 = slJ a ∧ st.s 16 = li a.length ∧ st.s 17 = li i) (fun i => a.length - i) 0 ⟨by simp, rfl, by simp (disch := omega) [go_sem, hl']⟩ ?_
    rintro i st K ⟨hi, hm, h⟩ hK
    by_cases hlt : i < a.length
    · have hlt2 : i < b.length := by omega
      rw [eqP_drop hlt hlt2] at hm
      simp (disch := omega) [go_sem, slices_EqualFunc_Instr_l0, h, hlt, hlt2, hf]
      refine clx_pure (hp _ (List.getElem_mem hlt) _ (List.getElem_mem hlt2)) rfl rfl rfl rfl ?_
      cases k : p a[i] b[i] with
      | true =>
        rw [k, Bool.true_and] at hm
        simp (disch := omega) [go_sem, h]
        exact hK (i + 1) _ ⟨by omega, hm, by simp (disch := omega) [go_sem, h]⟩ (by omega)
      | false =>
        rw [k, Bool.false_and] at hm
        simp (disch := omega) [go_sem, h, ← hm]
    · obtain rfl : i = a.length := by omega
      rw [List.drop_length, hl, List.drop_length, eqP] at hm
      simp (disch := omega) [go_sem, slices_EqualFunc_Instr_l0, h, ← hm]
  · have hl' : ¬ (a.length : Int) = b.length := by omega
    simp (disch := omega) [go_sem, slices_EqualFunc_Instr_c, hl', eqP_len hl]
theorem sSame70 (a b : Ds) (ha : a.shape.length < 2 ^ 62) (hb : b.shape.length < 2 ^ 62) : ACalls pg G F_shape_Same [.agg (eD a), .agg (eD b)] (lb (decide (a = b))) := by
  refine shape_Same_call rfl ?_
  obtain ⟨s1, w1⟩ := a
  obtain ⟨s2, w2⟩ := b
  by_cases k : w1 = w2
  · simp (disch := omega) [go_sem, shape_Same_c, eD, k]
    refine cal_pure (equal117 s1 s2 ha hb) rfl rfl ?_
    simp (disch := omega) [go_sem, Ds.mk.injEq, k]
  · simp (disch := omega) [go_sem, shape_Same_c, eD, k, Ds.mk.injEq]
theorem tSame73 (a b : Tn) (ha : a.shape.length < 2 ^ 62) (hb : b.shape.length < 2 ^ 62) (ha2 : a.data.length < 2 ^ 62) (hb2 : b.data.length < 2 ^ 62) : ACalls pg G F_tens_Same [.agg (eT a), .agg (eT b)] (lb (decide (a = b))) := by
  refine tens_Same_call rfl ?_
  obtain ⟨s1, w1, d1⟩ := a
  obtain ⟨s2, w2, d2⟩ := b
  simp (disch := omega) [go_sem, tens_Same_c, eT]
  refine cal_pure (sSame70 ⟨s1, w1⟩ ⟨s2, w2⟩ ha hb) rfl rfl ?_
  by_cases k : (⟨s1, w1⟩ : Ds) = ⟨s2, w2⟩
  · simp (disch := omega) [go_sem, k]
    refine cal_pure (equal117 d1 d2 ha2 hb2) rfl rfl ?_
    obtain ⟨rfl, rfl⟩ : s1 = s2 ∧ w1 = w2 := by simpa using k
    simp (disch := omega) [go_sem, Tn.mk.injEq]
  · simp (disch := omega) [go_sem, k]
    exact fun h1 h2 _ => k (by rw [h1, h2])
theorem vSame69 (a b : Vw) (ha : a.shape.length < 2 ^ 62) (hb : b.shape.length < 2 ^ 62) : ACalls pg G 69 [.agg (eV a), .agg (eV b)] (lb (decide (a = b))) := by
  refine plan_Same_1_call rfl ?_
  obtain ⟨o1, s1, w1⟩ := a
  obtain ⟨o2, s2, w2⟩ := b
  by_cases k : o1 = o2
  · simp (disch := omega) [go_sem, plan_Same_1_c, eV, k]
    refine cal_pure (sSame70 ⟨s1, w1⟩ ⟨s2, w2⟩ ha hb) rfl rfl ?_
    simp (disch := omega) [go_sem, Vw.mk.injEq, k, Ds.mk.injEq]
  · simp (disch := omega) [go_sem, plan_Same_1_c, eV, k, Vw.mk.injEq]
theorem iSame76 (a b : In) (ha : a.ins.length < 2 ^ 62) (hb : b.ins.length < 2 ^ 62) (ha2 : a.args.length < 2 ^ 62) (hb2 : b.args.length < 2 ^ 62) : ACalls pg G F_plan_sameInstr [.agg (eI a), .agg (eI b)] (lb (decide (a = b))) := by
  refine plan_sameInstr_call rfl ?_
  obtain ⟨o1, d1, i1, a1, f1, t1⟩ := a
  obtain ⟨o2, d2, i2, a2, f2, t2⟩ := b
  simp only at ha hb ha2 hb2
  by_cases k1 : o1 = o2
  · subst k1
    by_cases k2 : d1 = d2
    · subst k2
      simp (disch := omega) [go_sem, plan_sameInstr_c, eI]
      refine cal_pure (equal117 i1 i2 ha hb) rfl rfl ?_
      by_cases k3 : i1 = i2
      · subst k3
        simp (disch := omega) [go_sem]
        refine cal_pure (equal117 a1 a2 ha2 hb2) rfl rfl ?_
        by_cases k4 : a1 = a2
        · subst k4
          by_cases k5 : f1 = f2
          · subst k5
            by_cases k6 : t1 = t2 <;> simp (disch := omega) [go_sem, k6, In.mk.injEq]
          · simp (disch := omega) [go_sem, k5, In.mk.injEq]
        · simp (disch := omega) [go_sem, k4, In.mk.injEq]
      · simp (disch := omega) [go_sem, k3, In.mk.injEq]
    · simp (disch := omega) [go_sem, plan_sameInstr_c, eI, k2, In.mk.injEq]
  · simp (disch := omega) [go_sem, plan_sameInstr_c, eI, k1, In.mk.injEq]
/-- Nothing of it is too long for a machine. -/
structure Pl.fin (p : Pl) : Prop where
  vl : p.views.length < 2 ^ 62
  cl : p.consts.length < 2 ^ 62
  wl : p.weights.length < 2 ^ 62
  il : p.code.length < 2 ^ 62
  vs : ∀ x ∈ p.views, x.shape.length < 2 ^ 62
  cs : ∀ x ∈ p.consts, x.shape.length < 2 ^ 62 ∧ x.data.length < 2 ^ 62
  ws : ∀ x ∈ p.weights, x.shape.length < 2 ^ 62
  is : ∀ x ∈ p.code, x.ins.length < 2 ^ 62 ∧ x.args.length < 2 ^ 62
theorem pSame35 (p q : Pl) (hp : p.fin) (hq : q.fin) : ACalls pg G F_plan_Same [.agg (eP p), .agg (eP q)] (lb (decide (p = q))) := by
  refine plan_Same_call rfl ?_
  have c1 := eqf71 (G := G) (f := 69) plan_Same_1_fnB (p := fun x y => decide (x = y)) p.views q.views (fun x hx y hy => (vSame69 x y (hp.vs x hx) (hq.vs y hy)).toX (by simp [noRef])) hp.vl hq.vl
  have c2 := eqf72 (G := G) (f := 73) tens_Same_fnB (p := fun x y => decide (x = y)) p.consts q.consts (fun x hx y hy => (tSame73 x y (hp.cs x hx).1 (hq.cs y hy).1 (hp.cs x hx).2 (hq.cs y hy).2).toX (by simp [noRef])) hp.cl hq.cl
  have c3 := eqf74 (G := G) (f := 70) shape_Same_fnB (p := fun x y => decide (x = y)) p.weights q.weights (fun x hx y hy => (sSame70 x y (hp.ws x hx) (hq.ws y hy)).toX (by simp [noRef])) hp.wl hq.wl
  have c4 := eqf75 (G := G) (f := 76) plan_sameInstr_fnB (p := fun x y => decide (x = y)) p.code q.code (fun x hx y hy => (iSame76 x y (hp.is x hx).1 (hq.is y hy).1 (hp.is x hx).2 (hq.is y hy).2).toX (by simp [noRef])) hp.il hq.il
  rw [eqP_eq fun _ _ _ _ => rfl] at c1 c2 c3 c4
  obtain ⟨s1, v1, k1, w1, i1, p1, o1⟩ := p
  obtain ⟨s2, v2, k2, w2, i2, p2, o2⟩ := q
  simp only at c1 c2 c3 c4
  clear hp hq
  by_cases e1 : s1 = s2
  · subst e1
    by_cases e2 : p1 = p2
    · subst e2
      by_cases e3 : o1 = o2
      · subst e3
        simp (disch := omega) [go_sem, plan_Same_c, eP]
        refine clx_pure c1 rfl rfl rfl rfl ?_
        by_cases e4 : v1 = v2
        · subst e4
          simp (disch := omega) [go_sem]
          refine clx_pure c2 rfl rfl rfl rfl ?_
          by_cases e5 : k1 = k2
          · subst e5
            simp (disch := omega) [go_sem]
            refine clx_pure c3 rfl rfl rfl rfl ?_
            by_cases e6 : w1 = w2
            · subst e6
              simp (disch := omega) [go_sem]
              refine clx_pure c4 rfl rfl rfl rfl ?_
              by_cases e7 : i1 = i2 <;> simp (disch := omega) [go_sem, e7, Pl.mk.injEq]
            · simp (disch := omega) [go_sem, e6, Pl.mk.injEq]
          · simp (disch := omega) [go_sem, e5, Pl.mk.injEq]
        · simp (disch := omega) [go_sem, e4, Pl.mk.injEq]
      · simp (disch := omega) [go_sem, plan_Same_c, eP, e3, Pl.mk.injEq]
    · simp (disch := omega) [go_sem, plan_Same_c, eP, e2, Pl.mk.injEq]
  · simp (disch := omega) [go_sem, plan_Same_c, eP, e1, Pl.mk.injEq]
end
end Go.Ideal.Tryd
end

section
set_option linter.unusedVariables false
set_option linter.unusedSimpArgs false
set_option maxRecDepth 100000
namespace Go.Ideal.Tryd
open Go.RowKit Go.Extern.Stop Go.Stop Go.Extern Go.Proofs

/-! ### errors.Is over sentinels: Go's own text, walked -/
theorem isTypeOf (v : Value) (w : World) : (Extern.ReflectliteType.typeOf #[.iface 231 v]).run Go.Proofs.Tryd.prog w = .ok (.iface 203 (.agg #[.pointer (some ⟨22, 231, none⟩)])) w := by kernel_rfl
theorem isComparable (w : World) : ((Extern.ReflectliteType.method fun t => do Go.Extern.Rtype.noPackHeld "Comparable" t; (fun a => Value.bool a.comparable) <$> typeInfo t) #[.agg #[.pointer (some ⟨22, 231, none⟩)]]).run Go.Proofs.Tryd.prog w = .ok (.bool true) w := by kernel_rfl
theorem isMethodComparable (v : Value) (w : World) : (Go.method 363 203 v "Comparable").run Go.Proofs.Tryd.prog w = .ok (204, v) w := by kernel_rfl
theorem isComp : (Go.Proofs.Tryd.prog.info? 231).map (·.comparable) = some true := by kernel_rfl
theorem isSize : (Go.Proofs.Tryd.prog.info? 251).map (·.size) = some 1 := by kernel_rfl
theorem noIsE (v : Value) (xT : TypeId) (w : World) : (Instr.typeAssert (.iface 231 v) xT 205 true).run Go.Proofs.Tryd.prog w = .ok (.tuple #[.nilIface, .bool false]) w := run_typeAssert_lacksB Go.Proofs.Tryd.underlying205 (by kernel_rfl) (by kernel_rfl) v xT w
theorem noUnwrapE (v : Value) (xT : TypeId) (w : World) : (Instr.typeAssert (.iface 231 v) xT 208 true).run Go.Proofs.Tryd.prog w = .ok (.tuple #[.nilIface, .bool false]) w := run_typeAssert_lacksB Go.Proofs.Tryd.underlying208 (by kernel_rfl) (by kernel_rfl) v xT w
theorem noUnwrapsE (v : Value) (xT : TypeId) (w : World) : (Instr.typeAssert (.iface 231 v) xT 209 true).run Go.Proofs.Tryd.prog w = .ok (.tuple #[.nilIface, .bool false]) w := run_typeAssert_lacksB Go.Proofs.Tryd.underlying209 (by kernel_rfl) (by kernel_rfl) v xT w
theorem is_same (a : Addr) (w : World) :
    Calls Go.Proofs.Tryd.prog 124 #[.iface 231 (.pointer (some a)), .iface 231 (.pointer (some a))] w fun e w' => e = .returned (.bool true) ∧ w' = w := by
  obtain ⟨i, hi, hcmp⟩ := Option.map_eq_some_iff.1 isComp
  obtain ⟨j, hj, hjs⟩ := Option.map_eq_some_iff.1 isSize
  have h8 := @run_callFunc_extern Go.Proofs.Tryd.prog 150 _ Extern.ReflectliteType.typeOf Go.Proofs.Tryd.func150 (by kernel_rfl) (by kernel_rfl) (by kernel_rfl) (by kernel_rfl)
  have h32 := @run_callFunc_extern Go.Proofs.Tryd.prog 204 _ (Extern.ReflectliteType.method fun t => do Go.Extern.Rtype.noPackHeld "Comparable" t; pure (.bool (← typeInfo t).comparable)) Go.Proofs.Tryd.func204 (by kernel_rfl) (by kernel_rfl) (by kernel_rfl) (by kernel_rfl)
  have tT := isTypeOf
  have cT := isComparable
  have mR := isMethodComparable
  have heq := run_eql_iface_ptr_same (P := Go.Proofs.Tryd.prog) w a Go.Proofs.Tryd.underlying26 Go.Proofs.Tryd.underlying231 hi hcmp hj
  go_enter Go.Proofs.Tryd.func124, Go.Proofs.Tryd.ntmps124
  go_wp2
  refine wp_loop_rounds 1 ?_
  rw [rounds_succ]
  go_wp2
  go_ret
  exact ⟨rfl, rfl⟩
theorem is_nil (b : Addr) (w : World) :
    Calls Go.Proofs.Tryd.prog 124 #[.nilIface, .iface 231 (.pointer (some b))] w fun e w' => e = .returned (.bool false) ∧ w' = w := by
  have hn := run_eql_iface_nil_left (P := Go.Proofs.Tryd.prog) w 231 (.pointer (some b)) Go.Proofs.Tryd.underlying26
  go_enter Go.Proofs.Tryd.func124, Go.Proofs.Tryd.ntmps124
  go_wp2
  go_ret
  exact ⟨rfl, rfl⟩
theorem is_other (a b : Addr) (ca cb : Array Value) (ta tb : TypeId) (w : World) (hne : a ≠ b) (ha : w.heap[a.block]? = some (.cells ca ta (0, 0))) (hb : w.heap[b.block]? = some (.cells cb tb (0, 0))) :
    Calls Go.Proofs.Tryd.prog 124 #[.iface 231 (.pointer (some a)), .iface 231 (.pointer (some b))] w fun e w' => e = .returned (.bool false) ∧ w' = w := by
  obtain ⟨i, hi, hcmp⟩ := Option.map_eq_some_iff.1 isComp
  obtain ⟨j, hj, hjs⟩ := Option.map_eq_some_iff.1 isSize
  have h8 := @run_callFunc_extern Go.Proofs.Tryd.prog 150 _ Extern.ReflectliteType.typeOf Go.Proofs.Tryd.func150 (by kernel_rfl) (by kernel_rfl) (by kernel_rfl) (by kernel_rfl)
  have h32 := @run_callFunc_extern Go.Proofs.Tryd.prog 204 _ (Extern.ReflectliteType.method fun t => do Go.Extern.Rtype.noPackHeld "Comparable" t; pure (.bool (← typeInfo t).comparable)) Go.Proofs.Tryd.func204 (by kernel_rfl) (by kernel_rfl) (by kernel_rfl) (by kernel_rfl)
  have tT := isTypeOf
  have cT := isComparable
  have mR := isMethodComparable
  have nE := noIsE
  have uE := noUnwrapE
  have vE := noUnwrapsE
  have heq := run_eql_iface_ptr_other (P := Go.Proofs.Tryd.prog) w Go.Proofs.Tryd.underlying26 Go.Proofs.Tryd.underlying231 hi hcmp hj (by rw [hjs]; decide) hne ha hb
  go_enter Go.Proofs.Tryd.func124, Go.Proofs.Tryd.ntmps124
  go_wp2
  refine wp_loop_rounds 1 ?_
  rw [rounds_succ]
  go_wp2
  go_ret
  exact ⟨rfl, rfl⟩
theorem is124 {G : Nat → Option Value} {bk : Nat → Nat × Nat} (hS : Sent G bk) {e : Er} (he : e = .nil ∨ ∃ g, g < 21 ∧ e = .s g) {k : Nat} (hk : k < 21) : ACalls pg G 124 [encE bk e, sv bk k] (lb (match e with | .s g => decide (g = k) | _ => false)) := by
  intro w args A ow hsz hA how hG hpre
  obtain ⟨l⟩ := args
  match l, hsz with
  | [x, y], _ =>
    have h0 := hpre 0 _ rfl
    have h1 := hpre 1 _ rfl
    have hx : (Array.mk [x, y]).getD 0 undef = x := rfl
    have hy : (Array.mk [x, y]).getD 1 undef = y := rfl
    rw [hx] at h0
    rw [hy] at h1
    simp only [R] at h1
    have ret : ∀ b : Bool, Ret w A (fun b => ow b ≠ none) w (lb b) (.bool b) := fun b => ⟨Nat.le_refl _, rfl, rfl, rfl, fun _ _ _ => rfl, noB, fun _ h => h.elim, by simp only [R]⟩
    rcases he with rfl | ⟨g, hg, rfl⟩
    · simp only [encE, R] at h0
      subst h0 h1
      refine (is_nil _ w).mono ?_
      rintro e w' ⟨rfl, rfl⟩
      exact ⟨_, rfl, ret false⟩
    · simp only [encE, R] at h0
      subst h0 h1
      by_cases hgk : g = k
      · subst hgk
        refine (is_same _ w).mono ?_
        rintro e w' ⟨rfl, rfl⟩
        simp only [decide_true]
        exact ⟨_, rfl, ret true⟩
      · have key : ∀ g, g < 21 → ∃ c t, w.heap[(bk g).1]? = some (.cells c t (0, 0)) := fun g hg => by
          obtain ⟨v, hv⟩ := Option.isSome_iff_exists.1 (hS.blk g hg)
          obtain ⟨c, t, hc, _⟩ := (hG _ v hv).1
          exact ⟨c, t, hc⟩
        obtain ⟨c1, t1, e1⟩ := key g hg
        obtain ⟨c2, t2, e2⟩ := key k hk
        refine (is_other ⟨(bk g).1, (bk g).2, none⟩ ⟨(bk k).1, (bk k).2, none⟩ c1 c2 t1 t2 w (fun he => hgk (hS.inj g k hg hk (by
          simp only [Addr.mk.injEq, and_true] at he
          exact Prod.ext he.1 he.2))) e1 e2).mono ?_
        rintro e w' ⟨rfl, rfl⟩
        simp only [hgk, decide_false]
        exact ⟨_, rfl, ret false⟩
end Go.Ideal.Tryd
end
