/- Part Pl of the proof: a machine with trees for values, its soundness, and walks on it. -/
import Derived.Test.YtfdhkijgolgnfaaDoorPk

section
set_option linter.unusedVariables false
set_option maxRecDepth 10000
namespace Go.Ideal.Tryd
@[go_sem] theorem lodgelaw17_GraphBounds_fnB : fnB pg 8 = true := by kernel_rfl

@[go_sem] theorem lodgelaw17_GraphBack_fnB : fnB pg 9 = true := by kernel_rfl

@[go_sem] def lodgesee_Is_r0 : List AO := [⟨(some 4), .op (.asg (.c (.bool false))), none⟩]
@[go_sem] def lodgesee_Is_r1 : List AO := [⟨(some 5), .op (.mv (.t 0)), none⟩,
  ⟨(some 6), .op (.mv (.t 1)), none⟩,
  ⟨(some 7), .call 57 [(false, (.t 6))] [3], none⟩,
  ⟨(some 8), .call 18 [(false, (.t 5)), (false, (.t 7))] [26, 30], none⟩,
  ⟨(some 4), .op (.asg (.t 8)), none⟩]
def lodgesee_Is_c : IC := (.seq (.reg lodgesee_Is_r0) (.seq (.reg lodgesee_Is_r1) .ret))
abbrev F_lodgesee_Is : Nat := 37
theorem lodgesee_Is_call {G : Nat → Option Value} {pre : List AV} {res : AV} (hsz : decide (pre.length ≤ 9) = true) (h : AW pg G 9 lodgesee_Is_c (endR [(.tmp 4)] res) (St.init pre)) : ACalls pg G F_lodgesee_Is pre res :=
  ACalls.of_walk (fn := Go.Proofs.Tryd.f37) (vs := [(ResultVar.tmp 4)]) (ic := lodgesee_Is_c) (by kernel_rfl) (by kernel_rfl) rfl (by kernel_rfl) (by kernel_rfl) (of_decide_eq_true (by kernel_rfl)) (by kernel_rfl) (by kernel_rfl) (by kernel_rfl) (of_decide_eq_true hsz) h
@[go_sem] theorem lodgesee_Is_fnB : fnB pg 37 = true := by kernel_rfl

@[go_sem] theorem graph_Read_fnB : fnB pg 38 = true := by kernel_rfl

@[go_sem] theorem graph_Same_fnB : fnB pg 39 = true := by kernel_rfl

@[go_sem] theorem graph_Clone_fnB : fnB pg 40 = true := by kernel_rfl

@[go_sem] theorem lodgeref_Bytes_fnB : fnB pg 41 = true := by kernel_rfl

@[go_sem] def plan_Reader_Head_r0 : List AO := [⟨(some 4), .op (.mv (.t 0)), none⟩,
  ⟨(some 5), .op (.nilck (.t 4)), none⟩,
  ⟨(some 6), .op (.faddr 130 0 (.t 5) 0), none⟩,
  ⟨(some 7), .op (.load 44 none (.t 6)), none⟩,
  ⟨(some 8), .op (.len 44 false (.t 7)), none⟩,
  ⟨(some 9), .op (.mv (.t 1)), none⟩,
  ⟨(some 10), .op (.len 9 true (.t 9)), none⟩,
  ⟨(some 11), .op (.bin .lss 3 0 (.t 8) (.t 10) 3), none⟩]
@[go_sem] def plan_Reader_Head_r1 : List AO := [⟨(some 12), .op (.mv (.t 0)), none⟩,
  ⟨(some 13), .op (.load 26 none (.g 4)), none⟩,
  ⟨(some 14), .op (.nilck (.t 12)), none⟩,
  ⟨(some 15), .op (.faddr 130 2 (.t 14) 2), none⟩,
  ⟨none, .op (.store 26 1 (.t 15) (.t 13)), none⟩]
@[go_sem] def plan_Reader_Head_r2 : List AO := [⟨(some 16), .op (.mv (.t 0)), none⟩,
  ⟨(some 17), .op (.nilck (.t 16)), none⟩,
  ⟨(some 18), .op (.faddr 130 0 (.t 17) 0), none⟩,
  ⟨(some 19), .op (.load 44 none (.t 18)), none⟩,
  ⟨(some 20), .op (.mv (.t 1)), none⟩,
  ⟨(some 21), .op (.len 9 true (.t 20)), none⟩,
  ⟨(some 22), .op (.slice 44 1 (.t 19) none (some (.t 21)) none), none⟩,
  ⟨(some 23), .op (.conv 44 9 .str (.t 22)), none⟩,
  ⟨(some 24), .op (.mv (.t 1)), none⟩,
  ⟨(some 25), .op (.bin .neq 9 0 (.t 23) (.t 24) 9), none⟩]
@[go_sem] def plan_Reader_Head_r3 : List AO := [⟨(some 26), .op (.mv (.t 0)), none⟩,
  ⟨(some 27), .op (.load 26 none (.g 5)), none⟩,
  ⟨(some 28), .callx (.f 121) [(false, (.c (.int .i64 (0)))), (false, (.t 27))] [.x (.t 26), .p 0, .p 1] [128, 3, 26], none⟩]
@[go_sem] def plan_Reader_Head_r4 : List AO := [⟨(some 29), .op (.mv (.t 0)), none⟩,
  ⟨(some 30), .op (.mv (.t 1)), none⟩,
  ⟨(some 31), .op (.len 9 true (.t 30)), none⟩,
  ⟨(some 32), .op (.nilck (.t 29)), none⟩,
  ⟨(some 33), .op (.faddr 130 1 (.t 32) 1), none⟩,
  ⟨none, .op (.store 3 1 (.t 33) (.t 31)), none⟩]
def plan_Reader_Head_c : IC := (.seq (.seq (.reg plan_Reader_Head_r0) (.cond (.t 11) (.seq (.reg plan_Reader_Head_r1) .ret) .skip)) (.seq (.seq (.reg plan_Reader_Head_r2) (.cond (.t 25) (.reg plan_Reader_Head_r3) .skip)) (.reg plan_Reader_Head_r4)))
abbrev F_plan_Reader_Head : Nat := 81
@[go_sem] theorem plan_Reader_Head_fnB : fnB pg 81 = true := by kernel_rfl
theorem plan_Reader_Head_callX {G : Nat → Option Value} {pre : List AV} {res : AV} {posts : List (Nat × AV)} {pins : List Nat} (hpin : plan_Reader_Head_c.pin pins = true) (hpo : posts.map (·.1) = pins) (hpr : (pins.all fun t => !([].map rvT).contains t && decide (t < pre.length)) = true) (hnr : (posts.all fun p => noRef p.2) = true) (hsz : decide (pre.length ≤ 34) = true) (h : AW pg G 34 plan_Reader_Head_c (endRX [] res posts) (St.init pre)) : ACallsX pg G F_plan_Reader_Head pre res posts :=
  ACallsX.of_walk (fn := Go.Proofs.Tryd.f81) (vs := []) (ic := plan_Reader_Head_c) (by kernel_rfl) (by kernel_rfl) rfl (by kernel_rfl) (by kernel_rfl) (of_decide_eq_true (by kernel_rfl)) (by kernel_rfl) (by kernel_rfl) (by kernel_rfl) hpin (of_decide_eq_true hsz) hpo hpr hnr h

@[go_sem] def plan_Reader_Few_r0 : List AO := [⟨(some 6), .op (.asg (.c (.int .i64 (0)))), none⟩]
@[go_sem] def plan_Reader_Few_r1 : List AO := [⟨(some 9), .op (.mv (.t 0)), none⟩,
  ⟨(some 10), .op (.nilck (.t 9)), none⟩,
  ⟨(some 11), .op (.faddr 130 1 (.t 10) 1), none⟩,
  ⟨(some 12), .op (.load 3 none (.t 11)), none⟩,
  ⟨(some 7), .op (.asg (.t 12)), none⟩]
@[go_sem] def plan_Reader_Few_r2 : List AO := [⟨(some 13), .op (.mv (.t 2)), none⟩,
  ⟨(some 14), .callx (.t 13) [] [] [], none⟩,
  ⟨(some 8), .op (.asg (.t 14)), none⟩]
@[go_sem] def plan_Reader_Few_r3 : List AO := [⟨(some 15), .op (.mv (.t 0)), none⟩,
  ⟨(some 16), .op (.nilck (.t 15)), none⟩,
  ⟨(some 17), .op (.faddr 130 2 (.t 16) 2), none⟩,
  ⟨(some 18), .op (.load 26 none (.t 17)), none⟩,
  ⟨(some 19), .op (.bin .eql 26 2 (.t 18) (.c .nilIface) 26), none⟩,
  ⟨(some 20), .op (.mv (.t 19)), none⟩,
  ⟨(some 21), .op (.mv (.t 8)), (some (5, 20, true))⟩,
  ⟨(some 22), .op (.mv (.t 1)), (some (5, 20, true))⟩,
  ⟨(some 23), .op (.bin .gtr 3 0 (.t 21) (.t 22) 3), (some (5, 20, true))⟩,
  ⟨(some 24), .op (.pick (.t 20) (.t 23) (.c (.bool false))), none⟩]
@[go_sem] def plan_Reader_Few_r4 : List AO := [⟨(some 25), .op (.mv (.t 0)), none⟩,
  ⟨(some 26), .op (.mv (.t 7)), none⟩,
  ⟨(some 27), .op (.load 26 none (.g 2)), none⟩,
  ⟨(some 28), .callx (.f 121) [(false, (.t 26)), (false, (.t 27))] [.x (.t 25), .p 0, .p 1] [128, 3, 26], none⟩]
@[go_sem] def plan_Reader_Few_r5 : List AO := [⟨(some 29), .op (.mv (.t 0)), none⟩,
  ⟨(some 30), .op (.nilck (.t 29)), none⟩,
  ⟨(some 31), .op (.faddr 130 2 (.t 30) 2), none⟩,
  ⟨(some 32), .op (.load 26 none (.t 31)), none⟩,
  ⟨(some 33), .op (.bin .neq 26 2 (.t 32) (.c .nilIface) 26), none⟩]
@[go_sem] def plan_Reader_Few_r6 : List AO := [⟨(some 6), .op (.asg (.c (.int .i64 (0)))), none⟩]
@[go_sem] def plan_Reader_Few_r7 : List AO := [⟨(some 34), .op (.mv (.t 8)), none⟩,
  ⟨(some 6), .op (.asg (.t 34)), none⟩]
def plan_Reader_Few_c : IC := (.seq (.reg plan_Reader_Few_r0) (.seq (.reg plan_Reader_Few_r1) (.seq (.reg plan_Reader_Few_r2) (.seq (.seq (.reg plan_Reader_Few_r3) (.cond (.t 24) (.reg plan_Reader_Few_r4) .skip)) (.seq (.seq (.reg plan_Reader_Few_r5) (.cond (.t 33) (.seq (.reg plan_Reader_Few_r6) .ret) .skip)) (.seq (.reg plan_Reader_Few_r7) .ret))))))
abbrev F_plan_Reader_Few : Nat := 82
@[go_sem] theorem plan_Reader_Few_fnB : fnB pg 82 = true := by kernel_rfl
theorem plan_Reader_Few_callX {G : Nat → Option Value} {pre : List AV} {res : AV} {posts : List (Nat × AV)} {pins : List Nat} (hpin : plan_Reader_Few_c.pin pins = true) (hpo : posts.map (·.1) = pins) (hpr : (pins.all fun t => !([(ResultVar.tmp 6)].map rvT).contains t && decide (t < pre.length)) = true) (hnr : (posts.all fun p => noRef p.2) = true) (hsz : decide (pre.length ≤ 35) = true) (h : AW pg G 35 plan_Reader_Few_c (endRX [(.tmp 6)] res posts) (St.init pre)) : ACallsX pg G F_plan_Reader_Few pre res posts :=
  ACallsX.of_walk (fn := Go.Proofs.Tryd.f82) (vs := [(ResultVar.tmp 6)]) (ic := plan_Reader_Few_c) (by kernel_rfl) (by kernel_rfl) rfl (by kernel_rfl) (by kernel_rfl) (of_decide_eq_true (by kernel_rfl)) (by kernel_rfl) (by kernel_rfl) (by kernel_rfl) hpin (of_decide_eq_true hsz) hpo hpr hnr h

@[go_sem] def plan_Reader_Count_r0 : List AO := [⟨(some 2), .op (.asg (.c (.int .i64 (0)))), none⟩]
@[go_sem] def plan_Reader_Count_r1 : List AO := [⟨(some 4), .op (.mv (.t 0)), none⟩,
  ⟨(some 5), .callx (.f 84) [] [.x (.t 4)] [128], none⟩,
  ⟨(some 3), .op (.asg (.t 5)), none⟩]
@[go_sem] def plan_Reader_Count_r2 : List AO := [⟨(some 6), .op (.mv (.t 3)), none⟩,
  ⟨(some 7), .op (.mv (.t 0)), none⟩,
  ⟨(some 8), .callx (.f 84) [] [.x (.t 7)] [128], none⟩,
  ⟨(some 9), .op (.bin .shl 3 0 (.t 8) (.c (.int .u64 (8))) 111), none⟩,
  ⟨(some 10), .op (.bin .or 3 0 (.t 6) (.t 9) 3), none⟩,
  ⟨(some 2), .op (.asg (.t 10)), none⟩]
def plan_Reader_Count_c : IC := (.seq (.reg plan_Reader_Count_r0) (.seq (.reg plan_Reader_Count_r1) (.seq (.reg plan_Reader_Count_r2) .ret)))
abbrev F_plan_Reader_Count : Nat := 83
@[go_sem] theorem plan_Reader_Count_fnB : fnB pg 83 = true := by kernel_rfl
theorem plan_Reader_Count_callX {G : Nat → Option Value} {pre : List AV} {res : AV} {posts : List (Nat × AV)} {pins : List Nat} (hpin : plan_Reader_Count_c.pin pins = true) (hpo : posts.map (·.1) = pins) (hpr : (pins.all fun t => !([(ResultVar.tmp 2)].map rvT).contains t && decide (t < pre.length)) = true) (hnr : (posts.all fun p => noRef p.2) = true) (hsz : decide (pre.length ≤ 11) = true) (h : AW pg G 11 plan_Reader_Count_c (endRX [(.tmp 2)] res posts) (St.init pre)) : ACallsX pg G F_plan_Reader_Count pre res posts :=
  ACallsX.of_walk (fn := Go.Proofs.Tryd.f83) (vs := [(ResultVar.tmp 2)]) (ic := plan_Reader_Count_c) (by kernel_rfl) (by kernel_rfl) rfl (by kernel_rfl) (by kernel_rfl) (of_decide_eq_true (by kernel_rfl)) (by kernel_rfl) (by kernel_rfl) (by kernel_rfl) hpin (of_decide_eq_true hsz) hpo hpr hnr h

@[go_sem] def plan_Reader_Byte_r0 : List AO := [⟨(some 2), .op (.asg (.c (.int .i64 (0)))), none⟩]
@[go_sem] def plan_Reader_Byte_r1 : List AO := [⟨(some 3), .op (.mv (.t 0)), none⟩,
  ⟨(some 4), .op (.nilck (.t 3)), none⟩,
  ⟨(some 5), .op (.faddr 130 2 (.t 4) 2), none⟩,
  ⟨(some 6), .op (.load 26 none (.t 5)), none⟩,
  ⟨(some 7), .op (.bin .eql 26 2 (.t 6) (.c .nilIface) 26), none⟩,
  ⟨(some 8), .op (.mv (.t 7)), none⟩,
  ⟨(some 9), .op (.mv (.t 0)), (some (5, 8, true))⟩,
  ⟨(some 10), .op (.nilck (.t 9)), (some (5, 8, true))⟩,
  ⟨(some 11), .op (.faddr 130 1 (.t 10) 1), (some (5, 8, true))⟩,
  ⟨(some 12), .op (.load 3 none (.t 11)), (some (5, 8, true))⟩,
  ⟨(some 13), .op (.mv (.t 0)), (some (5, 8, true))⟩,
  ⟨(some 14), .op (.nilck (.t 13)), (some (5, 8, true))⟩,
  ⟨(some 15), .op (.faddr 130 0 (.t 14) 0), (some (5, 8, true))⟩,
  ⟨(some 16), .op (.load 44 none (.t 15)), (some (5, 8, true))⟩,
  ⟨(some 17), .op (.len 44 false (.t 16)), (some (5, 8, true))⟩,
  ⟨(some 18), .op (.bin .geq 3 0 (.t 12) (.t 17) 3), (some (5, 8, true))⟩,
  ⟨(some 19), .op (.pick (.t 8) (.t 18) (.c (.bool false))), none⟩]
@[go_sem] def plan_Reader_Byte_r2 : List AO := [⟨(some 20), .op (.mv (.t 0)), none⟩,
  ⟨(some 21), .op (.load 26 none (.g 4)), none⟩,
  ⟨(some 22), .op (.nilck (.t 20)), none⟩,
  ⟨(some 23), .op (.faddr 130 2 (.t 22) 2), none⟩,
  ⟨none, .op (.store 26 1 (.t 23) (.t 21)), none⟩]
@[go_sem] def plan_Reader_Byte_r3 : List AO := [⟨(some 24), .op (.mv (.t 0)), none⟩,
  ⟨(some 25), .op (.nilck (.t 24)), none⟩,
  ⟨(some 26), .op (.faddr 130 2 (.t 25) 2), none⟩,
  ⟨(some 27), .op (.load 26 none (.t 26)), none⟩,
  ⟨(some 28), .op (.bin .neq 26 2 (.t 27) (.c .nilIface) 26), none⟩]
@[go_sem] def plan_Reader_Byte_r4 : List AO := [⟨(some 2), .op (.asg (.c (.int .i64 (0)))), none⟩]
@[go_sem] def plan_Reader_Byte_r5 : List AO := [⟨(some 29), .op (.mv (.t 0)), none⟩,
  ⟨(some 30), .op (.nilck (.t 29)), none⟩,
  ⟨(some 31), .op (.faddr 130 1 (.t 30) 1), none⟩,
  ⟨(some 32), .op (.load 3 none (.t 31)), none⟩,
  ⟨(some 33), .op (.bin .add 3 0 (.t 32) (.c (.int .i64 (1))) 3), none⟩,
  ⟨(some 34), .op (.nilck (.t 29)), none⟩,
  ⟨(some 35), .op (.faddr 130 1 (.t 34) 1), none⟩,
  ⟨none, .op (.store 3 1 (.t 35) (.t 33)), none⟩]
@[go_sem] def plan_Reader_Byte_r6 : List AO := [⟨(some 36), .op (.mv (.t 0)), none⟩,
  ⟨(some 37), .op (.nilck (.t 36)), none⟩,
  ⟨(some 38), .op (.faddr 130 0 (.t 37) 0), none⟩,
  ⟨(some 39), .op (.load 44 none (.t 38)), none⟩,
  ⟨(some 40), .op (.mv (.t 0)), none⟩,
  ⟨(some 41), .op (.nilck (.t 40)), none⟩,
  ⟨(some 42), .op (.faddr 130 1 (.t 41) 1), none⟩,
  ⟨(some 43), .op (.load 3 none (.t 42)), none⟩,
  ⟨(some 44), .op (.bin .sub 3 0 (.t 43) (.c (.int .i64 (1))) 3), none⟩,
  ⟨(some 45), .op (.iaddr 44 1 (.t 39) (.t 44)), none⟩,
  ⟨(some 46), .op (.load 5 none (.t 45)), none⟩,
  ⟨(some 47), .op (.conv 5 3 (.int .i64) (.t 46)), none⟩,
  ⟨(some 2), .op (.asg (.t 47)), none⟩]
def plan_Reader_Byte_c : IC := (.seq (.reg plan_Reader_Byte_r0) (.seq (.seq (.draw plan_Reader_Byte_r1 [[], [0], [1], [2], [3], [4], [5], [6, 5], [7, 5], [8, 5], [5], [10, 5], [11, 5], [12, 5], [13, 5], [9, 14, 5], [5, 15]]) (.cond (.t 19) (.reg plan_Reader_Byte_r2) .skip)) (.seq (.seq (.reg plan_Reader_Byte_r3) (.cond (.t 28) (.seq (.reg plan_Reader_Byte_r4) .ret) .skip)) (.seq (.reg plan_Reader_Byte_r5) (.seq (.draw plan_Reader_Byte_r6 [[], [0], [1], [2], [], [4], [5], [6], [7], [3, 8], [9], [10], [11, 0, 1, 2, 3, 4, 5, 6, 7, 8, 9, 10, 11]]) .ret)))))
abbrev F_plan_Reader_Byte : Nat := 84
@[go_sem] theorem plan_Reader_Byte_fnB : fnB pg 84 = true := by kernel_rfl
theorem plan_Reader_Byte_callX {G : Nat → Option Value} {pre : List AV} {res : AV} {posts : List (Nat × AV)} {pins : List Nat} (hpin : plan_Reader_Byte_c.pin pins = true) (hpo : posts.map (·.1) = pins) (hpr : (pins.all fun t => !([(ResultVar.tmp 2)].map rvT).contains t && decide (t < pre.length)) = true) (hnr : (posts.all fun p => noRef p.2) = true) (hsz : decide (pre.length ≤ 48) = true) (h : AW pg G 48 plan_Reader_Byte_c (endRX [(.tmp 2)] res posts) (St.init pre)) : ACallsX pg G F_plan_Reader_Byte pre res posts :=
  ACallsX.of_walk (fn := Go.Proofs.Tryd.f84) (vs := [(ResultVar.tmp 2)]) (ic := plan_Reader_Byte_c) (by kernel_rfl) (by kernel_rfl) rfl (by kernel_rfl) (by kernel_rfl) (of_decide_eq_true (by kernel_rfl)) (by kernel_rfl) (by kernel_rfl) (by kernel_rfl) hpin (of_decide_eq_true hsz) hpo hpr hnr h

@[go_sem] def plan_Reader_Numbers_r0 : List AO := [⟨(some 4), .op (.asg (.nl 1)), none⟩]
@[go_sem] def plan_Reader_Numbers_r1 : List AO := [⟨(some 5), .op (.asg (.nl 1)), none⟩]
@[go_sem] def plan_Reader_Numbers_r2 : List AO := [⟨(some 7), .op (.mv (.t 0)), none⟩,
  ⟨(some 8), .op (.mv (.t 0)), none⟩,
  ⟨(some 9), .op (.mkf 84 [(.t 8)] []), none⟩,
  ⟨(some 10), .callx (.f 82) [(false, (.c (.int .i64 (8))))] [.x (.t 7), .p 0, .x (.t 9)] [128, 3, 133], none⟩,
  ⟨(some 6), .op (.asg (.t 10)), none⟩]
@[go_sem] def plan_Reader_Numbers_r3 : List AO := [⟨(some 11), .op (.mv (.t 6)), none⟩,
  ⟨(some 12), .op (.bin .gtr 3 0 (.t 11) (.c (.int .i64 (0))) 3), none⟩,
  ⟨(some 13), .op (.mv (.t 12)), none⟩,
  ⟨(some 14), .op (.mv (.t 0)), (some (2, 13, true))⟩,
  ⟨(some 15), .op (.nilck (.t 14)), (some (2, 13, true))⟩,
  ⟨(some 16), .op (.faddr 130 2 (.t 15) 2), (some (2, 13, true))⟩,
  ⟨(some 17), .op (.load 26 none (.t 16)), (some (2, 13, true))⟩,
  ⟨(some 18), .op (.bin .eql 26 2 (.t 17) (.c .nilIface) 26), (some (2, 13, true))⟩,
  ⟨(some 19), .op (.pick (.t 13) (.t 18) (.c (.bool false))), none⟩]
@[go_sem] def plan_Reader_Numbers_r5 : List AO := [⟨(some 22), .op (.mv (.t 5)), none⟩,
  ⟨(some 23), .op (.mv (.t 1)), none⟩,
  ⟨(some 24), .callx (.t 23) [] [] [], none⟩,
  ⟨(some 25), .op (.bslice 24 3 1 1 [.lit (.int .i64 0)] [(0, (.t 24))]), none⟩,
  ⟨(some 26), .op (.app 24 3 1 8 (.t 22) (.t 25)), none⟩,
  ⟨(some 5), .op (.asg (.t 26)), none⟩]
@[go_sem] def plan_Reader_Numbers_r4 : List AO := [⟨(some 20), .op (.mv (.t 6)), none⟩,
  ⟨(some 21), .op (.bin .sub 3 0 (.t 20) (.c (.int .i64 (1))) 3), none⟩,
  ⟨(some 6), .op (.asg (.t 21)), none⟩]
def plan_Reader_Numbers_l0 : IC := (.seq (.seq (.reg plan_Reader_Numbers_r3) (.cond (.t 19) .skip (.exit 0))) (.seq (.block 1 (.reg plan_Reader_Numbers_r5)) (.reg plan_Reader_Numbers_r4)))
@[go_sem] def plan_Reader_Numbers_r6 : List AO := [⟨(some 27), .op (.mv (.t 5)), none⟩,
  ⟨(some 4), .op (.asg (.t 27)), none⟩]
def plan_Reader_Numbers_c : IC := (.seq (.reg plan_Reader_Numbers_r0) (.seq (.reg plan_Reader_Numbers_r1) (.seq (.seq (.reg plan_Reader_Numbers_r2) (.block 0 (.loop plan_Reader_Numbers_l0))) (.seq (.reg plan_Reader_Numbers_r6) .ret))))
abbrev F_plan_Reader_Numbers : Nat := 85
@[go_sem] theorem plan_Reader_Numbers_fnB : fnB pg 85 = true := by kernel_rfl
theorem plan_Reader_Numbers_callX {G : Nat → Option Value} {pre : List AV} {res : AV} {posts : List (Nat × AV)} {pins : List Nat} (hpin : plan_Reader_Numbers_c.pin pins = true) (hpo : posts.map (·.1) = pins) (hpr : (pins.all fun t => !([(ResultVar.tmp 4)].map rvT).contains t && decide (t < pre.length)) = true) (hnr : (posts.all fun p => noRef p.2) = true) (hsz : decide (pre.length ≤ 28) = true) (h : AW pg G 28 plan_Reader_Numbers_c (endRX [(.tmp 4)] res posts) (St.init pre)) : ACallsX pg G F_plan_Reader_Numbers pre res posts :=
  ACallsX.of_walk (fn := Go.Proofs.Tryd.f85) (vs := [(ResultVar.tmp 4)]) (ic := plan_Reader_Numbers_c) (by kernel_rfl) (by kernel_rfl) rfl (by kernel_rfl) (by kernel_rfl) (of_decide_eq_true (by kernel_rfl)) (by kernel_rfl) (by kernel_rfl) (by kernel_rfl) hpin (of_decide_eq_true hsz) hpo hpr hnr h

@[go_sem] def plan_Reader_Number_r0 : List AO := [⟨(some 2), .op (.asg (.c (.int .i64 (0)))), none⟩]
@[go_sem] def plan_Reader_Number_r1 : List AO := [⟨(some 4), .op (.mv (.t 0)), none⟩,
  ⟨(some 5), .callx (.f 83) [] [.x (.t 4)] [128], none⟩,
  ⟨(some 3), .op (.asg (.t 5)), none⟩]
@[go_sem] def plan_Reader_Number_r2 : List AO := [⟨(some 6), .op (.mv (.t 3)), none⟩,
  ⟨(some 7), .op (.mv (.t 0)), none⟩,
  ⟨(some 8), .callx (.f 83) [] [.x (.t 7)] [128], none⟩,
  ⟨(some 9), .op (.bin .shl 3 0 (.t 8) (.c (.int .u64 (16))) 111), none⟩,
  ⟨(some 10), .op (.bin .or 3 0 (.t 6) (.t 9) 3), none⟩,
  ⟨(some 11), .call 122 [(false, (.t 10))] [3], none⟩,
  ⟨(some 2), .op (.asg (.t 11)), none⟩]
def plan_Reader_Number_c : IC := (.seq (.reg plan_Reader_Number_r0) (.seq (.reg plan_Reader_Number_r1) (.seq (.reg plan_Reader_Number_r2) .ret)))
abbrev F_plan_Reader_Number : Nat := 86
@[go_sem] theorem plan_Reader_Number_fnB : fnB pg 86 = true := by kernel_rfl
theorem plan_Reader_Number_callX {G : Nat → Option Value} {pre : List AV} {res : AV} {posts : List (Nat × AV)} {pins : List Nat} (hpin : plan_Reader_Number_c.pin pins = true) (hpo : posts.map (·.1) = pins) (hpr : (pins.all fun t => !([(ResultVar.tmp 2)].map rvT).contains t && decide (t < pre.length)) = true) (hnr : (posts.all fun p => noRef p.2) = true) (hsz : decide (pre.length ≤ 12) = true) (h : AW pg G 12 plan_Reader_Number_c (endRX [(.tmp 2)] res posts) (St.init pre)) : ACallsX pg G F_plan_Reader_Number pre res posts :=
  ACallsX.of_walk (fn := Go.Proofs.Tryd.f86) (vs := [(ResultVar.tmp 2)]) (ic := plan_Reader_Number_c) (by kernel_rfl) (by kernel_rfl) rfl (by kernel_rfl) (by kernel_rfl) (of_decide_eq_true (by kernel_rfl)) (by kernel_rfl) (by kernel_rfl) (by kernel_rfl) hpin (of_decide_eq_true hsz) hpo hpr hnr h

@[go_sem] def plan_Reader_Tensor_r0 : List AO := [⟨(some 4), .op (.alloc 56 [.own 1 0 [], .lit (.bool false), .own 1 0 []]), none⟩]
@[go_sem] def plan_Reader_Tensor_r1 : List AO := [⟨(some 8), .op (.mv (.t 0)), none⟩,
  ⟨(some 9), .op (.nilck (.t 8)), none⟩,
  ⟨(some 10), .op (.faddr 130 2 (.t 9) 2), none⟩,
  ⟨(some 11), .op (.load 26 none (.t 10)), none⟩,
  ⟨(some 12), .op (.bin .neq 26 2 (.t 11) (.c .nilIface) 26), none⟩]
@[go_sem] def plan_Reader_Tensor_r2 : List AO := [⟨(some 13), .op (.build 56 [.sl 0 [], .lit (.bool false), .sl 0 []] []), none⟩,
  ⟨none, .op (.store 56 3 (.t 4) (.t 13)), none⟩]
@[go_sem] def plan_Reader_Tensor_r3 : List AO := [⟨(some 15), .op (.mv (.t 0)), none⟩,
  ⟨(some 16), .op (.nilck (.t 15)), none⟩,
  ⟨(some 17), .op (.faddr 130 0 (.t 16) 0), none⟩,
  ⟨(some 18), .op (.load 44 none (.t 17)), none⟩,
  ⟨(some 19), .op (.mv (.t 0)), none⟩,
  ⟨(some 20), .op (.nilck (.t 19)), none⟩,
  ⟨(some 21), .op (.faddr 130 1 (.t 20) 1), none⟩,
  ⟨(some 22), .op (.load 3 none (.t 21)), none⟩,
  ⟨(some 23), .op (.slice 44 1 (.t 18) (some (.t 22)) none none), none⟩,
  ⟨(some 24), .call 123 [(false, (.t 23))] [44], none⟩,
  ⟨(some 14), .op (.mvf (.t 24)), none⟩,
  ⟨(some 25), .op (.ext (.t 14) 0), none⟩,
  ⟨(some 26), .op (.ext (.t 14) 1), none⟩,
  ⟨(some 27), .op (.ext (.t 14) 2), none⟩,
  ⟨(some 5), .op (.alloc 56 [.own 1 0 [], .lit (.bool false), .own 1 0 []]), none⟩,
  ⟨none, .op (.store 56 3 (.t 5) (.t 25)), none⟩,
  ⟨(some 6), .op (.asg (.t 26)), none⟩,
  ⟨(some 7), .op (.asg (.t 27)), none⟩]
@[go_sem] def plan_Reader_Tensor_r4 : List AO := [⟨(some 29), .op (.mv (.t 7)), none⟩,
  ⟨(some 30), .op (.load 26 none (.g 4)), none⟩,
  ⟨(some 31), .call 124 [(false, (.t 29)), (false, (.t 30))] [26, 26], none⟩,
  ⟨(some 28), .op (.asg (.t 31)), none⟩]
@[go_sem] def plan_Reader_Tensor_r5 : List AO := [⟨(some 32), .op (.mv (.t 0)), none⟩,
  ⟨(some 33), .op (.mv (.t 7)), none⟩,
  ⟨(some 34), .op (.nilck (.t 32)), none⟩,
  ⟨(some 35), .op (.faddr 130 2 (.t 34) 2), none⟩,
  ⟨none, .op (.store 26 1 (.t 35) (.t 33)), none⟩]
@[go_sem] def plan_Reader_Tensor_r6 : List AO := [⟨(some 37), .op (.mv (.t 7)), none⟩,
  ⟨(some 38), .op (.bin .neq 26 2 (.t 37) (.c .nilIface) 26), none⟩,
  ⟨(some 36), .op (.asg (.t 38)), none⟩]
@[go_sem] def plan_Reader_Tensor_r7 : List AO := [⟨(some 39), .op (.mv (.t 0)), none⟩,
  ⟨(some 40), .op (.mv (.t 1)), none⟩,
  ⟨(some 41), .op (.mv (.t 7)), none⟩,
  ⟨(some 42), .callx (.f 121) [(false, (.t 40)), (false, (.t 41))] [.x (.t 39), .p 0, .p 1] [128, 3, 26], none⟩]
@[go_sem] def plan_Reader_Tensor_r8 : List AO := [⟨(some 43), .op (.mv (.t 0)), none⟩,
  ⟨(some 44), .op (.nilck (.t 43)), none⟩,
  ⟨(some 45), .op (.faddr 130 1 (.t 44) 1), none⟩,
  ⟨(some 46), .op (.load 3 none (.t 45)), none⟩,
  ⟨(some 47), .op (.mv (.t 6)), none⟩,
  ⟨(some 48), .op (.bin .add 3 0 (.t 46) (.t 47) 3), none⟩,
  ⟨(some 49), .op (.nilck (.t 43)), none⟩,
  ⟨(some 50), .op (.faddr 130 1 (.t 49) 1), none⟩,
  ⟨none, .op (.store 3 1 (.t 50) (.t 48)), none⟩]
@[go_sem] def plan_Reader_Tensor_r9 : List AO := [⟨(some 51), .op (.load 56 (some 3) (.t 5)), none⟩,
  ⟨none, .op (.store 56 3 (.t 4) (.t 51)), none⟩]
def plan_Reader_Tensor_c : IC := (.seq (.reg plan_Reader_Tensor_r0) (.seq (.seq (.reg plan_Reader_Tensor_r1) (.cond (.t 12) (.seq (.reg plan_Reader_Tensor_r2) .ret) .skip)) (.seq (.draw plan_Reader_Tensor_r3 [[], [0], [1], [2], [], [4], [5], [6], [3, 7], [8], [9], [10], [10], [10], [], [14, 11, 9, 0, 1, 2, 3, 4, 5, 6, 7, 8, 9, 10, 11, 14], [12, 15, 0, 1, 2, 3, 4, 5, 6, 7, 8, 9, 10, 11, 12, 14, 15], [13, 16, 0, 1, 2, 3, 4, 5, 6, 7, 8, 9, 10, 11, 12, 13, 14, 15, 16]]) (.seq (.block 0 (.seq (.reg plan_Reader_Tensor_r4) (.cond (.t 28) (.reg plan_Reader_Tensor_r5) (.seq (.reg plan_Reader_Tensor_r6) (.cond (.t 36) (.reg plan_Reader_Tensor_r7) .skip))))) (.seq (.reg plan_Reader_Tensor_r8) (.seq (.reg plan_Reader_Tensor_r9) .ret))))))
abbrev F_plan_Reader_Tensor : Nat := 87
@[go_sem] theorem plan_Reader_Tensor_fnB : fnB pg 87 = true := by kernel_rfl
theorem plan_Reader_Tensor_callX {G : Nat → Option Value} {pre : List AV} {res : AV} {posts : List (Nat × AV)} {pins : List Nat} (hpin : plan_Reader_Tensor_c.pin pins = true) (hpo : posts.map (·.1) = pins) (hpr : (pins.all fun t => !([(ResultVar.cell 4 56)].map rvT).contains t && decide (t < pre.length)) = true) (hnr : (posts.all fun p => noRef p.2) = true) (hsz : decide (pre.length ≤ 52) = true) (h : AW pg G 52 plan_Reader_Tensor_c (endRX [(.cells 4 3)] res posts) (St.init pre)) : ACallsX pg G F_plan_Reader_Tensor pre res posts :=
  ACallsX.of_walk (fn := Go.Proofs.Tryd.f87) (vs := [(ResultVar.cell 4 56)]) (ic := plan_Reader_Tensor_c) (by kernel_rfl) (by kernel_rfl) rfl (by kernel_rfl) (by kernel_rfl) (of_decide_eq_true (by kernel_rfl)) (by kernel_rfl) (by kernel_rfl) (by kernel_rfl) hpin (of_decide_eq_true hsz) hpo hpr hnr h

@[go_sem] def plan_Reader_End_r0 : List AO := [⟨(some 2), .op (.asg (.c .nilIface)), none⟩]
@[go_sem] def plan_Reader_End_r1 : List AO := [⟨(some 3), .op (.mv (.t 0)), none⟩,
  ⟨(some 4), .op (.nilck (.t 3)), none⟩,
  ⟨(some 5), .op (.faddr 130 2 (.t 4) 2), none⟩,
  ⟨(some 6), .op (.load 26 none (.t 5)), none⟩,
  ⟨(some 7), .op (.bin .eql 26 2 (.t 6) (.c .nilIface) 26), none⟩,
  ⟨(some 8), .op (.mv (.t 7)), none⟩,
  ⟨(some 9), .op (.mv (.t 0)), (some (5, 8, true))⟩,
  ⟨(some 10), .op (.nilck (.t 9)), (some (5, 8, true))⟩,
  ⟨(some 11), .op (.faddr 130 1 (.t 10) 1), (some (5, 8, true))⟩,
  ⟨(some 12), .op (.load 3 none (.t 11)), (some (5, 8, true))⟩,
  ⟨(some 13), .op (.mv (.t 0)), (some (5, 8, true))⟩,
  ⟨(some 14), .op (.nilck (.t 13)), (some (5, 8, true))⟩,
  ⟨(some 15), .op (.faddr 130 0 (.t 14) 0), (some (5, 8, true))⟩,
  ⟨(some 16), .op (.load 44 none (.t 15)), (some (5, 8, true))⟩,
  ⟨(some 17), .op (.len 44 false (.t 16)), (some (5, 8, true))⟩,
  ⟨(some 18), .op (.bin .lss 3 0 (.t 12) (.t 17) 3), (some (5, 8, true))⟩,
  ⟨(some 19), .op (.pick (.t 8) (.t 18) (.c (.bool false))), none⟩]
@[go_sem] def plan_Reader_End_r2 : List AO := [⟨(some 20), .op (.mv (.t 0)), none⟩,
  ⟨(some 21), .op (.mv (.t 0)), none⟩,
  ⟨(some 22), .op (.nilck (.t 21)), none⟩,
  ⟨(some 23), .op (.faddr 130 1 (.t 22) 1), none⟩,
  ⟨(some 24), .op (.load 3 none (.t 23)), none⟩,
  ⟨(some 25), .op (.load 26 none (.g 2)), none⟩,
  ⟨(some 26), .callx (.f 121) [(false, (.t 24)), (false, (.t 25))] [.x (.t 20), .p 0, .p 1] [128, 3, 26], none⟩]
@[go_sem] def plan_Reader_End_r3 : List AO := [⟨(some 27), .op (.mv (.t 0)), none⟩,
  ⟨(some 28), .op (.nilck (.t 27)), none⟩,
  ⟨(some 29), .op (.faddr 130 2 (.t 28) 2), none⟩,
  ⟨(some 30), .op (.load 26 none (.t 29)), none⟩,
  ⟨(some 2), .op (.asg (.t 30)), none⟩]
def plan_Reader_End_c : IC := (.seq (.reg plan_Reader_End_r0) (.seq (.seq (.draw plan_Reader_End_r1 [[], [0], [1], [2], [3], [4], [5], [6, 5], [7, 5], [8, 5], [5], [10, 5], [11, 5], [12, 5], [13, 5], [9, 14, 5], [5, 15]]) (.cond (.t 19) (.draw plan_Reader_End_r2 [[], [], [1], [2], [3], [], [0, 4, 5]]) .skip)) (.seq (.reg plan_Reader_End_r3) .ret)))
abbrev F_plan_Reader_End : Nat := 88
@[go_sem] theorem plan_Reader_End_fnB : fnB pg 88 = true := by kernel_rfl
theorem plan_Reader_End_callX {G : Nat → Option Value} {pre : List AV} {res : AV} {posts : List (Nat × AV)} {pins : List Nat} (hpin : plan_Reader_End_c.pin pins = true) (hpo : posts.map (·.1) = pins) (hpr : (pins.all fun t => !([(ResultVar.tmp 2)].map rvT).contains t && decide (t < pre.length)) = true) (hnr : (posts.all fun p => noRef p.2) = true) (hsz : decide (pre.length ≤ 31) = true) (h : AW pg G 31 plan_Reader_End_c (endRX [(.tmp 2)] res posts) (St.init pre)) : ACallsX pg G F_plan_Reader_End pre res posts :=
  ACallsX.of_walk (fn := Go.Proofs.Tryd.f88) (vs := [(ResultVar.tmp 2)]) (ic := plan_Reader_End_c) (by kernel_rfl) (by kernel_rfl) rfl (by kernel_rfl) (by kernel_rfl) (of_decide_eq_true (by kernel_rfl)) (by kernel_rfl) (by kernel_rfl) (by kernel_rfl) hpin (of_decide_eq_true hsz) hpo hpr hnr h

@[go_sem] theorem slices_EqualFunc_Node_fnB : fnB pg 89 = true := by kernel_rfl
@[go_sem] theorem graph_Like_fnB : fnB pg 90 = true := by kernel_rfl

@[go_sem] theorem graph_Node_fnB : fnB pg 91 = true := by kernel_rfl

@[go_sem] def plan_Reader_Bad_r0 : List AO := [⟨(some 6), .op (.mv (.t 0)), none⟩,
  ⟨(some 7), .op (.nilck (.t 6)), none⟩,
  ⟨(some 8), .op (.faddr 130 2 (.t 7) 2), none⟩,
  ⟨(some 9), .op (.load 26 none (.t 8)), none⟩,
  ⟨(some 10), .op (.bin .eql 26 2 (.t 9) (.c .nilIface) 26), none⟩]
@[go_sem] def plan_Reader_Bad_r1 : List AO := [⟨(some 11), .op (.mv (.t 0)), none⟩,
  ⟨(some 12), .op (.mv (.t 1)), none⟩,
  ⟨(some 13), .op (.mv (.t 2)), none⟩,
  ⟨(some 14), .op (.build 94 [.lit (.int .i64 0), .lit .nilIface] [(0, 0, 1, (.t 12)), (1, 1, 1, (.t 13))]), none⟩,
  ⟨(some 15), .op (.box 94 2 (.t 14)), none⟩,
  ⟨(some 16), .op (.mki 92 (.t 15)), none⟩,
  ⟨(some 17), .op (.nilck (.t 11)), none⟩,
  ⟨(some 18), .op (.faddr 130 2 (.t 17) 2), none⟩,
  ⟨none, .op (.store 26 1 (.t 18) (.t 16)), none⟩]
def plan_Reader_Bad_c : IC := (.seq (.reg plan_Reader_Bad_r0) (.cond (.t 10) (.reg plan_Reader_Bad_r1) .skip))
abbrev F_plan_Reader_Bad : Nat := 121
@[go_sem] theorem plan_Reader_Bad_fnB : fnB pg 121 = true := by kernel_rfl
theorem plan_Reader_Bad_callX {G : Nat → Option Value} {pre : List AV} {res : AV} {posts : List (Nat × AV)} {pins : List Nat} (hpin : plan_Reader_Bad_c.pin pins = true) (hpo : posts.map (·.1) = pins) (hpr : (pins.all fun t => !([].map rvT).contains t && decide (t < pre.length)) = true) (hnr : (posts.all fun p => noRef p.2) = true) (hsz : decide (pre.length ≤ 19) = true) (h : AW pg G 19 plan_Reader_Bad_c (endRX [] res posts) (St.init pre)) : ACallsX pg G F_plan_Reader_Bad pre res posts :=
  ACallsX.of_walk (fn := Go.Proofs.Tryd.f121) (vs := []) (ic := plan_Reader_Bad_c) (by kernel_rfl) (by kernel_rfl) rfl (by kernel_rfl) (by kernel_rfl) (of_decide_eq_true (by kernel_rfl)) (by kernel_rfl) (by kernel_rfl) (by kernel_rfl) hpin (of_decide_eq_true hsz) hpo hpr hnr h

@[go_sem] def tens_Wide_r0 : List AO := [⟨(some 2), .op (.asg (.c (.int .i64 (0)))), none⟩]
@[go_sem] def tens_Wide_r1 : List AO := [⟨(some 3), .op (.mv (.t 0)), none⟩,
  ⟨(some 4), .op (.conv 3 180 (.int .u64) (.t 3)), none⟩,
  ⟨(some 5), .op (.conv 180 179 (.int .u32) (.t 4)), none⟩,
  ⟨(some 6), .op (.conv 179 21 (.int .i32) (.t 5)), none⟩,
  ⟨(some 7), .op (.conv 21 3 (.int .i64) (.t 6)), none⟩,
  ⟨(some 2), .op (.asg (.t 7)), none⟩]
def tens_Wide_c : IC := (.seq (.reg tens_Wide_r0) (.seq (.reg tens_Wide_r1) .ret))
abbrev F_tens_Wide : Nat := 122
theorem tens_Wide_call {G : Nat → Option Value} {pre : List AV} {res : AV} (hsz : decide (pre.length ≤ 8) = true) (h : AW pg G 8 tens_Wide_c (endR [(.tmp 2)] res) (St.init pre)) : ACalls pg G F_tens_Wide pre res :=
  ACalls.of_walk (fn := Go.Proofs.Tryd.f122) (vs := [(ResultVar.tmp 2)]) (ic := tens_Wide_c) (by kernel_rfl) (by kernel_rfl) rfl (by kernel_rfl) (by kernel_rfl) (of_decide_eq_true (by kernel_rfl)) (by kernel_rfl) (by kernel_rfl) (by kernel_rfl) (of_decide_eq_true hsz) h
@[go_sem] theorem tens_Wide_fnB : fnB pg 122 = true := by kernel_rfl

@[go_sem] def tens_Read_r0 : List AO := [⟨(some 2), .op (.alloc 56 [.own 1 0 [], .lit (.bool false), .own 1 0 []]), none⟩,
  ⟨(some 3), .op (.asg (.c (.int .i64 (0)))), none⟩,
  ⟨(some 4), .op (.asg (.c .nilIface)), none⟩]
@[go_sem] def tens_Read_r1 : List AO := [⟨(some 12), .op (.mv (.t 0)), none⟩,
  ⟨(some 13), .op (.len 44 false (.t 12)), none⟩,
  ⟨(some 14), .op (.bin .eql 3 0 (.t 13) (.c (.int .i64 (0))) 3), none⟩]
@[go_sem] def tens_Read_r2 : List AO := [⟨(some 15), .op (.build 56 [.sl 0 [], .lit (.bool false), .sl 0 []] []), none⟩,
  ⟨(some 16), .op (.load 26 none (.g 4)), none⟩,
  ⟨none, .op (.store 56 3 (.t 2) (.t 15)), none⟩,
  ⟨(some 3), .op (.asg (.c (.int .i64 (0)))), none⟩,
  ⟨(some 4), .op (.asg (.t 16)), none⟩]
@[go_sem] def tens_Read_r3 : List AO := [⟨(some 17), .op (.mv (.t 0)), none⟩,
  ⟨(some 18), .op (.iaddr 44 1 (.t 17) (.c (.int .i64 (0)))), none⟩,
  ⟨(some 19), .op (.load 5 none (.t 18)), none⟩,
  ⟨(some 20), .op (.bin .geq 5 0 (.t 19) (.c (.int .u8 (16))) 5), none⟩]
@[go_sem] def tens_Read_r4 : List AO := [⟨(some 21), .op (.build 56 [.sl 0 [], .lit (.bool false), .sl 0 []] []), none⟩,
  ⟨(some 22), .op (.load 26 none (.g 5)), none⟩,
  ⟨none, .op (.store 56 3 (.t 2) (.t 21)), none⟩,
  ⟨(some 3), .op (.asg (.c (.int .i64 (0)))), none⟩,
  ⟨(some 4), .op (.asg (.t 22)), none⟩]
@[go_sem] def tens_Read_r5 : List AO := [⟨(some 23), .op (.mv (.t 0)), none⟩,
  ⟨(some 24), .op (.iaddr 44 1 (.t 23) (.c (.int .i64 (0)))), none⟩,
  ⟨(some 25), .op (.load 5 none (.t 24)), none⟩,
  ⟨(some 26), .op (.conv 5 3 (.int .i64) (.t 25)), none⟩,
  ⟨(some 27), .op (.bin .andNot 3 0 (.t 26) (.c (.int .i64 (8))) 3), none⟩,
  ⟨(some 5), .op (.asg (.t 27)), none⟩]
@[go_sem] def tens_Read_r6 : List AO := [⟨(some 28), .op (.mv (.t 0)), none⟩,
  ⟨(some 29), .op (.iaddr 44 1 (.t 28) (.c (.int .i64 (0)))), none⟩,
  ⟨(some 30), .op (.load 5 none (.t 29)), none⟩,
  ⟨(some 31), .op (.bin .and 5 0 (.t 30) (.c (.int .u8 (8))) 5), none⟩,
  ⟨(some 32), .op (.bin .neq 5 0 (.t 31) (.c (.int .u8 (0))) 5), none⟩,
  ⟨(some 33), .op (.build 54 [.own 1 0 [], .lit (.bool false)] [(1, 1, 1, (.t 32))]), none⟩,
  ⟨(some 6), .op (.alloc 54 [.own 1 0 [], .lit (.bool false)]), none⟩,
  ⟨none, .op (.store 54 2 (.t 6) (.t 33)), none⟩]
@[go_sem] def tens_Read_r7 : List AO := [⟨(some 7), .op (.asg (.c (.int .i64 (1)))), none⟩]
@[go_sem] def tens_Read_r8 : List AO := [⟨(some 34), .op (.mv (.t 5)), none⟩,
  ⟨(some 35), .op (.mv (.c (.int .i64 (0)))), none⟩]
@[go_sem] def tens_Read_r9 : List AO := [⟨(some 36), .op (.bin .lss 3 0 (.t 35) (.t 34) 3), none⟩]
@[go_sem] def tens_Read_r10 : List AO := [⟨(some 37), .op (.mv (.t 0)), none⟩,
  ⟨(some 38), .op (.len 44 false (.t 37)), none⟩,
  ⟨(some 39), .op (.mv (.t 7)), none⟩,
  ⟨(some 40), .op (.bin .add 3 0 (.t 39) (.c (.int .i64 (2))) 3), none⟩,
  ⟨(some 41), .op (.bin .lss 3 0 (.t 38) (.t 40) 3), none⟩]
@[go_sem] def tens_Read_r11 : List AO := [⟨(some 42), .op (.build 56 [.sl 0 [], .lit (.bool false), .sl 0 []] []), none⟩,
  ⟨(some 43), .op (.load 26 none (.g 4)), none⟩,
  ⟨none, .op (.store 56 3 (.t 2) (.t 42)), none⟩,
  ⟨(some 3), .op (.asg (.c (.int .i64 (0)))), none⟩,
  ⟨(some 4), .op (.asg (.t 43)), none⟩]
@[go_sem] def tens_Read_r12 : List AO := [⟨(some 44), .op (.faddr 54 0 (.t 6) 0), none⟩,
  ⟨(some 45), .op (.load 24 none (.t 44)), none⟩,
  ⟨(some 46), .op (.mv (.t 0)), none⟩,
  ⟨(some 47), .op (.mv (.t 7)), none⟩,
  ⟨(some 48), .op (.iaddr 44 1 (.t 46) (.t 47)), none⟩,
  ⟨(some 49), .op (.load 5 none (.t 48)), none⟩,
  ⟨(some 50), .op (.conv 5 3 (.int .i64) (.t 49)), none⟩,
  ⟨(some 51), .op (.mv (.t 0)), none⟩,
  ⟨(some 52), .op (.mv (.t 7)), none⟩,
  ⟨(some 53), .op (.bin .add 3 0 (.t 52) (.c (.int .i64 (1))) 3), none⟩,
  ⟨(some 54), .op (.iaddr 44 1 (.t 51) (.t 53)), none⟩,
  ⟨(some 55), .op (.load 5 none (.t 54)), none⟩,
  ⟨(some 56), .op (.conv 5 3 (.int .i64) (.t 55)), none⟩,
  ⟨(some 57), .op (.bin .shl 3 0 (.t 56) (.c (.int .u64 (8))) 111), none⟩,
  ⟨(some 58), .op (.bin .or 3 0 (.t 50) (.t 57) 3), none⟩,
  ⟨(some 59), .op (.bslice 24 3 1 1 [.lit (.int .i64 0)] [(0, (.t 58))]), none⟩,
  ⟨(some 60), .op (.app 24 3 1 8 (.t 45) (.t 59)), none⟩,
  ⟨(some 61), .op (.faddr 54 0 (.t 6) 0), none⟩,
  ⟨none, .op (.store 24 1 (.t 61) (.t 60)), none⟩]
@[go_sem] def tens_Read_r13 : List AO := [⟨(some 62), .op (.mv (.t 7)), none⟩,
  ⟨(some 63), .op (.bin .add 3 0 (.t 62) (.c (.int .i64 (2))) 3), none⟩,
  ⟨(some 7), .op (.asg (.t 63)), none⟩]
@[go_sem] def tens_Read_r14 : List AO := [⟨(some 64), .op (.bin .add 3 0 (.t 35) (.c (.int .i64 (1))) 3), none⟩,
  ⟨(some 35), .op (.mv (.t 64)), none⟩]
def tens_Read_l0 : IC := (.seq (.reg tens_Read_r9) (.seq (.cond (.t 36) .skip (.exit 0)) (.seq (.block 1 (.seq (.seq (.reg tens_Read_r10) (.cond (.t 41) (.seq (.draw tens_Read_r11 [[], [], [0, 0], [2, 0, 2], [1, 3, 0, 1, 2, 3]]) .ret) .skip)) (.seq (.draw tens_Read_r12 [[], [0], [], [], [2, 3], [4], [5], [], [], [8], [7, 9], [10], [11], [12], [6, 13], [14], [1, 15], [0, 1, 2, 3, 4, 5, 6, 7, 8, 9, 10, 11, 12, 13, 14, 15, 16], [17, 16, 16, 0, 1, 2, 3, 4, 5, 6, 7, 8, 9, 10, 11, 12, 13, 14, 15, 16]]) (.reg tens_Read_r13)))) (.reg tens_Read_r14))))
@[go_sem] def tens_Read_r15 : List AO := [⟨(some 65), .op (.load 54 (some 2) (.t 6)), none⟩,
  ⟨(some 66), .call 144 [(false, (.t 65))] [54], none⟩,
  ⟨(some 8), .op (.asg (.t 66)), none⟩]
@[go_sem] def tens_Read_r16 : List AO := [⟨(some 67), .op (.mv (.t 8)), none⟩,
  ⟨(some 68), .op (.bin .neq 26 2 (.t 67) (.c .nilIface) 26), none⟩]
@[go_sem] def tens_Read_r17 : List AO := [⟨(some 69), .op (.build 56 [.sl 0 [], .lit (.bool false), .sl 0 []] []), none⟩,
  ⟨(some 70), .op (.mv (.t 8)), none⟩,
  ⟨none, .op (.store 56 3 (.t 2) (.t 69)), none⟩,
  ⟨(some 3), .op (.asg (.c (.int .i64 (0)))), none⟩,
  ⟨(some 4), .op (.asg (.t 70)), none⟩]
@[go_sem] def tens_Read_r18 : List AO := [⟨(some 71), .op (.mv (.t 7)), none⟩,
  ⟨(some 72), .op (.load 54 (some 2) (.t 6)), none⟩,
  ⟨(some 73), .call 147 [(false, (.t 72))] [54], none⟩,
  ⟨(some 74), .op (.bin .add 3 0 (.t 71) (.t 73) 3), none⟩,
  ⟨(some 9), .op (.asg (.t 74)), none⟩]
@[go_sem] def tens_Read_r19 : List AO := [⟨(some 75), .op (.mv (.t 0)), none⟩,
  ⟨(some 76), .op (.len 44 false (.t 75)), none⟩,
  ⟨(some 77), .op (.mv (.t 9)), none⟩,
  ⟨(some 78), .op (.bin .lss 3 0 (.t 76) (.t 77) 3), none⟩]
@[go_sem] def tens_Read_r20 : List AO := [⟨(some 79), .op (.build 56 [.sl 0 [], .lit (.bool false), .sl 0 []] []), none⟩,
  ⟨(some 80), .op (.load 26 none (.g 4)), none⟩,
  ⟨none, .op (.store 56 3 (.t 2) (.t 79)), none⟩,
  ⟨(some 3), .op (.asg (.c (.int .i64 (0)))), none⟩,
  ⟨(some 4), .op (.asg (.t 80)), none⟩]
@[go_sem] def tens_Read_r21 : List AO := [⟨(some 82), .op (.load 54 (some 2) (.t 6)), none⟩,
  ⟨(some 83), .op (.mv (.t 0)), none⟩,
  ⟨(some 84), .op (.mv (.t 7)), none⟩,
  ⟨(some 85), .op (.mv (.t 9)), none⟩,
  ⟨(some 86), .op (.slice 44 1 (.t 83) (some (.t 84)) (some (.t 85)) none), none⟩,
  ⟨(some 87), .call 149 [(false, (.t 82)), (false, (.t 86))] [54, 44], none⟩,
  ⟨(some 81), .op (.mvf (.t 87)), none⟩,
  ⟨(some 88), .op (.ext (.t 81) 0), none⟩,
  ⟨(some 89), .op (.ext (.t 81) 1), none⟩,
  ⟨(some 10), .op (.alloc 56 [.own 1 0 [], .lit (.bool false), .own 1 0 []]), none⟩,
  ⟨none, .op (.store 56 3 (.t 10) (.t 88)), none⟩,
  ⟨(some 11), .op (.asg (.t 89)), none⟩]
@[go_sem] def tens_Read_r22 : List AO := [⟨(some 90), .op (.lmv 56 3 (.t 10)), none⟩,
  ⟨(some 91), .op (.mv (.t 9)), none⟩,
  ⟨(some 92), .op (.mv (.t 11)), none⟩,
  ⟨none, .op (.store 56 3 (.t 2) (.t 90)), none⟩,
  ⟨(some 3), .op (.asg (.t 91)), none⟩,
  ⟨(some 4), .op (.asg (.t 92)), none⟩]
def tens_Read_c : IC := (.seq (.reg tens_Read_r0) (.seq (.seq (.reg tens_Read_r1) (.cond (.t 14) (.seq (.draw tens_Read_r2 [[], [], [0, 0], [2, 0, 2], [1, 3, 0, 1, 2, 3]]) .ret) .skip)) (.seq (.seq (.reg tens_Read_r3) (.cond (.t 20) (.seq (.draw tens_Read_r4 [[], [], [0, 0], [2, 0, 2], [1, 3, 0, 1, 2, 3]]) .ret) .skip)) (.seq (.reg tens_Read_r5) (.seq (.reg tens_Read_r6) (.seq (.reg tens_Read_r7) (.seq (.seq (.reg tens_Read_r8) (.block 0 (.loop tens_Read_l0))) (.seq (.seq (.reg tens_Read_r15) (.seq (.reg tens_Read_r16) (.cond (.t 68) (.seq (.reg tens_Read_r17) .ret) .skip))) (.seq (.reg tens_Read_r18) (.seq (.seq (.reg tens_Read_r19) (.cond (.t 78) (.seq (.draw tens_Read_r20 [[], [], [0, 0], [2, 0, 2], [1, 3, 0, 1, 2, 3]]) .ret) .skip)) (.seq (.draw tens_Read_r21 [[], [], [], [], [1, 2, 3], [0, 4], [5], [6], [6], [], [9, 7, 5, 0, 1, 2, 3, 4, 5, 6, 7, 9], [8, 10, 0, 1, 2, 3, 4, 5, 6, 7, 8, 9, 10]]) (.seq (.reg tens_Read_r22) .ret))))))))))))
abbrev F_tens_Read : Nat := 123
theorem tens_Read_call {G : Nat → Option Value} {pre : List AV} {res : AV} (hsz : decide (pre.length ≤ 93) = true) (h : AW pg G 93 tens_Read_c (endR [(.cells 2 3), (.tmp 3), (.tmp 4)] res) (St.init pre)) : ACalls pg G F_tens_Read pre res :=
  ACalls.of_walk (fn := Go.Proofs.Tryd.f123) (vs := [(ResultVar.cell 2 56), (ResultVar.tmp 3), (ResultVar.tmp 4)]) (ic := tens_Read_c) (by kernel_rfl) (by kernel_rfl) rfl (by kernel_rfl) (by kernel_rfl) (of_decide_eq_true (by kernel_rfl)) (by kernel_rfl) (by kernel_rfl) (by kernel_rfl) (of_decide_eq_true hsz) h
@[go_sem] theorem tens_Read_fnB : fnB pg 123 = true := by kernel_rfl

@[go_sem] def tens_Of_r0 : List AO := [⟨(some 2), .op (.box 54 2 (.t 0)), none⟩,
  ⟨(some 4), .op (.alloc 56 [.own 1 0 [], .lit (.bool false), .own 1 0 []]), none⟩,
  ⟨(some 5), .op (.asg (.c .nilIface)), none⟩]
@[go_sem] def tens_Of_r1 : List AO := [⟨(some 11), .op (.load 54 (some 2) (.t 2)), none⟩,
  ⟨(some 12), .call 144 [(false, (.t 11))] [54], none⟩,
  ⟨(some 6), .op (.asg (.t 12)), none⟩]
@[go_sem] def tens_Of_r2 : List AO := [⟨(some 13), .op (.mv (.t 6)), none⟩,
  ⟨(some 14), .op (.bin .neq 26 2 (.t 13) (.c .nilIface) 26), none⟩]
@[go_sem] def tens_Of_r3 : List AO := [⟨(some 15), .op (.build 56 [.sl 0 [], .lit (.bool false), .sl 0 []] []), none⟩,
  ⟨(some 16), .op (.mv (.t 6)), none⟩,
  ⟨none, .op (.store 56 3 (.t 4) (.t 15)), none⟩,
  ⟨(some 5), .op (.asg (.t 16)), none⟩]
@[go_sem] def tens_Of_r4 : List AO := [⟨(some 17), .op (.load 54 (some 2) (.t 2)), none⟩,
  ⟨(some 18), .call 147 [(false, (.t 17))] [54], none⟩,
  ⟨(some 7), .op (.asg (.t 18)), none⟩]
@[go_sem] def tens_Of_r5 : List AO := [⟨(some 20), .op (.mv (.t 1)), none⟩,
  ⟨(some 21), .op (.len 44 false (.t 20)), none⟩,
  ⟨(some 22), .op (.mv (.t 7)), none⟩,
  ⟨(some 23), .op (.bin .lss 3 0 (.t 21) (.t 22) 3), none⟩,
  ⟨(some 19), .op (.asg (.t 23)), none⟩]
@[go_sem] def tens_Of_r6 : List AO := [⟨(some 24), .op (.build 56 [.sl 0 [], .lit (.bool false), .sl 0 []] []), none⟩,
  ⟨(some 25), .op (.load 26 none (.g 4)), none⟩,
  ⟨none, .op (.store 56 3 (.t 4) (.t 24)), none⟩,
  ⟨(some 5), .op (.asg (.t 25)), none⟩]
@[go_sem] def tens_Of_r7 : List AO := [⟨(some 27), .op (.mv (.t 1)), none⟩,
  ⟨(some 28), .op (.len 44 false (.t 27)), none⟩,
  ⟨(some 29), .op (.mv (.t 7)), none⟩,
  ⟨(some 30), .op (.bin .gtr 3 0 (.t 28) (.t 29) 3), none⟩,
  ⟨(some 26), .op (.asg (.t 30)), none⟩]
@[go_sem] def tens_Of_r8 : List AO := [⟨(some 31), .op (.build 56 [.sl 0 [], .lit (.bool false), .sl 0 []] []), none⟩,
  ⟨(some 32), .op (.load 26 none (.g 2)), none⟩,
  ⟨none, .op (.store 56 3 (.t 4) (.t 31)), none⟩,
  ⟨(some 5), .op (.asg (.t 32)), none⟩]
@[go_sem] def tens_Of_r9 : List AO := [⟨(some 34), .op (.load 54 (some 2) (.t 2)), none⟩,
  ⟨(some 35), .call 168 [(false, (.t 34))] [54], none⟩,
  ⟨(some 33), .op (.mva (.t 35)), none⟩,
  ⟨(some 36), .op (.ext (.t 33) 0), none⟩,
  ⟨(some 37), .op (.ext (.t 33) 1), none⟩,
  ⟨(some 8), .op (.alloc 56 [.own 1 0 [], .lit (.bool false), .own 1 0 []]), none⟩,
  ⟨none, .op (.store 56 3 (.t 8) (.t 36)), none⟩,
  ⟨(some 9), .op (.asg (.t 37)), none⟩]
@[go_sem] def tens_Of_r10 : List AO := [⟨(some 38), .op (.faddr 56 2 (.t 8) 1), none⟩,
  ⟨(some 39), .op (.load 24 none (.t 38)), none⟩,
  ⟨(some 40), .op (.len 24 false (.t 39)), none⟩,
  ⟨(some 41), .op (.mv (.c (.int .i64 (0)))), none⟩]
@[go_sem] def tens_Of_r11 : List AO := [⟨(some 42), .op (.bin .lss 3 0 (.t 41) (.t 40) 3), none⟩]
@[go_sem] def tens_Of_r12 : List AO := [⟨(some 43), .op (.mv (.t 41)), none⟩,
  ⟨(some 10), .op (.asg (.t 43)), none⟩]
@[go_sem] def tens_Of_r13 : List AO := [⟨(some 44), .op (.faddr 56 2 (.t 8) 1), none⟩,
  ⟨(some 45), .op (.load 24 none (.t 44)), none⟩,
  ⟨(some 46), .op (.mv (.t 10)), none⟩,
  ⟨(some 47), .op (.mv (.t 1)), none⟩,
  ⟨(some 48), .op (.mv (.t 10)), none⟩,
  ⟨(some 49), .op (.faddr 54 1 (.t 2) 1), none⟩,
  ⟨(some 50), .op (.load 4 none (.t 49)), none⟩,
  ⟨(some 51), .call 169 [(false, (.t 47)), (false, (.t 48)), (false, (.t 50))] [44, 3, 4], none⟩,
  ⟨(some 52), .op (.iaddr 24 1 (.t 45) (.t 46)), none⟩,
  ⟨none, .op (.store 3 1 (.t 52) (.t 51)), none⟩]
@[go_sem] def tens_Of_r14 : List AO := [⟨(some 53), .op (.bin .add 3 0 (.t 41) (.c (.int .i64 (1))) 3), none⟩,
  ⟨(some 41), .op (.mv (.t 53)), none⟩]
def tens_Of_l0 : IC := (.seq (.reg tens_Of_r11) (.seq (.cond (.t 42) .skip (.exit 1)) (.seq (.block 2 (.seq (.reg tens_Of_r12) (.draw tens_Of_r13 [[], [0], [], [], [], [], [5], [3, 4, 6], [1, 2, 0, 1, 2, 3, 4, 5, 6, 7], [8, 7, 7, 0, 1, 2, 3, 4, 5, 6, 7]]))) (.reg tens_Of_r14))))
@[go_sem] def tens_Of_r15 : List AO := [⟨(some 54), .op (.lmv 56 3 (.t 8)), none⟩,
  ⟨(some 55), .op (.mv (.t 9)), none⟩,
  ⟨none, .op (.store 56 3 (.t 4) (.t 54)), none⟩,
  ⟨(some 5), .op (.asg (.t 55)), none⟩]
def tens_Of_c : IC := (.seq (.reg tens_Of_r0) (.seq (.seq (.reg tens_Of_r1) (.seq (.reg tens_Of_r2) (.cond (.t 14) (.seq (.reg tens_Of_r3) .ret) .skip))) (.seq (.reg tens_Of_r4) (.seq (.block 0 (.seq (.reg tens_Of_r5) (.cond (.t 19) (.seq (.draw tens_Of_r6 [[], [], [0, 0], [1, 2, 0, 1, 2]]) .ret) (.seq (.reg tens_Of_r7) (.cond (.t 26) (.seq (.draw tens_Of_r8 [[], [], [0, 0], [1, 2, 0, 1, 2]]) .ret) .skip))))) (.seq (.reg tens_Of_r9) (.seq (.seq (.reg tens_Of_r10) (.block 1 (.loop tens_Of_l0))) (.seq (.reg tens_Of_r15) .ret)))))))
abbrev F_tens_Of : Nat := 149
theorem tens_Of_call {G : Nat → Option Value} {pre : List AV} {res : AV} (hsz : decide (pre.length ≤ 56) = true) (h : AW pg G 56 tens_Of_c (endR [(.cells 4 3), (.tmp 5)] res) (St.init pre)) : ACalls pg G F_tens_Of pre res :=
  ACalls.of_walk (fn := Go.Proofs.Tryd.f149) (vs := [(ResultVar.cell 4 56), (ResultVar.tmp 5)]) (ic := tens_Of_c) (by kernel_rfl) (by kernel_rfl) rfl (by kernel_rfl) (by kernel_rfl) (of_decide_eq_true (by kernel_rfl)) (by kernel_rfl) (by kernel_rfl) (by kernel_rfl) (of_decide_eq_true hsz) h
@[go_sem] theorem tens_Of_fnB : fnB pg 149 = true := by kernel_rfl

@[go_sem] def tens_Zero_r0 : List AO := [⟨(some 1), .op (.box 54 2 (.t 0)), none⟩,
  ⟨(some 2), .op (.alloc 56 [.own 1 0 [], .lit (.bool false), .own 1 0 []]), none⟩,
  ⟨(some 3), .op (.asg (.c .nilIface)), none⟩]
@[go_sem] def tens_Zero_r1 : List AO := [⟨(some 5), .op (.load 54 (some 2) (.t 1)), none⟩,
  ⟨(some 6), .call 144 [(false, (.t 5))] [54], none⟩,
  ⟨(some 4), .op (.asg (.t 6)), none⟩]
@[go_sem] def tens_Zero_r2 : List AO := [⟨(some 7), .op (.mv (.t 4)), none⟩,
  ⟨(some 8), .op (.bin .neq 26 2 (.t 7) (.c .nilIface) 26), none⟩]
@[go_sem] def tens_Zero_r3 : List AO := [⟨(some 9), .op (.build 56 [.sl 0 [], .lit (.bool false), .sl 0 []] []), none⟩,
  ⟨(some 10), .op (.mv (.t 4)), none⟩,
  ⟨none, .op (.store 56 3 (.t 2) (.t 9)), none⟩,
  ⟨(some 3), .op (.asg (.t 10)), none⟩]
@[go_sem] def tens_Zero_r4 : List AO := [⟨(some 11), .op (.load 54 (some 2) (.t 1)), none⟩,
  ⟨(some 12), .call 66 [(false, (.t 11))] [54], none⟩,
  ⟨(some 13), .op (.faddr 54 0 (.t 1) 0), none⟩,
  ⟨(some 14), .op (.load 24 none (.t 13)), none⟩,
  ⟨(some 15), .call 145 [(false, (.t 14))] [24], none⟩,
  ⟨(some 16), .op (.mks 24 3 1 8 [.lit (.int .i64 0)] (.t 15) (.t 15)), none⟩,
  ⟨(some 17), .op (.build 56 [.own 1 0 [], .lit (.bool false), .own 1 0 []] [(0, 0, 2, (.t 12)), (1, 2, 1, (.t 16))]), none⟩,
  ⟨none, .op (.store 56 3 (.t 2) (.t 17)), none⟩,
  ⟨(some 3), .op (.asg (.c .nilIface)), none⟩]
def tens_Zero_c : IC := (.seq (.reg tens_Zero_r0) (.seq (.seq (.reg tens_Zero_r1) (.seq (.reg tens_Zero_r2) (.cond (.t 8) (.seq (.reg tens_Zero_r3) .ret) .skip))) (.seq (.draw tens_Zero_r4 [[], [0], [], [2], [3, 1], [4, 4], [1, 5], [6, 4, 0, 1, 2, 3, 4, 5, 6], [7, 0, 1, 2, 3, 4, 5, 6, 7]]) .ret)))
abbrev F_tens_Zero : Nat := 168
theorem tens_Zero_call {G : Nat → Option Value} {pre : List AV} {res : AV} (hsz : decide (pre.length ≤ 18) = true) (h : AW pg G 18 tens_Zero_c (endR [(.cells 2 3), (.tmp 3)] res) (St.init pre)) : ACalls pg G F_tens_Zero pre res :=
  ACalls.of_walk (fn := Go.Proofs.Tryd.f168) (vs := [(ResultVar.cell 2 56), (ResultVar.tmp 3)]) (ic := tens_Zero_c) (by kernel_rfl) (by kernel_rfl) rfl (by kernel_rfl) (by kernel_rfl) (of_decide_eq_true (by kernel_rfl)) (by kernel_rfl) (by kernel_rfl) (by kernel_rfl) (of_decide_eq_true hsz) h
@[go_sem] theorem tens_Zero_fnB : fnB pg 168 = true := by kernel_rfl

@[go_sem] def tens_Take_r0 : List AO := [⟨(some 6), .op (.asg (.c (.int .i64 (0)))), none⟩]
@[go_sem] def tens_Take_r1 : List AO := [⟨(some 7), .op (.mv (.t 2)), none⟩]
@[go_sem] def tens_Take_r2 : List AO := [⟨(some 8), .op (.mv (.t 0)), none⟩,
  ⟨(some 9), .op (.mv (.t 1)), none⟩,
  ⟨(some 10), .op (.bin .mul 3 0 (.c (.int .i64 (4))) (.t 9) 3), none⟩,
  ⟨(some 11), .op (.slice 44 1 (.t 8) (some (.t 10)) none none), none⟩,
  ⟨(some 0), .op (.asg (.t 11)), none⟩]
@[go_sem] def tens_Take_r3 : List AO := [⟨(some 12), .op (.mv (.t 0)), none⟩,
  ⟨(some 13), .op (.iaddr 44 1 (.t 12) (.c (.int .i64 (0)))), none⟩,
  ⟨(some 14), .op (.load 5 none (.t 13)), none⟩,
  ⟨(some 15), .op (.conv 5 3 (.int .i64) (.t 14)), none⟩,
  ⟨(some 16), .op (.mv (.t 0)), none⟩,
  ⟨(some 17), .op (.iaddr 44 1 (.t 16) (.c (.int .i64 (1)))), none⟩,
  ⟨(some 18), .op (.load 5 none (.t 17)), none⟩,
  ⟨(some 19), .op (.conv 5 3 (.int .i64) (.t 18)), none⟩,
  ⟨(some 20), .op (.bin .shl 3 0 (.t 19) (.c (.int .u64 (8))) 111), none⟩,
  ⟨(some 21), .op (.bin .or 3 0 (.t 15) (.t 20) 3), none⟩,
  ⟨(some 22), .op (.mv (.t 0)), none⟩,
  ⟨(some 23), .op (.iaddr 44 1 (.t 22) (.c (.int .i64 (2)))), none⟩,
  ⟨(some 24), .op (.load 5 none (.t 23)), none⟩,
  ⟨(some 25), .op (.conv 5 3 (.int .i64) (.t 24)), none⟩,
  ⟨(some 26), .op (.bin .shl 3 0 (.t 25) (.c (.int .u64 (16))) 111), none⟩,
  ⟨(some 27), .op (.bin .or 3 0 (.t 21) (.t 26) 3), none⟩,
  ⟨(some 28), .op (.mv (.t 0)), none⟩,
  ⟨(some 29), .op (.iaddr 44 1 (.t 28) (.c (.int .i64 (3)))), none⟩,
  ⟨(some 30), .op (.load 5 none (.t 29)), none⟩,
  ⟨(some 31), .op (.conv 5 3 (.int .i64) (.t 30)), none⟩,
  ⟨(some 32), .op (.bin .shl 3 0 (.t 31) (.c (.int .u64 (24))) 111), none⟩,
  ⟨(some 33), .op (.bin .or 3 0 (.t 27) (.t 32) 3), none⟩,
  ⟨(some 34), .call 122 [(false, (.t 33))] [3], none⟩,
  ⟨(some 6), .op (.asg (.t 34)), none⟩]
@[go_sem] def tens_Take_r4 : List AO := [⟨(some 35), .op (.mv (.t 0)), none⟩,
  ⟨(some 36), .op (.mv (.t 1)), none⟩,
  ⟨(some 37), .op (.iaddr 44 1 (.t 35) (.t 36)), none⟩,
  ⟨(some 38), .op (.load 5 none (.t 37)), none⟩,
  ⟨(some 39), .op (.conv 5 225 (.int .i8) (.t 38)), none⟩,
  ⟨(some 40), .op (.conv 225 3 (.int .i64) (.t 39)), none⟩,
  ⟨(some 6), .op (.asg (.t 40)), none⟩]
def tens_Take_c : IC := (.seq (.reg tens_Take_r0) (.seq (.seq (.reg tens_Take_r1) (.cond (.t 7) (.seq (.reg tens_Take_r2) (.seq (.draw tens_Take_r3 [[], [0], [1], [2], [], [4], [5], [6], [7], [3, 8], [], [10], [11], [12], [13], [9, 14], [], [16], [17], [18], [19], [15, 20], [21], [22, 22, 0, 1, 2, 3, 4, 5, 6, 7, 8, 9, 10, 11, 12, 13, 14, 15, 16, 17, 18, 19, 20, 21, 22]]) .ret)) .skip)) (.seq (.reg tens_Take_r4) .ret)))
abbrev F_tens_Take : Nat := 169
theorem tens_Take_call {G : Nat → Option Value} {pre : List AV} {res : AV} (hsz : decide (pre.length ≤ 41) = true) (h : AW pg G 41 tens_Take_c (endR [(.tmp 6)] res) (St.init pre)) : ACalls pg G F_tens_Take pre res :=
  ACalls.of_walk (fn := Go.Proofs.Tryd.f169) (vs := [(ResultVar.tmp 6)]) (ic := tens_Take_c) (by kernel_rfl) (by kernel_rfl) rfl (by kernel_rfl) (by kernel_rfl) (of_decide_eq_true (by kernel_rfl)) (by kernel_rfl) (by kernel_rfl) (by kernel_rfl) (of_decide_eq_true hsz) h
@[go_sem] theorem tens_Take_fnB : fnB pg 169 = true := by kernel_rfl

end Go.Ideal.Tryd
end
