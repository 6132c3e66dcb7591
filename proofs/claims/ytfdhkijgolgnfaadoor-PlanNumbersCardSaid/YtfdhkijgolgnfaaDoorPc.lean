/- Part Pc of the proof: a machine with trees for values, its soundness, and walks on it. -/
import Derived.Test.YtfdhkijgolgnfaaDoorNx
import Derived.Test.YtfdhkijgolgnfaaDoorPa

section
set_option linter.unusedVariables false
set_option maxRecDepth 10000
namespace Go.Ideal.Tryd
@[go_sem] theorem lodgelaw17_GraphUses_fnB : fnB pg 6 = true := by kernel_rfl

@[go_sem] theorem lodgelaw17_first_fnB : fnB pg 21 = true := by kernel_rfl

@[go_sem] theorem graph_Bytes_fnB : fnB pg 24 = true := by kernel_rfl

@[go_sem] theorem graph_Uses_fnB : fnB pg 26 = true := by kernel_rfl

@[go_sem] theorem lodgeref_Ints_fnB : fnB pg 30 = true := by kernel_rfl

@[go_sem] theorem lodgeref_Among_fnB : fnB pg 31 = true := by kernel_rfl

@[go_sem] theorem graph_fair_fnB : fnB pg 52 = true := by kernel_rfl

@[go_sem] def plan_Writer_Count_r0 : List AO := [⟨(some 4), .op (.mv (.t 0)), none⟩,
  ⟨(some 5), .op (.mv (.t 0)), none⟩,
  ⟨(some 6), .op (.nilck (.t 5)), none⟩,
  ⟨(some 7), .op (.faddr 105 0 (.t 6) 0), none⟩,
  ⟨(some 8), .op (.load 44 none (.t 7)), none⟩,
  ⟨(some 9), .op (.mv (.t 1)), none⟩,
  ⟨(some 10), .op (.conv 3 5 (.int .u8) (.t 9)), none⟩,
  ⟨(some 11), .op (.mv (.t 1)), none⟩,
  ⟨(some 12), .op (.bin .shr 3 0 (.t 11) (.c (.int .u64 (8))) 111), none⟩,
  ⟨(some 13), .op (.conv 3 5 (.int .u8) (.t 12)), none⟩,
  ⟨(some 14), .op (.bslice 44 5 1 2 [.lit (.int .u8 0)] [(0, (.t 10)), (1, (.t 13))]), none⟩,
  ⟨(some 15), .op (.app 44 5 1 1 (.t 8) (.t 14)), none⟩,
  ⟨(some 16), .op (.nilck (.t 4)), none⟩,
  ⟨(some 17), .op (.faddr 105 0 (.t 16) 0), none⟩,
  ⟨none, .op (.store 44 1 (.t 17) (.t 15)), none⟩]
def plan_Writer_Count_c : IC := (.reg plan_Writer_Count_r0)
abbrev F_plan_Writer_Count : Nat := 53
@[go_sem] theorem plan_Writer_Count_fnB : fnB pg 53 = true := by kernel_rfl
theorem plan_Writer_Count_callX {G : Nat → Option Value} {pre : List AV} {res : AV} {posts : List (Nat × AV)} {pins : List Nat} (hpin : plan_Writer_Count_c.pin pins = true) (hpo : posts.map (·.1) = pins) (hpr : (pins.all fun t => !([].map rvT).contains t && decide (t < pre.length)) = true) (hnr : (posts.all fun p => noRef p.2) = true) (hsz : decide (pre.length ≤ 18) = true) (h : AW pg G 18 plan_Writer_Count_c (endRX [] res posts) (St.init pre)) : ACallsX pg G F_plan_Writer_Count pre res posts :=
  ACallsX.of_walk (fn := Go.Proofs.Tryd.f53) (vs := []) (ic := plan_Writer_Count_c) (by kernel_rfl) (by kernel_rfl) rfl (by kernel_rfl) (by kernel_rfl) (of_decide_eq_true (by kernel_rfl)) (by kernel_rfl) (by kernel_rfl) (by kernel_rfl) hpin (of_decide_eq_true hsz) hpo hpr hnr h

@[go_sem] def plan_Writer_Byte_r0 : List AO := [⟨(some 4), .op (.mv (.t 0)), none⟩,
  ⟨(some 5), .op (.mv (.t 0)), none⟩,
  ⟨(some 6), .op (.nilck (.t 5)), none⟩,
  ⟨(some 7), .op (.faddr 105 0 (.t 6) 0), none⟩,
  ⟨(some 8), .op (.load 44 none (.t 7)), none⟩,
  ⟨(some 9), .op (.mv (.t 1)), none⟩,
  ⟨(some 10), .op (.conv 3 5 (.int .u8) (.t 9)), none⟩,
  ⟨(some 11), .op (.bslice 44 5 1 1 [.lit (.int .u8 0)] [(0, (.t 10))]), none⟩,
  ⟨(some 12), .op (.app 44 5 1 1 (.t 8) (.t 11)), none⟩,
  ⟨(some 13), .op (.nilck (.t 4)), none⟩,
  ⟨(some 14), .op (.faddr 105 0 (.t 13) 0), none⟩,
  ⟨none, .op (.store 44 1 (.t 14) (.t 12)), none⟩]
def plan_Writer_Byte_c : IC := (.reg plan_Writer_Byte_r0)
abbrev F_plan_Writer_Byte : Nat := 54
@[go_sem] theorem plan_Writer_Byte_fnB : fnB pg 54 = true := by kernel_rfl
theorem plan_Writer_Byte_callX {G : Nat → Option Value} {pre : List AV} {res : AV} {posts : List (Nat × AV)} {pins : List Nat} (hpin : plan_Writer_Byte_c.pin pins = true) (hpo : posts.map (·.1) = pins) (hpr : (pins.all fun t => !([].map rvT).contains t && decide (t < pre.length)) = true) (hnr : (posts.all fun p => noRef p.2) = true) (hsz : decide (pre.length ≤ 15) = true) (h : AW pg G 15 plan_Writer_Byte_c (endRX [] res posts) (St.init pre)) : ACallsX pg G F_plan_Writer_Byte pre res posts :=
  ACallsX.of_walk (fn := Go.Proofs.Tryd.f54) (vs := []) (ic := plan_Writer_Byte_c) (by kernel_rfl) (by kernel_rfl) rfl (by kernel_rfl) (by kernel_rfl) (of_decide_eq_true (by kernel_rfl)) (by kernel_rfl) (by kernel_rfl) (by kernel_rfl) hpin (of_decide_eq_true hsz) hpo hpr hnr h

@[go_sem] def plan_Writer_Number_r0 : List AO := [⟨(some 4), .op (.mv (.t 0)), none⟩,
  ⟨(some 5), .op (.mv (.t 0)), none⟩,
  ⟨(some 6), .op (.nilck (.t 5)), none⟩,
  ⟨(some 7), .op (.faddr 105 0 (.t 6) 0), none⟩,
  ⟨(some 8), .op (.load 44 none (.t 7)), none⟩,
  ⟨(some 9), .op (.mv (.t 1)), none⟩,
  ⟨(some 10), .op (.conv 3 5 (.int .u8) (.t 9)), none⟩,
  ⟨(some 11), .op (.mv (.t 1)), none⟩,
  ⟨(some 12), .op (.bin .shr 3 0 (.t 11) (.c (.int .u64 (8))) 111), none⟩,
  ⟨(some 13), .op (.conv 3 5 (.int .u8) (.t 12)), none⟩,
  ⟨(some 14), .op (.mv (.t 1)), none⟩,
  ⟨(some 15), .op (.bin .shr 3 0 (.t 14) (.c (.int .u64 (16))) 111), none⟩,
  ⟨(some 16), .op (.conv 3 5 (.int .u8) (.t 15)), none⟩,
  ⟨(some 17), .op (.mv (.t 1)), none⟩,
  ⟨(some 18), .op (.bin .shr 3 0 (.t 17) (.c (.int .u64 (24))) 111), none⟩,
  ⟨(some 19), .op (.conv 3 5 (.int .u8) (.t 18)), none⟩,
  ⟨(some 20), .op (.bslice 44 5 1 4 [.lit (.int .u8 0)] [(0, (.t 10)), (1, (.t 13)), (2, (.t 16)), (3, (.t 19))]), none⟩,
  ⟨(some 21), .op (.app 44 5 1 1 (.t 8) (.t 20)), none⟩,
  ⟨(some 22), .op (.nilck (.t 4)), none⟩,
  ⟨(some 23), .op (.faddr 105 0 (.t 22) 0), none⟩,
  ⟨none, .op (.store 44 1 (.t 23) (.t 21)), none⟩]
def plan_Writer_Number_c : IC := (.reg plan_Writer_Number_r0)
abbrev F_plan_Writer_Number : Nat := 55
@[go_sem] theorem plan_Writer_Number_fnB : fnB pg 55 = true := by kernel_rfl
theorem plan_Writer_Number_callX {G : Nat → Option Value} {pre : List AV} {res : AV} {posts : List (Nat × AV)} {pins : List Nat} (hpin : plan_Writer_Number_c.pin pins = true) (hpo : posts.map (·.1) = pins) (hpr : (pins.all fun t => !([].map rvT).contains t && decide (t < pre.length)) = true) (hnr : (posts.all fun p => noRef p.2) = true) (hsz : decide (pre.length ≤ 24) = true) (h : AW pg G 24 plan_Writer_Number_c (endRX [] res posts) (St.init pre)) : ACallsX pg G F_plan_Writer_Number pre res posts :=
  ACallsX.of_walk (fn := Go.Proofs.Tryd.f55) (vs := []) (ic := plan_Writer_Number_c) (by kernel_rfl) (by kernel_rfl) rfl (by kernel_rfl) (by kernel_rfl) (of_decide_eq_true (by kernel_rfl)) (by kernel_rfl) (by kernel_rfl) (by kernel_rfl) hpin (of_decide_eq_true hsz) hpo hpr hnr h

@[go_sem] def tens_Bytes_r0 : List AO := [⟨(some 1), .op (.box 56 3 (.t 0)), none⟩,
  ⟨(some 2), .op (.asg (.nl 1)), none⟩]
@[go_sem] def tens_Bytes_r1 : List AO := [⟨(some 7), .op (.load 56 (some 3) (.t 1)), none⟩,
  ⟨(some 8), .call 108 [(false, (.t 7))] [56], none⟩,
  ⟨(some 9), .op (.bin .neq 26 2 (.t 8) (.c .nilIface) 26), none⟩]
@[go_sem] def tens_Bytes_r2 : List AO := [⟨(some 2), .op (.asg (.nl 1)), none⟩]
@[go_sem] def tens_Bytes_r3 : List AO := [⟨(some 10), .op (.faddr 56 0 (.t 1) 0), none⟩,
  ⟨(some 11), .op (.faddr 54 0 (.t 10) 0), none⟩,
  ⟨(some 12), .op (.load 24 none (.t 11)), none⟩,
  ⟨(some 13), .op (.len 24 false (.t 12)), none⟩,
  ⟨(some 14), .op (.conv 3 5 (.int .u8) (.t 13)), none⟩,
  ⟨(some 3), .op (.asg (.t 14)), none⟩]
@[go_sem] def tens_Bytes_r4 : List AO := [⟨(some 15), .op (.faddr 56 0 (.t 1) 0), none⟩,
  ⟨(some 16), .op (.faddr 54 1 (.t 15) 1), none⟩,
  ⟨(some 17), .op (.load 4 none (.t 16)), none⟩]
@[go_sem] def tens_Bytes_r5 : List AO := [⟨(some 18), .op (.mv (.t 3)), none⟩,
  ⟨(some 19), .op (.bin .add 5 0 (.t 18) (.c (.int .u8 (8))) 5), none⟩,
  ⟨(some 3), .op (.asg (.t 19)), none⟩]
@[go_sem] def tens_Bytes_r6 : List AO := [⟨(some 20), .op (.mv (.t 3)), none⟩,
  ⟨(some 21), .op (.bslice 44 5 1 1 [.lit (.int .u8 0)] [(0, (.t 20))]), none⟩,
  ⟨(some 4), .op (.asg (.t 21)), none⟩]
@[go_sem] def tens_Bytes_r7 : List AO := [⟨(some 22), .op (.faddr 56 0 (.t 1) 0), none⟩,
  ⟨(some 23), .op (.faddr 54 0 (.t 22) 0), none⟩,
  ⟨(some 24), .op (.load 24 none (.t 23)), none⟩,
  ⟨(some 25), .op (.len 24 false (.t 24)), none⟩,
  ⟨(some 26), .op (.mv (.c (.int .i64 (0)))), none⟩]
@[go_sem] def tens_Bytes_r8 : List AO := [⟨(some 27), .op (.bin .lss 3 0 (.t 26) (.t 25) 3), none⟩]
@[go_sem] def tens_Bytes_r9 : List AO := [⟨(some 28), .op (.iaddr 24 1 (.t 24) (.t 26)), none⟩,
  ⟨(some 29), .op (.load 3 none (.t 28)), none⟩,
  ⟨(some 6), .op (.asg (.t 29)), none⟩]
@[go_sem] def tens_Bytes_r10 : List AO := [⟨(some 30), .op (.mv (.t 4)), none⟩,
  ⟨(some 31), .op (.mv (.t 6)), none⟩,
  ⟨(some 32), .op (.conv 3 5 (.int .u8) (.t 31)), none⟩,
  ⟨(some 33), .op (.mv (.t 6)), none⟩,
  ⟨(some 34), .op (.bin .shr 3 0 (.t 33) (.c (.int .u64 (8))) 111), none⟩,
  ⟨(some 35), .op (.conv 3 5 (.int .u8) (.t 34)), none⟩,
  ⟨(some 36), .op (.bslice 44 5 1 2 [.lit (.int .u8 0)] [(0, (.t 32)), (1, (.t 35))]), none⟩,
  ⟨(some 37), .op (.app 44 5 1 1 (.t 30) (.t 36)), none⟩,
  ⟨(some 4), .op (.asg (.t 37)), none⟩]
@[go_sem] def tens_Bytes_r11 : List AO := [⟨(some 38), .op (.bin .add 3 0 (.t 26) (.c (.int .i64 (1))) 3), none⟩,
  ⟨(some 26), .op (.mv (.t 38)), none⟩]
def tens_Bytes_l0 : IC := (.seq (.reg tens_Bytes_r8) (.seq (.cond (.t 27) .skip (.exit 0)) (.seq (.block 1 (.seq (.reg tens_Bytes_r9) (.reg tens_Bytes_r10))) (.reg tens_Bytes_r11))))
@[go_sem] def tens_Bytes_r12 : List AO := [⟨(some 39), .op (.mv (.t 4)), none⟩,
  ⟨(some 40), .op (.load 56 (some 3) (.t 1)), none⟩,
  ⟨(some 41), .call 109 [(false, (.t 40))] [56], none⟩,
  ⟨(some 42), .op (.app 44 5 1 1 (.t 39) (.t 41)), none⟩,
  ⟨(some 2), .op (.asg (.t 42)), none⟩]
def tens_Bytes_c : IC := (.seq (.reg tens_Bytes_r0) (.seq (.seq (.reg tens_Bytes_r1) (.cond (.t 9) (.seq (.reg tens_Bytes_r2) .ret) .skip)) (.seq (.reg tens_Bytes_r3) (.seq (.seq (.reg tens_Bytes_r4) (.cond (.t 17) (.reg tens_Bytes_r5) .skip)) (.seq (.reg tens_Bytes_r6) (.seq (.seq (.reg tens_Bytes_r7) (.block 0 (.loop tens_Bytes_l0))) (.seq (.reg tens_Bytes_r12) .ret)))))))
abbrev F_tens_Bytes : Nat := 56
theorem tens_Bytes_call {G : Nat → Option Value} {pre : List AV} {res : AV} (hsz : decide (pre.length ≤ 43) = true) (h : AW pg G 43 tens_Bytes_c (endR [(.tmp 2)] res) (St.init pre)) : ACalls pg G F_tens_Bytes pre res :=
  ACalls.of_walk (fn := Go.Proofs.Tryd.f56) (vs := [(ResultVar.tmp 2)]) (ic := tens_Bytes_c) (by kernel_rfl) (by kernel_rfl) rfl (by kernel_rfl) (by kernel_rfl) (of_decide_eq_true (by kernel_rfl)) (by kernel_rfl) (by kernel_rfl) (by kernel_rfl) (of_decide_eq_true hsz) h
@[go_sem] theorem tens_Bytes_fnB : fnB pg 56 = true := by kernel_rfl

@[go_sem] theorem slices_Contains_int_fnB : fnB pg 62 = true := by kernel_rfl

@[go_sem] theorem slices_ContainsFunc_Node_fnB : fnB pg 101 = true := by kernel_rfl
@[go_sem] theorem graph_fair_1_fnB : fnB pg 102 = true := by kernel_rfl

@[go_sem] theorem graph_fair_2_fnB : fnB pg 103 = true := by kernel_rfl

@[go_sem] theorem graph_place_fnB : fnB pg 104 = true := by kernel_rfl

@[go_sem] def slices_ContainsFunc_int_r0 : List AO := [⟨(some 4), .op (.asg (.c (.bool false))), none⟩]
@[go_sem] def slices_ContainsFunc_int_r1 : List AO := [⟨(some 5), .op (.mv (.t 0)), none⟩,
  ⟨(some 6), .op (.mv (.t 1)), none⟩,
  ⟨(some 7), .callx (.f 143) [(false, (.t 5))] [.p 0, .x (.t 6)] [24, 109], none⟩,
  ⟨(some 8), .op (.bin .geq 3 0 (.t 7) (.c (.int .i64 (0))) 3), none⟩,
  ⟨(some 4), .op (.asg (.t 8)), none⟩]
def slices_ContainsFunc_int_c : IC := (.seq (.reg slices_ContainsFunc_int_r0) (.seq (.reg slices_ContainsFunc_int_r1) .ret))
abbrev F_slices_ContainsFunc_int : Nat := 105
@[go_sem] theorem slices_ContainsFunc_int_fnB : fnB pg 105 = true := by kernel_rfl
theorem slices_ContainsFunc_int_callX {G : Nat → Option Value} {pre : List AV} {res : AV} {posts : List (Nat × AV)} {pins : List Nat} (hpin : slices_ContainsFunc_int_c.pin pins = true) (hpo : posts.map (·.1) = pins) (hpr : (pins.all fun t => !([(ResultVar.tmp 4)].map rvT).contains t && decide (t < pre.length)) = true) (hnr : (posts.all fun p => noRef p.2) = true) (hsz : decide (pre.length ≤ 9) = true) (h : AW pg G 9 slices_ContainsFunc_int_c (endRX [(.tmp 4)] res posts) (St.init pre)) : ACallsX pg G F_slices_ContainsFunc_int pre res posts :=
  ACallsX.of_walk (fn := Go.Proofs.Tryd.f105) (vs := [(ResultVar.tmp 4)]) (ic := slices_ContainsFunc_int_c) (by kernel_rfl) (by kernel_rfl) rfl (by kernel_rfl) (by kernel_rfl) (of_decide_eq_true (by kernel_rfl)) (by kernel_rfl) (by kernel_rfl) (by kernel_rfl) hpin (of_decide_eq_true hsz) hpo hpr hnr h

@[go_sem] theorem graph_fair_3_fnB : fnB pg 106 = true := by kernel_rfl

@[go_sem] def plan_Fits_r0 : List AO := [⟨(some 2), .op (.asg (.c (.bool false))), none⟩]
@[go_sem] def plan_Fits_r1 : List AO := [⟨(some 3), .op (.mv (.t 0)), none⟩,
  ⟨(some 4), .op (.bin .geq 3 0 (.t 3) (.c (.int .i64 (-2147483648))) 3), none⟩,
  ⟨(some 5), .op (.mv (.t 4)), none⟩,
  ⟨(some 6), .op (.mv (.t 0)), (some (2, 5, true))⟩,
  ⟨(some 7), .op (.bin .leq 3 0 (.t 6) (.c (.int .i64 (2147483647))) 3), (some (2, 5, true))⟩,
  ⟨(some 8), .op (.pick (.t 5) (.t 7) (.c (.bool false))), none⟩,
  ⟨(some 2), .op (.asg (.t 8)), none⟩]
def plan_Fits_c : IC := (.seq (.reg plan_Fits_r0) (.seq (.reg plan_Fits_r1) .ret))
abbrev F_plan_Fits : Nat := 107
theorem plan_Fits_call {G : Nat → Option Value} {pre : List AV} {res : AV} (hsz : decide (pre.length ≤ 9) = true) (h : AW pg G 9 plan_Fits_c (endR [(.tmp 2)] res) (St.init pre)) : ACalls pg G F_plan_Fits pre res :=
  ACalls.of_walk (fn := Go.Proofs.Tryd.f107) (vs := [(ResultVar.tmp 2)]) (ic := plan_Fits_c) (by kernel_rfl) (by kernel_rfl) rfl (by kernel_rfl) (by kernel_rfl) (of_decide_eq_true (by kernel_rfl)) (by kernel_rfl) (by kernel_rfl) (by kernel_rfl) (of_decide_eq_true hsz) h
@[go_sem] theorem plan_Fits_fnB : fnB pg 107 = true := by kernel_rfl

@[go_sem] def tens_Valid_r0 : List AO := [⟨(some 1), .op (.box 56 3 (.t 0)), none⟩,
  ⟨(some 2), .op (.asg (.c .nilIface)), none⟩]
@[go_sem] def tens_Valid_r1 : List AO := [⟨(some 6), .op (.faddr 56 0 (.t 1) 0), none⟩,
  ⟨(some 7), .op (.load 54 (some 2) (.t 6)), none⟩,
  ⟨(some 8), .call 144 [(false, (.t 7))] [54], none⟩,
  ⟨(some 3), .op (.asg (.t 8)), none⟩]
@[go_sem] def tens_Valid_r2 : List AO := [⟨(some 9), .op (.mv (.t 3)), none⟩,
  ⟨(some 10), .op (.bin .neq 26 2 (.t 9) (.c .nilIface) 26), none⟩]
@[go_sem] def tens_Valid_r3 : List AO := [⟨(some 11), .op (.mv (.t 3)), none⟩,
  ⟨(some 2), .op (.asg (.t 11)), none⟩]
@[go_sem] def tens_Valid_r4 : List AO := [⟨(some 12), .op (.faddr 56 2 (.t 1) 1), none⟩,
  ⟨(some 13), .op (.load 24 none (.t 12)), none⟩,
  ⟨(some 14), .op (.len 24 false (.t 13)), none⟩,
  ⟨(some 15), .op (.faddr 56 0 (.t 1) 0), none⟩,
  ⟨(some 16), .op (.faddr 54 0 (.t 15) 0), none⟩,
  ⟨(some 17), .op (.load 24 none (.t 16)), none⟩,
  ⟨(some 18), .call 145 [(false, (.t 17))] [24], none⟩,
  ⟨(some 19), .op (.bin .neq 3 0 (.t 14) (.t 18) 3), none⟩]
@[go_sem] def tens_Valid_r5 : List AO := [⟨(some 20), .op (.load 26 none (.g 6)), none⟩,
  ⟨(some 2), .op (.asg (.t 20)), none⟩]
@[go_sem] def tens_Valid_r6 : List AO := [⟨(some 21), .op (.faddr 56 2 (.t 1) 1), none⟩,
  ⟨(some 22), .op (.load 24 none (.t 21)), none⟩,
  ⟨(some 23), .op (.len 24 false (.t 22)), none⟩,
  ⟨(some 24), .op (.mv (.c (.int .i64 (0)))), none⟩]
@[go_sem] def tens_Valid_r7 : List AO := [⟨(some 25), .op (.bin .lss 3 0 (.t 24) (.t 23) 3), none⟩]
@[go_sem] def tens_Valid_r8 : List AO := [⟨(some 26), .op (.mv (.t 24)), none⟩,
  ⟨(some 27), .op (.iaddr 24 1 (.t 22) (.t 24)), none⟩,
  ⟨(some 28), .op (.load 3 none (.t 27)), none⟩,
  ⟨(some 4), .op (.asg (.t 26)), none⟩,
  ⟨(some 5), .op (.asg (.t 28)), none⟩]
@[go_sem] def tens_Valid_r9 : List AO := [⟨(some 29), .op (.mv (.t 5)), none⟩,
  ⟨(some 30), .op (.faddr 56 0 (.t 1) 0), none⟩,
  ⟨(some 31), .op (.faddr 54 1 (.t 30) 1), none⟩,
  ⟨(some 32), .op (.load 4 none (.t 31)), none⟩,
  ⟨(some 33), .call 146 [(false, (.t 29)), (false, (.t 32))] [3, 4], none⟩,
  ⟨(some 34), .op (.un .not 4 (.t 33)), none⟩]
@[go_sem] def tens_Valid_r10 : List AO := [⟨(some 35), .op (.mv (.t 4)), none⟩,
  ⟨(some 36), .op (.load 26 none (.g 3)), none⟩,
  ⟨(some 37), .op (.build 94 [.lit (.int .i64 0), .lit .nilIface] [(0, 0, 1, (.t 35)), (1, 1, 1, (.t 36))]), none⟩,
  ⟨(some 38), .op (.box 94 2 (.t 37)), none⟩,
  ⟨(some 39), .op (.mki 92 (.t 38)), none⟩,
  ⟨(some 2), .op (.asg (.t 39)), none⟩]
@[go_sem] def tens_Valid_r11 : List AO := [⟨(some 40), .op (.bin .add 3 0 (.t 24) (.c (.int .i64 (1))) 3), none⟩,
  ⟨(some 24), .op (.mv (.t 40)), none⟩]
def tens_Valid_l0 : IC := (.seq (.reg tens_Valid_r7) (.seq (.cond (.t 25) .skip (.exit 0)) (.seq (.block 1 (.seq (.reg tens_Valid_r8) (.seq (.reg tens_Valid_r9) (.cond (.t 34) (.seq (.reg tens_Valid_r10) .ret) .skip)))) (.reg tens_Valid_r11))))
@[go_sem] def tens_Valid_r12 : List AO := [⟨(some 2), .op (.asg (.c .nilIface)), none⟩]
def tens_Valid_c : IC := (.seq (.reg tens_Valid_r0) (.seq (.seq (.reg tens_Valid_r1) (.seq (.reg tens_Valid_r2) (.cond (.t 10) (.seq (.reg tens_Valid_r3) .ret) .skip))) (.seq (.seq (.draw tens_Valid_r4 [[], [0], [1], [], [3], [4], [5], [2, 6]]) (.cond (.t 19) (.seq (.reg tens_Valid_r5) .ret) .skip)) (.seq (.seq (.reg tens_Valid_r6) (.block 0 (.loop tens_Valid_l0))) (.seq (.reg tens_Valid_r12) .ret)))))
abbrev F_tens_Valid : Nat := 108
theorem tens_Valid_call {G : Nat → Option Value} {pre : List AV} {res : AV} (hsz : decide (pre.length ≤ 41) = true) (h : AW pg G 41 tens_Valid_c (endR [(.tmp 2)] res) (St.init pre)) : ACalls pg G F_tens_Valid pre res :=
  ACalls.of_walk (fn := Go.Proofs.Tryd.f108) (vs := [(ResultVar.tmp 2)]) (ic := tens_Valid_c) (by kernel_rfl) (by kernel_rfl) rfl (by kernel_rfl) (by kernel_rfl) (of_decide_eq_true (by kernel_rfl)) (by kernel_rfl) (by kernel_rfl) (by kernel_rfl) (of_decide_eq_true hsz) h
@[go_sem] theorem tens_Valid_fnB : fnB pg 108 = true := by kernel_rfl

@[go_sem] def tens_Raw_r0 : List AO := [⟨(some 1), .op (.box 56 3 (.t 0)), none⟩,
  ⟨(some 2), .op (.asg (.nl 1)), none⟩]
@[go_sem] def tens_Raw_r1 : List AO := [⟨(some 6), .op (.load 56 (some 3) (.t 1)), none⟩,
  ⟨(some 7), .call 108 [(false, (.t 6))] [56], none⟩,
  ⟨(some 8), .op (.bin .neq 26 2 (.t 7) (.c .nilIface) 26), none⟩]
@[go_sem] def tens_Raw_r2 : List AO := [⟨(some 2), .op (.asg (.nl 1)), none⟩]
@[go_sem] def tens_Raw_r3 : List AO := [⟨(some 9), .op (.faddr 56 0 (.t 1) 0), none⟩,
  ⟨(some 10), .op (.load 54 (some 2) (.t 9)), none⟩,
  ⟨(some 11), .call 147 [(false, (.t 10))] [54], none⟩,
  ⟨(some 12), .op (.mks 44 5 1 1 [.lit (.int .u8 0)] (.c (.int .i64 (0))) (.t 11)), none⟩,
  ⟨(some 3), .op (.asg (.t 12)), none⟩]
@[go_sem] def tens_Raw_r4 : List AO := [⟨(some 13), .op (.faddr 56 2 (.t 1) 1), none⟩,
  ⟨(some 14), .op (.load 24 none (.t 13)), none⟩,
  ⟨(some 15), .op (.len 24 false (.t 14)), none⟩,
  ⟨(some 16), .op (.mv (.c (.int .i64 (0)))), none⟩]
@[go_sem] def tens_Raw_r5 : List AO := [⟨(some 17), .op (.bin .lss 3 0 (.t 16) (.t 15) 3), none⟩]
@[go_sem] def tens_Raw_r6 : List AO := [⟨(some 18), .op (.iaddr 24 1 (.t 14) (.t 16)), none⟩,
  ⟨(some 19), .op (.load 3 none (.t 18)), none⟩,
  ⟨(some 5), .op (.asg (.t 19)), none⟩]
@[go_sem] def tens_Raw_r7 : List AO := [⟨(some 20), .op (.mv (.t 3)), none⟩,
  ⟨(some 21), .op (.mv (.t 5)), none⟩,
  ⟨(some 22), .op (.faddr 56 0 (.t 1) 0), none⟩,
  ⟨(some 23), .op (.faddr 54 1 (.t 22) 1), none⟩,
  ⟨(some 24), .op (.load 4 none (.t 23)), none⟩,
  ⟨(some 25), .call 148 [(true, (.t 20)), (false, (.t 21)), (false, (.t 24))] [44, 3, 4], none⟩,
  ⟨(some 3), .op (.asg (.t 25)), none⟩]
@[go_sem] def tens_Raw_r8 : List AO := [⟨(some 26), .op (.bin .add 3 0 (.t 16) (.c (.int .i64 (1))) 3), none⟩,
  ⟨(some 16), .op (.mv (.t 26)), none⟩]
def tens_Raw_l0 : IC := (.seq (.reg tens_Raw_r5) (.seq (.cond (.t 17) .skip (.exit 0)) (.seq (.block 1 (.seq (.reg tens_Raw_r6) (.reg tens_Raw_r7))) (.reg tens_Raw_r8))))
@[go_sem] def tens_Raw_r9 : List AO := [⟨(some 27), .op (.mv (.t 3)), none⟩,
  ⟨(some 2), .op (.asg (.t 27)), none⟩]
def tens_Raw_c : IC := (.seq (.reg tens_Raw_r0) (.seq (.seq (.reg tens_Raw_r1) (.cond (.t 8) (.seq (.reg tens_Raw_r2) .ret) .skip)) (.seq (.reg tens_Raw_r3) (.seq (.seq (.reg tens_Raw_r4) (.block 0 (.loop tens_Raw_l0))) (.seq (.reg tens_Raw_r9) .ret)))))
abbrev F_tens_Raw : Nat := 109
theorem tens_Raw_call {G : Nat → Option Value} {pre : List AV} {res : AV} (hsz : decide (pre.length ≤ 28) = true) (h : AW pg G 28 tens_Raw_c (endR [(.tmp 2)] res) (St.init pre)) : ACalls pg G F_tens_Raw pre res :=
  ACalls.of_walk (fn := Go.Proofs.Tryd.f109) (vs := [(ResultVar.tmp 2)]) (ic := tens_Raw_c) (by kernel_rfl) (by kernel_rfl) rfl (by kernel_rfl) (by kernel_rfl) (of_decide_eq_true (by kernel_rfl)) (by kernel_rfl) (by kernel_rfl) (by kernel_rfl) (of_decide_eq_true hsz) h
@[go_sem] theorem tens_Raw_fnB : fnB pg 109 = true := by kernel_rfl

@[go_sem] theorem slices_Index_int_fnB : fnB pg 115 = true := by kernel_rfl

@[go_sem] theorem slices_IndexFunc_Node_fnB : fnB pg 142 = true := by kernel_rfl
@[go_sem] def slices_IndexFunc_int_r0 : List AO := [⟨(some 4), .op (.asg (.c (.int .i64 (0)))), none⟩]
@[go_sem] def slices_IndexFunc_int_r1 : List AO := [⟨(some 6), .op (.mv (.t 0)), none⟩,
  ⟨(some 7), .op (.len 24 false (.t 6)), none⟩,
  ⟨(some 8), .op (.mv (.c (.int .i64 (0)))), none⟩]
@[go_sem] def slices_IndexFunc_int_r2 : List AO := [⟨(some 9), .op (.bin .lss 3 0 (.t 8) (.t 7) 3), none⟩]
@[go_sem] def slices_IndexFunc_int_r3 : List AO := [⟨(some 10), .op (.mv (.t 8)), none⟩,
  ⟨(some 5), .op (.asg (.t 10)), none⟩]
@[go_sem] def slices_IndexFunc_int_r4 : List AO := [⟨(some 11), .op (.mv (.t 1)), none⟩,
  ⟨(some 12), .op (.mv (.t 0)), none⟩,
  ⟨(some 13), .op (.mv (.t 5)), none⟩,
  ⟨(some 14), .op (.iaddr 24 1 (.t 12) (.t 13)), none⟩,
  ⟨(some 15), .op (.load 3 none (.t 14)), none⟩,
  ⟨(some 16), .callx (.t 11) [(false, (.t 15))] [.p 0] [3], none⟩]
@[go_sem] def slices_IndexFunc_int_r5 : List AO := [⟨(some 17), .op (.mv (.t 5)), none⟩,
  ⟨(some 4), .op (.asg (.t 17)), none⟩]
@[go_sem] def slices_IndexFunc_int_r6 : List AO := [⟨(some 18), .op (.bin .add 3 0 (.t 8) (.c (.int .i64 (1))) 3), none⟩,
  ⟨(some 8), .op (.mv (.t 18)), none⟩]
def slices_IndexFunc_int_l0 : IC := (.seq (.reg slices_IndexFunc_int_r2) (.seq (.cond (.t 9) .skip (.exit 0)) (.seq (.block 1 (.seq (.reg slices_IndexFunc_int_r3) (.seq (.reg slices_IndexFunc_int_r4) (.cond (.t 16) (.seq (.reg slices_IndexFunc_int_r5) .ret) .skip)))) (.reg slices_IndexFunc_int_r6))))
@[go_sem] def slices_IndexFunc_int_r7 : List AO := [⟨(some 4), .op (.asg (.c (.int .i64 (-1)))), none⟩]
def slices_IndexFunc_int_c : IC := (.seq (.reg slices_IndexFunc_int_r0) (.seq (.seq (.reg slices_IndexFunc_int_r1) (.block 0 (.loop slices_IndexFunc_int_l0))) (.seq (.reg slices_IndexFunc_int_r7) .ret)))
abbrev F_slices_IndexFunc_int : Nat := 143
@[go_sem] theorem slices_IndexFunc_int_fnB : fnB pg 143 = true := by kernel_rfl
theorem slices_IndexFunc_int_callX {G : Nat → Option Value} {pre : List AV} {res : AV} {posts : List (Nat × AV)} {pins : List Nat} (hpin : slices_IndexFunc_int_c.pin pins = true) (hpo : posts.map (·.1) = pins) (hpr : (pins.all fun t => !([(ResultVar.tmp 4)].map rvT).contains t && decide (t < pre.length)) = true) (hnr : (posts.all fun p => noRef p.2) = true) (hsz : decide (pre.length ≤ 19) = true) (h : AW pg G 19 slices_IndexFunc_int_c (endRX [(.tmp 4)] res posts) (St.init pre)) : ACallsX pg G F_slices_IndexFunc_int pre res posts :=
  ACallsX.of_walk (fn := Go.Proofs.Tryd.f143) (vs := [(ResultVar.tmp 4)]) (ic := slices_IndexFunc_int_c) (by kernel_rfl) (by kernel_rfl) rfl (by kernel_rfl) (by kernel_rfl) (of_decide_eq_true (by kernel_rfl)) (by kernel_rfl) (by kernel_rfl) (by kernel_rfl) hpin (of_decide_eq_true hsz) hpo hpr hnr h

@[go_sem] def shape_Valid_r0 : List AO := [⟨(some 1), .op (.box 54 2 (.t 0)), none⟩,
  ⟨(some 2), .op (.asg (.c .nilIface)), none⟩]
@[go_sem] def shape_Valid_r1 : List AO := [⟨(some 8), .op (.faddr 54 0 (.t 1) 0), none⟩,
  ⟨(some 9), .op (.load 24 none (.t 8)), none⟩,
  ⟨(some 10), .op (.len 24 false (.t 9)), none⟩,
  ⟨(some 11), .op (.bin .gtr 3 0 (.t 10) (.c (.int .i64 (4))) 3), none⟩]
@[go_sem] def shape_Valid_r2 : List AO := [⟨(some 12), .op (.load 26 none (.g 2)), none⟩,
  ⟨(some 2), .op (.asg (.t 12)), none⟩]
@[go_sem] def shape_Valid_r3 : List AO := [⟨(some 3), .op (.asg (.c (.int .i64 (1)))), none⟩]
@[go_sem] def shape_Valid_r4 : List AO := [⟨(some 13), .op (.faddr 54 0 (.t 1) 0), none⟩,
  ⟨(some 14), .op (.load 24 none (.t 13)), none⟩,
  ⟨(some 15), .op (.len 24 false (.t 14)), none⟩,
  ⟨(some 16), .op (.mv (.c (.int .i64 (0)))), none⟩]
@[go_sem] def shape_Valid_r5 : List AO := [⟨(some 17), .op (.bin .lss 3 0 (.t 16) (.t 15) 3), none⟩]
@[go_sem] def shape_Valid_r6 : List AO := [⟨(some 18), .op (.iaddr 24 1 (.t 14) (.t 16)), none⟩,
  ⟨(some 19), .op (.load 3 none (.t 18)), none⟩,
  ⟨(some 5), .op (.asg (.t 19)), none⟩]
@[go_sem] def shape_Valid_r7 : List AO := [⟨(some 20), .op (.mv (.t 5)), none⟩,
  ⟨(some 21), .op (.bin .lss 3 0 (.t 20) (.c (.int .i64 (1))) 3), none⟩,
  ⟨(some 22), .op (.mv (.t 21)), none⟩,
  ⟨(some 23), .op (.mv (.t 5)), (some (2, 22, false))⟩,
  ⟨(some 24), .op (.bin .gtr 3 0 (.t 23) (.c (.int .i64 (256))) 3), (some (2, 22, false))⟩,
  ⟨(some 25), .op (.pick (.t 22) (.c (.bool true)) (.t 24)), none⟩]
@[go_sem] def shape_Valid_r8 : List AO := [⟨(some 26), .op (.load 26 none (.g 3)), none⟩,
  ⟨(some 2), .op (.asg (.t 26)), none⟩]
@[go_sem] def shape_Valid_r9 : List AO := [⟨(some 27), .op (.bin .add 3 0 (.t 16) (.c (.int .i64 (1))) 3), none⟩,
  ⟨(some 16), .op (.mv (.t 27)), none⟩]
def shape_Valid_l0 : IC := (.seq (.reg shape_Valid_r5) (.seq (.cond (.t 17) .skip (.exit 0)) (.seq (.block 1 (.seq (.reg shape_Valid_r6) (.seq (.reg shape_Valid_r7) (.cond (.t 25) (.seq (.reg shape_Valid_r8) .ret) .skip)))) (.reg shape_Valid_r9))))
@[go_sem] def shape_Valid_r10 : List AO := [⟨(some 28), .op (.faddr 54 0 (.t 1) 0), none⟩,
  ⟨(some 29), .op (.load 24 none (.t 28)), none⟩,
  ⟨(some 30), .op (.len 24 false (.t 29)), none⟩,
  ⟨(some 31), .op (.mv (.c (.int .i64 (0)))), none⟩]
@[go_sem] def shape_Valid_r11 : List AO := [⟨(some 32), .op (.bin .lss 3 0 (.t 31) (.t 30) 3), none⟩]
@[go_sem] def shape_Valid_r12 : List AO := [⟨(some 33), .op (.iaddr 24 1 (.t 29) (.t 31)), none⟩,
  ⟨(some 34), .op (.load 3 none (.t 33)), none⟩,
  ⟨(some 7), .op (.asg (.t 34)), none⟩]
@[go_sem] def shape_Valid_r13 : List AO := [⟨(some 35), .op (.mv (.t 3)), none⟩,
  ⟨(some 36), .op (.mv (.t 7)), none⟩,
  ⟨(some 37), .op (.bin .mul 3 0 (.t 35) (.t 36) 3), none⟩,
  ⟨(some 3), .op (.asg (.t 37)), none⟩]
@[go_sem] def shape_Valid_r14 : List AO := [⟨(some 38), .op (.mv (.t 3)), none⟩,
  ⟨(some 39), .op (.bin .gtr 3 0 (.t 38) (.c (.int .i64 (16384))) 3), none⟩]
@[go_sem] def shape_Valid_r15 : List AO := [⟨(some 40), .op (.load 26 none (.g 2)), none⟩,
  ⟨(some 2), .op (.asg (.t 40)), none⟩]
@[go_sem] def shape_Valid_r16 : List AO := [⟨(some 41), .op (.bin .add 3 0 (.t 31) (.c (.int .i64 (1))) 3), none⟩,
  ⟨(some 31), .op (.mv (.t 41)), none⟩]
def shape_Valid_l1 : IC := (.seq (.reg shape_Valid_r11) (.seq (.cond (.t 32) .skip (.exit 2)) (.seq (.block 3 (.seq (.reg shape_Valid_r12) (.seq (.reg shape_Valid_r13) (.seq (.reg shape_Valid_r14) (.cond (.t 39) (.seq (.reg shape_Valid_r15) .ret) .skip))))) (.reg shape_Valid_r16))))
@[go_sem] def shape_Valid_r17 : List AO := [⟨(some 2), .op (.asg (.c .nilIface)), none⟩]
def shape_Valid_c : IC := (.seq (.reg shape_Valid_r0) (.seq (.seq (.reg shape_Valid_r1) (.cond (.t 11) (.seq (.reg shape_Valid_r2) .ret) .skip)) (.seq (.reg shape_Valid_r3) (.seq (.seq (.reg shape_Valid_r4) (.block 0 (.loop shape_Valid_l0))) (.seq (.seq (.reg shape_Valid_r10) (.block 2 (.loop shape_Valid_l1))) (.seq (.reg shape_Valid_r17) .ret))))))
abbrev F_shape_Valid : Nat := 144
theorem shape_Valid_call {G : Nat → Option Value} {pre : List AV} {res : AV} (hsz : decide (pre.length ≤ 42) = true) (h : AW pg G 42 shape_Valid_c (endR [(.tmp 2)] res) (St.init pre)) : ACalls pg G F_shape_Valid pre res :=
  ACalls.of_walk (fn := Go.Proofs.Tryd.f144) (vs := [(ResultVar.tmp 2)]) (ic := shape_Valid_c) (by kernel_rfl) (by kernel_rfl) rfl (by kernel_rfl) (by kernel_rfl) (of_decide_eq_true (by kernel_rfl)) (by kernel_rfl) (by kernel_rfl) (by kernel_rfl) (of_decide_eq_true hsz) h
@[go_sem] theorem shape_Valid_fnB : fnB pg 144 = true := by kernel_rfl

@[go_sem] def shape_Elems_r0 : List AO := [⟨(some 2), .op (.asg (.c (.int .i64 (0)))), none⟩]
@[go_sem] def shape_Elems_r1 : List AO := [⟨(some 6), .op (.mv (.t 0)), none⟩,
  ⟨(some 7), .call 167 [(false, (.t 6))] [24], none⟩,
  ⟨(some 8), .op (.un .not 4 (.t 7)), none⟩]
@[go_sem] def shape_Elems_r2 : List AO := [⟨(some 2), .op (.asg (.c (.int .i64 (0)))), none⟩]
@[go_sem] def shape_Elems_r3 : List AO := [⟨(some 3), .op (.asg (.c (.int .i64 (1)))), none⟩]
@[go_sem] def shape_Elems_r4 : List AO := [⟨(some 9), .op (.mv (.t 0)), none⟩,
  ⟨(some 10), .op (.len 24 false (.t 9)), none⟩,
  ⟨(some 11), .op (.mv (.c (.int .i64 (0)))), none⟩]
@[go_sem] def shape_Elems_r5 : List AO := [⟨(some 12), .op (.bin .lss 3 0 (.t 11) (.t 10) 3), none⟩]
@[go_sem] def shape_Elems_r6 : List AO := [⟨(some 13), .op (.iaddr 24 1 (.t 9) (.t 11)), none⟩,
  ⟨(some 14), .op (.load 3 none (.t 13)), none⟩,
  ⟨(some 5), .op (.asg (.t 14)), none⟩]
@[go_sem] def shape_Elems_r7 : List AO := [⟨(some 15), .op (.mv (.t 3)), none⟩,
  ⟨(some 16), .op (.mv (.t 5)), none⟩,
  ⟨(some 17), .op (.bin .mul 3 0 (.t 15) (.t 16) 3), none⟩,
  ⟨(some 3), .op (.asg (.t 17)), none⟩]
@[go_sem] def shape_Elems_r8 : List AO := [⟨(some 18), .op (.bin .add 3 0 (.t 11) (.c (.int .i64 (1))) 3), none⟩,
  ⟨(some 11), .op (.mv (.t 18)), none⟩]
def shape_Elems_l0 : IC := (.seq (.reg shape_Elems_r5) (.seq (.cond (.t 12) .skip (.exit 0)) (.seq (.block 1 (.seq (.reg shape_Elems_r6) (.reg shape_Elems_r7))) (.reg shape_Elems_r8))))
@[go_sem] def shape_Elems_r9 : List AO := [⟨(some 19), .op (.mv (.t 3)), none⟩,
  ⟨(some 2), .op (.asg (.t 19)), none⟩]
def shape_Elems_c : IC := (.seq (.reg shape_Elems_r0) (.seq (.seq (.reg shape_Elems_r1) (.cond (.t 8) (.seq (.reg shape_Elems_r2) .ret) .skip)) (.seq (.reg shape_Elems_r3) (.seq (.seq (.reg shape_Elems_r4) (.block 0 (.loop shape_Elems_l0))) (.seq (.reg shape_Elems_r9) .ret)))))
abbrev F_shape_Elems : Nat := 145
theorem shape_Elems_call {G : Nat → Option Value} {pre : List AV} {res : AV} (hsz : decide (pre.length ≤ 20) = true) (h : AW pg G 20 shape_Elems_c (endR [(.tmp 2)] res) (St.init pre)) : ACalls pg G F_shape_Elems pre res :=
  ACalls.of_walk (fn := Go.Proofs.Tryd.f145) (vs := [(ResultVar.tmp 2)]) (ic := shape_Elems_c) (by kernel_rfl) (by kernel_rfl) rfl (by kernel_rfl) (by kernel_rfl) (of_decide_eq_true (by kernel_rfl)) (by kernel_rfl) (by kernel_rfl) (by kernel_rfl) (of_decide_eq_true hsz) h
@[go_sem] theorem shape_Elems_fnB : fnB pg 145 = true := by kernel_rfl

@[go_sem] def tens_fits_r0 : List AO := [⟨(some 4), .op (.asg (.c (.bool false))), none⟩]
@[go_sem] def tens_fits_r1 : List AO := [⟨(some 5), .op (.mv (.t 1)), none⟩]
@[go_sem] def tens_fits_r2 : List AO := [⟨(some 6), .op (.mv (.t 0)), none⟩,
  ⟨(some 7), .op (.bin .geq 3 0 (.t 6) (.c (.int .i64 (-2147483648))) 3), none⟩,
  ⟨(some 8), .op (.mv (.t 7)), none⟩,
  ⟨(some 9), .op (.mv (.t 0)), (some (2, 8, true))⟩,
  ⟨(some 10), .op (.bin .leq 3 0 (.t 9) (.c (.int .i64 (2147483647))) 3), (some (2, 8, true))⟩,
  ⟨(some 11), .op (.pick (.t 8) (.t 10) (.c (.bool false))), none⟩,
  ⟨(some 4), .op (.asg (.t 11)), none⟩]
@[go_sem] def tens_fits_r3 : List AO := [⟨(some 12), .op (.mv (.t 0)), none⟩,
  ⟨(some 13), .op (.bin .geq 3 0 (.t 12) (.c (.int .i64 (-128))) 3), none⟩,
  ⟨(some 14), .op (.mv (.t 13)), none⟩,
  ⟨(some 15), .op (.mv (.t 0)), (some (2, 14, true))⟩,
  ⟨(some 16), .op (.bin .leq 3 0 (.t 15) (.c (.int .i64 (127))) 3), (some (2, 14, true))⟩,
  ⟨(some 17), .op (.pick (.t 14) (.t 16) (.c (.bool false))), none⟩,
  ⟨(some 4), .op (.asg (.t 17)), none⟩]
def tens_fits_c : IC := (.seq (.reg tens_fits_r0) (.seq (.seq (.reg tens_fits_r1) (.cond (.t 5) (.seq (.reg tens_fits_r2) .ret) .skip)) (.seq (.reg tens_fits_r3) .ret)))
abbrev F_tens_fits : Nat := 146
theorem tens_fits_call {G : Nat → Option Value} {pre : List AV} {res : AV} (hsz : decide (pre.length ≤ 18) = true) (h : AW pg G 18 tens_fits_c (endR [(.tmp 4)] res) (St.init pre)) : ACalls pg G F_tens_fits pre res :=
  ACalls.of_walk (fn := Go.Proofs.Tryd.f146) (vs := [(ResultVar.tmp 4)]) (ic := tens_fits_c) (by kernel_rfl) (by kernel_rfl) rfl (by kernel_rfl) (by kernel_rfl) (of_decide_eq_true (by kernel_rfl)) (by kernel_rfl) (by kernel_rfl) (by kernel_rfl) (of_decide_eq_true hsz) h
@[go_sem] theorem tens_fits_fnB : fnB pg 146 = true := by kernel_rfl

@[go_sem] def shape_Bytes_r0 : List AO := [⟨(some 1), .op (.box 54 2 (.t 0)), none⟩,
  ⟨(some 2), .op (.asg (.c (.int .i64 (0)))), none⟩]
@[go_sem] def shape_Bytes_r1 : List AO := [⟨(some 3), .op (.faddr 54 1 (.t 1) 1), none⟩,
  ⟨(some 4), .op (.load 4 none (.t 3)), none⟩]
@[go_sem] def shape_Bytes_r2 : List AO := [⟨(some 5), .op (.faddr 54 0 (.t 1) 0), none⟩,
  ⟨(some 6), .op (.load 24 none (.t 5)), none⟩,
  ⟨(some 7), .call 145 [(false, (.t 6))] [24], none⟩,
  ⟨(some 8), .op (.bin .mul 3 0 (.c (.int .i64 (4))) (.t 7) 3), none⟩,
  ⟨(some 2), .op (.asg (.t 8)), none⟩]
@[go_sem] def shape_Bytes_r3 : List AO := [⟨(some 9), .op (.faddr 54 0 (.t 1) 0), none⟩,
  ⟨(some 10), .op (.load 24 none (.t 9)), none⟩,
  ⟨(some 11), .call 145 [(false, (.t 10))] [24], none⟩,
  ⟨(some 2), .op (.asg (.t 11)), none⟩]
def shape_Bytes_c : IC := (.seq (.reg shape_Bytes_r0) (.seq (.seq (.reg shape_Bytes_r1) (.cond (.t 4) (.seq (.reg shape_Bytes_r2) .ret) .skip)) (.seq (.reg shape_Bytes_r3) .ret)))
abbrev F_shape_Bytes : Nat := 147
theorem shape_Bytes_call {G : Nat → Option Value} {pre : List AV} {res : AV} (hsz : decide (pre.length ≤ 12) = true) (h : AW pg G 12 shape_Bytes_c (endR [(.tmp 2)] res) (St.init pre)) : ACalls pg G F_shape_Bytes pre res :=
  ACalls.of_walk (fn := Go.Proofs.Tryd.f147) (vs := [(ResultVar.tmp 2)]) (ic := shape_Bytes_c) (by kernel_rfl) (by kernel_rfl) rfl (by kernel_rfl) (by kernel_rfl) (of_decide_eq_true (by kernel_rfl)) (by kernel_rfl) (by kernel_rfl) (by kernel_rfl) (of_decide_eq_true hsz) h
@[go_sem] theorem shape_Bytes_fnB : fnB pg 147 = true := by kernel_rfl

@[go_sem] def tens_Put_r0 : List AO := [⟨(some 6), .op (.asg (.nl 1)), none⟩]
@[go_sem] def tens_Put_r1 : List AO := [⟨(some 7), .op (.mv (.t 2)), none⟩]
@[go_sem] def tens_Put_r2 : List AO := [⟨(some 8), .op (.mv (.t 0)), none⟩,
  ⟨(some 9), .op (.mv (.t 1)), none⟩,
  ⟨(some 10), .op (.conv 3 5 (.int .u8) (.t 9)), none⟩,
  ⟨(some 11), .op (.mv (.t 1)), none⟩,
  ⟨(some 12), .op (.bin .shr 3 0 (.t 11) (.c (.int .u64 (8))) 111), none⟩,
  ⟨(some 13), .op (.conv 3 5 (.int .u8) (.t 12)), none⟩,
  ⟨(some 14), .op (.mv (.t 1)), none⟩,
  ⟨(some 15), .op (.bin .shr 3 0 (.t 14) (.c (.int .u64 (16))) 111), none⟩,
  ⟨(some 16), .op (.conv 3 5 (.int .u8) (.t 15)), none⟩,
  ⟨(some 17), .op (.mv (.t 1)), none⟩,
  ⟨(some 18), .op (.bin .shr 3 0 (.t 17) (.c (.int .u64 (24))) 111), none⟩,
  ⟨(some 19), .op (.conv 3 5 (.int .u8) (.t 18)), none⟩,
  ⟨(some 20), .op (.bslice 44 5 1 4 [.lit (.int .u8 0)] [(0, (.t 10)), (1, (.t 13)), (2, (.t 16)), (3, (.t 19))]), none⟩,
  ⟨(some 21), .op (.app 44 5 1 1 (.t 8) (.t 20)), none⟩,
  ⟨(some 6), .op (.asg (.t 21)), none⟩]
@[go_sem] def tens_Put_r3 : List AO := [⟨(some 22), .op (.mv (.t 0)), none⟩,
  ⟨(some 23), .op (.mv (.t 1)), none⟩,
  ⟨(some 24), .op (.conv 3 5 (.int .u8) (.t 23)), none⟩,
  ⟨(some 25), .op (.bslice 44 5 1 1 [.lit (.int .u8 0)] [(0, (.t 24))]), none⟩,
  ⟨(some 26), .op (.app 44 5 1 1 (.t 22) (.t 25)), none⟩,
  ⟨(some 6), .op (.asg (.t 26)), none⟩]
def tens_Put_c : IC := (.seq (.reg tens_Put_r0) (.seq (.seq (.reg tens_Put_r1) (.cond (.t 7) (.seq (.reg tens_Put_r2) .ret) .skip)) (.seq (.reg tens_Put_r3) .ret)))
abbrev F_tens_Put : Nat := 148
theorem tens_Put_call {G : Nat → Option Value} {pre : List AV} {res : AV} (hsz : decide (pre.length ≤ 27) = true) (h : AW pg G 27 tens_Put_c (endR [(.tmp 6)] res) (St.init pre)) : ACalls pg G F_tens_Put pre res :=
  ACalls.of_walk (fn := Go.Proofs.Tryd.f148) (vs := [(ResultVar.tmp 6)]) (ic := tens_Put_c) (by kernel_rfl) (by kernel_rfl) rfl (by kernel_rfl) (by kernel_rfl) (of_decide_eq_true (by kernel_rfl)) (by kernel_rfl) (by kernel_rfl) (by kernel_rfl) (of_decide_eq_true hsz) h
@[go_sem] theorem tens_Put_fnB : fnB pg 148 = true := by kernel_rfl

@[go_sem] def shape_fair_r0 : List AO := [⟨(some 2), .op (.asg (.c (.bool false))), none⟩]
@[go_sem] def shape_fair_r1 : List AO := [⟨(some 3), .op (.mv (.t 0)), none⟩,
  ⟨(some 4), .op (.build 54 [.own 1 0 [], .lit (.bool false)] [(0, 0, 1, (.t 3))]), none⟩,
  ⟨(some 5), .call 144 [(false, (.t 4))] [54], none⟩,
  ⟨(some 6), .op (.bin .eql 26 2 (.t 5) (.c .nilIface) 26), none⟩,
  ⟨(some 2), .op (.asg (.t 6)), none⟩]
def shape_fair_c : IC := (.seq (.reg shape_fair_r0) (.seq (.reg shape_fair_r1) .ret))
abbrev F_shape_fair : Nat := 167
theorem shape_fair_call {G : Nat → Option Value} {pre : List AV} {res : AV} (hsz : decide (pre.length ≤ 7) = true) (h : AW pg G 7 shape_fair_c (endR [(.tmp 2)] res) (St.init pre)) : ACalls pg G F_shape_fair pre res :=
  ACalls.of_walk (fn := Go.Proofs.Tryd.f167) (vs := [(ResultVar.tmp 2)]) (ic := shape_fair_c) (by kernel_rfl) (by kernel_rfl) rfl (by kernel_rfl) (by kernel_rfl) (of_decide_eq_true (by kernel_rfl)) (by kernel_rfl) (by kernel_rfl) (by kernel_rfl) (of_decide_eq_true hsz) h
@[go_sem] theorem shape_fair_fnB : fnB pg 167 = true := by kernel_rfl

end Go.Ideal.Tryd
end
