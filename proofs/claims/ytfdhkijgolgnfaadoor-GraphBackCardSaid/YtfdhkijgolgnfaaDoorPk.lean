/- Part Pk of the proof: a machine with trees for values, its soundness, and walks on it. -/
import Derived.Test.YtfdhkijgolgnfaaDoorPj
import Derived.Test.YtfdhkijgolgnfaaDoorPh
import Derived.WalkKit
import Derived.LaidEql
import Derived.Stop.Asserts
import Derived.RowKitTokens

section
set_option linter.unusedVariables false
set_option maxRecDepth 10000
namespace Go.Ideal.Tryd
@[go_sem] theorem lodgelaw14_first_fnB : fnB pg 32 = true := by kernel_rfl

@[go_sem] theorem lodgeworld_Plan_fnB : fnB pg 33 = true := by kernel_rfl

@[go_sem] theorem lodgeworld_Tensors_fnB : fnB pg 64 = true := by kernel_rfl

@[go_sem] theorem plan_Clone_fnB : fnB pg 34 = true := by kernel_rfl

@[go_sem] theorem plan_Same_fnB : fnB pg 35 = true := by kernel_rfl

@[go_sem] theorem lodgeref_SamePlan_fnB : fnB pg 36 = true := by kernel_rfl

@[go_sem] def shape_Clone_r0 : List AO := [⟨(some 1), .op (.box 54 2 (.t 0)), none⟩,
  ⟨(some 2), .op (.alloc 54 [.own 1 0 [], .lit (.bool false)]), none⟩]
@[go_sem] def shape_Clone_r1 : List AO := [⟨(some 3), .op (.faddr 54 0 (.t 1) 0), none⟩,
  ⟨(some 4), .op (.load 24 none (.t 3)), none⟩,
  ⟨(some 5), .call 68 [(false, (.t 4))] [24], none⟩,
  ⟨(some 6), .op (.faddr 54 1 (.t 1) 1), none⟩,
  ⟨(some 7), .op (.load 4 none (.t 6)), none⟩,
  ⟨(some 8), .op (.build 54 [.own 1 0 [], .lit (.bool false)] [(0, 0, 1, (.t 5)), (1, 1, 1, (.t 7))]), none⟩,
  ⟨none, .op (.store 54 2 (.t 2) (.t 8)), none⟩]
def shape_Clone_c : IC := (.seq (.reg shape_Clone_r0) (.seq (.draw shape_Clone_r1 [[], [0], [1], [], [3], [2, 4], [5, 2, 0, 1, 2, 3, 4, 5]]) .ret))
abbrev F_shape_Clone : Nat := 66
theorem shape_Clone_call {G : Nat → Option Value} {pre : List AV} {res : AV} (hsz : decide (pre.length ≤ 9) = true) (h : AW pg G 9 shape_Clone_c (endR [(.cells 2 2)] res) (St.init pre)) : ACalls pg G F_shape_Clone pre res :=
  ACalls.of_walk (fn := Go.Proofs.Tryd.f66) (vs := [(ResultVar.cell 2 54)]) (ic := shape_Clone_c) (by kernel_rfl) (by kernel_rfl) rfl (by kernel_rfl) (by kernel_rfl) (of_decide_eq_true (by kernel_rfl)) (by kernel_rfl) (by kernel_rfl) (by kernel_rfl) (of_decide_eq_true hsz) h
@[go_sem] theorem shape_Clone_fnB : fnB pg 66 = true := by kernel_rfl

@[go_sem] def tens_Clone_r0 : List AO := [⟨(some 1), .op (.box 56 3 (.t 0)), none⟩,
  ⟨(some 2), .op (.alloc 56 [.own 1 0 [], .lit (.bool false), .own 1 0 []]), none⟩]
@[go_sem] def tens_Clone_r1 : List AO := [⟨(some 3), .op (.faddr 56 0 (.t 1) 0), none⟩,
  ⟨(some 4), .op (.load 54 (some 2) (.t 3)), none⟩,
  ⟨(some 5), .call 66 [(false, (.t 4))] [54], none⟩,
  ⟨(some 6), .op (.faddr 56 2 (.t 1) 1), none⟩,
  ⟨(some 7), .op (.load 24 none (.t 6)), none⟩,
  ⟨(some 8), .call 68 [(false, (.t 7))] [24], none⟩,
  ⟨(some 9), .op (.build 56 [.own 1 0 [], .lit (.bool false), .own 1 0 []] [(0, 0, 2, (.t 5)), (1, 2, 1, (.t 8))]), none⟩,
  ⟨none, .op (.store 56 3 (.t 2) (.t 9)), none⟩]
def tens_Clone_c : IC := (.seq (.reg tens_Clone_r0) (.seq (.draw tens_Clone_r1 [[], [0], [1], [], [3], [4, 2], [2, 5], [6, 5, 0, 1, 2, 3, 4, 5, 6]]) .ret))
abbrev F_tens_Clone : Nat := 67
theorem tens_Clone_call {G : Nat → Option Value} {pre : List AV} {res : AV} (hsz : decide (pre.length ≤ 10) = true) (h : AW pg G 10 tens_Clone_c (endR [(.cells 2 3)] res) (St.init pre)) : ACalls pg G F_tens_Clone pre res :=
  ACalls.of_walk (fn := Go.Proofs.Tryd.f67) (vs := [(ResultVar.cell 2 56)]) (ic := tens_Clone_c) (by kernel_rfl) (by kernel_rfl) rfl (by kernel_rfl) (by kernel_rfl) (of_decide_eq_true (by kernel_rfl)) (by kernel_rfl) (by kernel_rfl) (by kernel_rfl) (of_decide_eq_true hsz) h
@[go_sem] theorem tens_Clone_fnB : fnB pg 67 = true := by kernel_rfl

@[go_sem] def slices_Clone_int_r0 : List AO := [⟨(some 2), .op (.asg (.nl 1)), none⟩]
@[go_sem] def slices_Clone_int_r1 : List AO := [⟨(some 3), .op (.mv (.t 0)), none⟩,
  ⟨(some 4), .nilq 24 (.t 3) 24, none⟩]
@[go_sem] def slices_Clone_int_r2 : List AO := [⟨(some 2), .op (.asg (.nl 1)), none⟩]
@[go_sem] def slices_Clone_int_r3 : List AO := [⟨(some 5), .op (.bslice 24 3 1 0 [.lit (.int .i64 0)] []), none⟩,
  ⟨(some 6), .op (.mv (.t 0)), none⟩,
  ⟨(some 7), .op (.app 24 3 1 8 (.t 5) (.t 6)), none⟩,
  ⟨(some 2), .op (.asg (.t 7)), none⟩]
def slices_Clone_int_c : IC := (.seq (.reg slices_Clone_int_r0) (.seq (.seq (.reg slices_Clone_int_r1) (.cond (.t 4) (.seq (.reg slices_Clone_int_r2) .ret) .skip)) (.seq (.reg slices_Clone_int_r3) .ret)))
abbrev F_slices_Clone_int : Nat := 68
theorem slices_Clone_int_call {G : Nat → Option Value} {pre : List AV} {res : AV} (hsz : decide (pre.length ≤ 8) = true) (h : AW pg G 8 slices_Clone_int_c (endR [(.tmp 2)] res) (St.init pre)) : ACalls pg G F_slices_Clone_int pre res :=
  ACalls.of_walk (fn := Go.Proofs.Tryd.f68) (vs := [(ResultVar.tmp 2)]) (ic := slices_Clone_int_c) (by kernel_rfl) (by kernel_rfl) rfl (by kernel_rfl) (by kernel_rfl) (of_decide_eq_true (by kernel_rfl)) (by kernel_rfl) (by kernel_rfl) (by kernel_rfl) (of_decide_eq_true hsz) h
@[go_sem] theorem slices_Clone_int_fnB : fnB pg 68 = true := by kernel_rfl

@[go_sem] theorem plan_Same_1_fnB : fnB pg 69 = true := by kernel_rfl

@[go_sem] def shape_Same_r0 : List AO := [⟨(some 2), .op (.box 54 2 (.t 0)), none⟩,
  ⟨(some 3), .op (.box 54 2 (.t 1)), none⟩,
  ⟨(some 4), .op (.asg (.c (.bool false))), none⟩]
@[go_sem] def shape_Same_r1 : List AO := [⟨(some 5), .op (.faddr 54 1 (.t 2) 1), none⟩,
  ⟨(some 6), .op (.load 4 none (.t 5)), none⟩,
  ⟨(some 7), .op (.faddr 54 1 (.t 3) 1), none⟩,
  ⟨(some 8), .op (.load 4 none (.t 7)), none⟩,
  ⟨(some 9), .op (.bin .eql 4 1 (.t 6) (.t 8) 4), none⟩,
  ⟨(some 10), .op (.mv (.t 9)), none⟩,
  ⟨(some 11), .op (.faddr 54 0 (.t 2) 0), (some (5, 10, true))⟩,
  ⟨(some 12), .op (.load 24 none (.t 11)), (some (5, 10, true))⟩,
  ⟨(some 13), .op (.faddr 54 0 (.t 3) 0), (some (5, 10, true))⟩,
  ⟨(some 14), .op (.load 24 none (.t 13)), (some (5, 10, true))⟩,
  ⟨(some 15), .call 117 [(false, (.t 12)), (false, (.t 14))] [24, 24], (some (5, 10, true))⟩,
  ⟨(some 16), .op (.pick (.t 10) (.t 15) (.c (.bool false))), none⟩,
  ⟨(some 4), .op (.asg (.t 16)), none⟩]
def shape_Same_c : IC := (.seq (.reg shape_Same_r0) (.seq (.reg shape_Same_r1) .ret))
abbrev F_shape_Same : Nat := 70
theorem shape_Same_call {G : Nat → Option Value} {pre : List AV} {res : AV} (hsz : decide (pre.length ≤ 17) = true) (h : AW pg G 17 shape_Same_c (endR [(.tmp 4)] res) (St.init pre)) : ACalls pg G F_shape_Same pre res :=
  ACalls.of_walk (fn := Go.Proofs.Tryd.f70) (vs := [(ResultVar.tmp 4)]) (ic := shape_Same_c) (by kernel_rfl) (by kernel_rfl) rfl (by kernel_rfl) (by kernel_rfl) (of_decide_eq_true (by kernel_rfl)) (by kernel_rfl) (by kernel_rfl) (by kernel_rfl) (of_decide_eq_true hsz) h
@[go_sem] theorem shape_Same_fnB : fnB pg 70 = true := by kernel_rfl

@[go_sem] theorem slices_EqualFunc_View_fnB : fnB pg 71 = true := by kernel_rfl
@[go_sem] theorem slices_EqualFunc_Tensor_fnB : fnB pg 72 = true := by kernel_rfl
@[go_sem] def tens_Same_r0 : List AO := [⟨(some 2), .op (.box 56 3 (.t 0)), none⟩,
  ⟨(some 3), .op (.box 56 3 (.t 1)), none⟩,
  ⟨(some 4), .op (.asg (.c (.bool false))), none⟩]
@[go_sem] def tens_Same_r1 : List AO := [⟨(some 5), .op (.faddr 56 0 (.t 2) 0), none⟩,
  ⟨(some 6), .op (.load 54 (some 2) (.t 5)), none⟩,
  ⟨(some 7), .op (.faddr 56 0 (.t 3) 0), none⟩,
  ⟨(some 8), .op (.load 54 (some 2) (.t 7)), none⟩,
  ⟨(some 9), .call 70 [(false, (.t 6)), (false, (.t 8))] [54, 54], none⟩,
  ⟨(some 10), .op (.mv (.t 9)), none⟩,
  ⟨(some 11), .op (.faddr 56 2 (.t 2) 1), (some (5, 10, true))⟩,
  ⟨(some 12), .op (.load 24 none (.t 11)), (some (5, 10, true))⟩,
  ⟨(some 13), .op (.faddr 56 2 (.t 3) 1), (some (5, 10, true))⟩,
  ⟨(some 14), .op (.load 24 none (.t 13)), (some (5, 10, true))⟩,
  ⟨(some 15), .call 117 [(false, (.t 12)), (false, (.t 14))] [24, 24], (some (5, 10, true))⟩,
  ⟨(some 16), .op (.pick (.t 10) (.t 15) (.c (.bool false))), none⟩,
  ⟨(some 4), .op (.asg (.t 16)), none⟩]
def tens_Same_c : IC := (.seq (.reg tens_Same_r0) (.seq (.reg tens_Same_r1) .ret))
abbrev F_tens_Same : Nat := 73
theorem tens_Same_call {G : Nat → Option Value} {pre : List AV} {res : AV} (hsz : decide (pre.length ≤ 17) = true) (h : AW pg G 17 tens_Same_c (endR [(.tmp 4)] res) (St.init pre)) : ACalls pg G F_tens_Same pre res :=
  ACalls.of_walk (fn := Go.Proofs.Tryd.f73) (vs := [(ResultVar.tmp 4)]) (ic := tens_Same_c) (by kernel_rfl) (by kernel_rfl) rfl (by kernel_rfl) (by kernel_rfl) (of_decide_eq_true (by kernel_rfl)) (by kernel_rfl) (by kernel_rfl) (by kernel_rfl) (of_decide_eq_true hsz) h
@[go_sem] theorem tens_Same_fnB : fnB pg 73 = true := by kernel_rfl

@[go_sem] theorem slices_EqualFunc_Desc_fnB : fnB pg 74 = true := by kernel_rfl
@[go_sem] theorem slices_EqualFunc_Instr_fnB : fnB pg 75 = true := by kernel_rfl
@[go_sem] theorem plan_sameInstr_fnB : fnB pg 76 = true := by kernel_rfl

@[go_sem] theorem lodgeref_SameViews_fnB : fnB pg 77 = true := by kernel_rfl

@[go_sem] theorem lodgeref_SameTensors_fnB : fnB pg 78 = true := by kernel_rfl

@[go_sem] theorem lodgeref_SameDescs_fnB : fnB pg 79 = true := by kernel_rfl

@[go_sem] theorem lodgeref_SameInstrs_fnB : fnB pg 80 = true := by kernel_rfl

@[go_sem] def slices_Equal_int_r0 : List AO := [⟨(some 4), .op (.asg (.c (.bool false))), none⟩]
@[go_sem] def slices_Equal_int_r1 : List AO := [⟨(some 6), .op (.mv (.t 0)), none⟩,
  ⟨(some 7), .op (.len 24 false (.t 6)), none⟩,
  ⟨(some 8), .op (.mv (.t 1)), none⟩,
  ⟨(some 9), .op (.len 24 false (.t 8)), none⟩,
  ⟨(some 10), .op (.bin .neq 3 0 (.t 7) (.t 9) 3), none⟩]
@[go_sem] def slices_Equal_int_r2 : List AO := [⟨(some 4), .op (.asg (.c (.bool false))), none⟩]
@[go_sem] def slices_Equal_int_r3 : List AO := [⟨(some 11), .op (.mv (.t 0)), none⟩,
  ⟨(some 12), .op (.len 24 false (.t 11)), none⟩,
  ⟨(some 13), .op (.mv (.c (.int .i64 (0)))), none⟩]
@[go_sem] def slices_Equal_int_r4 : List AO := [⟨(some 14), .op (.bin .lss 3 0 (.t 13) (.t 12) 3), none⟩]
@[go_sem] def slices_Equal_int_r5 : List AO := [⟨(some 15), .op (.mv (.t 13)), none⟩,
  ⟨(some 5), .op (.asg (.t 15)), none⟩]
@[go_sem] def slices_Equal_int_r6 : List AO := [⟨(some 16), .op (.mv (.t 0)), none⟩,
  ⟨(some 17), .op (.mv (.t 5)), none⟩,
  ⟨(some 18), .op (.iaddr 24 1 (.t 16) (.t 17)), none⟩,
  ⟨(some 19), .op (.load 3 none (.t 18)), none⟩,
  ⟨(some 20), .op (.mv (.t 1)), none⟩,
  ⟨(some 21), .op (.mv (.t 5)), none⟩,
  ⟨(some 22), .op (.iaddr 24 1 (.t 20) (.t 21)), none⟩,
  ⟨(some 23), .op (.load 3 none (.t 22)), none⟩,
  ⟨(some 24), .op (.bin .neq 3 0 (.t 19) (.t 23) 3), none⟩]
@[go_sem] def slices_Equal_int_r7 : List AO := [⟨(some 4), .op (.asg (.c (.bool false))), none⟩]
@[go_sem] def slices_Equal_int_r8 : List AO := [⟨(some 25), .op (.bin .add 3 0 (.t 13) (.c (.int .i64 (1))) 3), none⟩,
  ⟨(some 13), .op (.mv (.t 25)), none⟩]
def slices_Equal_int_l0 : IC := (.seq (.reg slices_Equal_int_r4) (.seq (.cond (.t 14) .skip (.exit 0)) (.seq (.block 1 (.seq (.reg slices_Equal_int_r5) (.seq (.draw slices_Equal_int_r6 [[], [], [0, 1], [2], [], [], [4, 5], [6], [3, 7]]) (.cond (.t 24) (.seq (.reg slices_Equal_int_r7) .ret) .skip)))) (.reg slices_Equal_int_r8))))
@[go_sem] def slices_Equal_int_r9 : List AO := [⟨(some 4), .op (.asg (.c (.bool true))), none⟩]
def slices_Equal_int_c : IC := (.seq (.reg slices_Equal_int_r0) (.seq (.seq (.reg slices_Equal_int_r1) (.cond (.t 10) (.seq (.reg slices_Equal_int_r2) .ret) .skip)) (.seq (.seq (.reg slices_Equal_int_r3) (.block 0 (.loop slices_Equal_int_l0))) (.seq (.reg slices_Equal_int_r9) .ret))))
abbrev F_slices_Equal_int : Nat := 117
theorem slices_Equal_int_call {G : Nat → Option Value} {pre : List AV} {res : AV} (hsz : decide (pre.length ≤ 26) = true) (h : AW pg G 26 slices_Equal_int_c (endR [(.tmp 4)] res) (St.init pre)) : ACalls pg G F_slices_Equal_int pre res :=
  ACalls.of_walk (fn := Go.Proofs.Tryd.f117) (vs := [(ResultVar.tmp 4)]) (ic := slices_Equal_int_c) (by kernel_rfl) (by kernel_rfl) rfl (by kernel_rfl) (by kernel_rfl) (of_decide_eq_true (by kernel_rfl)) (by kernel_rfl) (by kernel_rfl) (by kernel_rfl) (of_decide_eq_true hsz) h
@[go_sem] theorem slices_Equal_int_fnB : fnB pg 117 = true := by kernel_rfl

@[go_sem] theorem lodgeref_SameView_fnB : fnB pg 118 = true := by kernel_rfl

@[go_sem] theorem lodgeref_SameInstr_fnB : fnB pg 120 = true := by kernel_rfl

@[go_sem] theorem lodgelaw14_PlanCopies_fnB : fnB pg 7 = true := by kernel_rfl

end Go.Ideal.Tryd
end

section
set_option linter.unusedVariables false
set_option linter.unusedSimpArgs false
set_option maxRecDepth 10000
namespace Go.Ideal.Tryd
/-! ### plans -/
structure Ds where
  shape : List Int
  wide : Bool
  deriving DecidableEq
structure Tn where
  shape : List Int
  wide : Bool
  data : List Int
  deriving DecidableEq
structure Vw where
  off : Int
  shape : List Int
  wide : Bool
  deriving DecidableEq
structure In where
  op : Int
  dst : Int
  ins : List Int
  args : List Int
  frm : Int
  to : Int
  deriving DecidableEq
structure Pl where
  size : Int
  views : List Vw
  consts : List Tn
  weights : List Ds
  code : List In
  input : Int
  output : Int
  deriving DecidableEq
def eD (d : Ds) : List AV := [slI d.shape, lb d.wide]
def eT (d : Tn) : List AV := [slI d.shape, lb d.wide, slI d.data]
def eV (d : Vw) : List AV := [li d.off, slI d.shape, lb d.wide]
def eI (d : In) : List AV := [li d.op, li d.dst, slI d.ins, slI d.args, li d.frm, li d.to]
def oD (d : Ds) : List AV := [owI d.shape, lb d.wide]
def oT (d : Tn) : List AV := [owI d.shape, lb d.wide, owI d.data]
def oV (d : Vw) : List AV := [li d.off, owI d.shape, lb d.wide]
def oI (d : In) : List AV := [li d.op, li d.dst, owI d.ins, owI d.args, li d.frm, li d.to]
@[go_sem] theorem eD_len {xs : List Ds} : (fm eD xs).length = xs.length * 2 := fm_len fun _ => rfl
@[go_sem] theorem eD_get {xs : List Ds} {i : Nat} (h : i < xs.length) : ((fm eD xs).drop (i * 2)).take 2 = [slI xs[i].shape, lb xs[i].wide] := fm_get (f := eD) (k := 2) (fun _ => rfl) h
@[go_sem] theorem eD_take {xs : List Ds} : (fm eD xs).take (xs.length * 2) = fm eD xs := fm_take fun _ => rfl
@[go_sem] theorem eD_noOwn {xs : List Ds} : noOwnL (fm eD xs) = true := fm_noOwn fun _ => rfl
@[go_sem] theorem eD_frz {xs : List Ds} : frzL (fm eD xs) = fm eD xs := by
  rw [fm_frz]; congr 1
@[go_sem] theorem oD_len {xs : List Ds} : (fm oD xs).length = xs.length * 2 := fm_len fun _ => rfl
@[go_sem] theorem oD_take {xs : List Ds} : (fm oD xs).take (xs.length * 2) = fm oD xs := fm_take fun _ => rfl
@[go_sem] theorem oD_frz {xs : List Ds} : frzL (fm oD xs) = fm eD xs := by
  rw [fm_frz]
  congr 1
  funext n
  simp [oD, eD, go_sem]
@[go_sem] theorem oD_noImm {xs : List Ds} : noImmL (fm oD xs) = true := fm_noImm fun n => by simp [oD, go_sem]
@[go_sem] theorem eT_len {xs : List Tn} : (fm eT xs).length = xs.length * 3 := fm_len fun _ => rfl
@[go_sem] theorem eT_get {xs : List Tn} {i : Nat} (h : i < xs.length) : ((fm eT xs).drop (i * 3)).take 3 = [slI xs[i].shape, lb xs[i].wide, slI xs[i].data] := fm_get (f := eT) (k := 3) (fun _ => rfl) h
@[go_sem] theorem eT_take {xs : List Tn} : (fm eT xs).take (xs.length * 3) = fm eT xs := fm_take fun _ => rfl
@[go_sem] theorem eT_noOwn {xs : List Tn} : noOwnL (fm eT xs) = true := fm_noOwn fun _ => rfl
@[go_sem] theorem eT_frz {xs : List Tn} : frzL (fm eT xs) = fm eT xs := by
  rw [fm_frz]; congr 1
@[go_sem] theorem oT_len {xs : List Tn} : (fm oT xs).length = xs.length * 3 := fm_len fun _ => rfl
@[go_sem] theorem oT_take {xs : List Tn} : (fm oT xs).take (xs.length * 3) = fm oT xs := fm_take fun _ => rfl
@[go_sem] theorem oT_frz {xs : List Tn} : frzL (fm oT xs) = fm eT xs := by
  rw [fm_frz]
  congr 1
  funext n
  simp [oT, eT, go_sem]
@[go_sem] theorem oT_noImm {xs : List Tn} : noImmL (fm oT xs) = true := fm_noImm fun n => by simp [oT, go_sem]
@[go_sem] theorem eV_len {xs : List Vw} : (fm eV xs).length = xs.length * 3 := fm_len fun _ => rfl
@[go_sem] theorem eV_get {xs : List Vw} {i : Nat} (h : i < xs.length) : ((fm eV xs).drop (i * 3)).take 3 = [li xs[i].off, slI xs[i].shape, lb xs[i].wide] := fm_get (f := eV) (k := 3) (fun _ => rfl) h
@[go_sem] theorem eV_take {xs : List Vw} : (fm eV xs).take (xs.length * 3) = fm eV xs := fm_take fun _ => rfl
@[go_sem] theorem eV_noOwn {xs : List Vw} : noOwnL (fm eV xs) = true := fm_noOwn fun _ => rfl
@[go_sem] theorem eV_frz {xs : List Vw} : frzL (fm eV xs) = fm eV xs := by
  rw [fm_frz]; congr 1
@[go_sem] theorem oV_len {xs : List Vw} : (fm oV xs).length = xs.length * 3 := fm_len fun _ => rfl
@[go_sem] theorem oV_take {xs : List Vw} : (fm oV xs).take (xs.length * 3) = fm oV xs := fm_take fun _ => rfl
@[go_sem] theorem oV_frz {xs : List Vw} : frzL (fm oV xs) = fm eV xs := by
  rw [fm_frz]
  congr 1
  funext n
  simp [oV, eV, go_sem]
@[go_sem] theorem oV_noImm {xs : List Vw} : noImmL (fm oV xs) = true := fm_noImm fun n => by simp [oV, go_sem]
@[go_sem] theorem eI_len {xs : List In} : (fm eI xs).length = xs.length * 6 := fm_len fun _ => rfl
@[go_sem] theorem eI_get {xs : List In} {i : Nat} (h : i < xs.length) : ((fm eI xs).drop (i * 6)).take 6 = [li xs[i].op, li xs[i].dst, slI xs[i].ins, slI xs[i].args, li xs[i].frm, li xs[i].to] := fm_get (f := eI) (k := 6) (fun _ => rfl) h
@[go_sem] theorem eI_take {xs : List In} : (fm eI xs).take (xs.length * 6) = fm eI xs := fm_take fun _ => rfl
@[go_sem] theorem eI_noOwn {xs : List In} : noOwnL (fm eI xs) = true := fm_noOwn fun _ => rfl
@[go_sem] theorem eI_frz {xs : List In} : frzL (fm eI xs) = fm eI xs := by
  rw [fm_frz]; congr 1
@[go_sem] theorem oI_len {xs : List In} : (fm oI xs).length = xs.length * 6 := fm_len fun _ => rfl
@[go_sem] theorem oI_take {xs : List In} : (fm oI xs).take (xs.length * 6) = fm oI xs := fm_take fun _ => rfl
@[go_sem] theorem oI_frz {xs : List In} : frzL (fm oI xs) = fm eI xs := by
  rw [fm_frz]
  congr 1
  funext n
  simp [oI, eI, go_sem]
@[go_sem] theorem oI_noImm {xs : List In} : noImmL (fm oI xs) = true := fm_noImm fun n => by simp [oI, go_sem]
abbrev slV (xs : List Vw) : AV := .sl xs.length (fm eV xs)
section
variable {G : Nat → Option Value} {bk : Nat → Nat × Nat} {Q : Exit → St → Prop} {st : St}
/-! ### copies -/
theorem clone68 (xs : List Int) (h : xs.length < 2 ^ 40) : ACalls pg G F_slices_Clone_int [slI xs] (owI xs) := by
  refine slices_Clone_int_call rfl ?_
  simp (disch := omega) [go_sem, slices_Clone_int_c]
  refine nq_sl fun b hb => ?_
  cases b with
  | true =>
    have : xs = [] := by simpa using hb rfl
    subst this
    simp (disch := omega) [go_sem]
  | false => simp (disch := omega) [go_sem]
theorem cldesc66 (sh : List Int) (w : Bool) (hlen : sh.length < 2 ^ 40) : ACalls pg G F_shape_Clone [.agg [slI sh, lb w]] (.agg [owI sh, lb w]) := by
  refine shape_Clone_call rfl ?_
  simp (disch := omega) [go_sem, shape_Clone_c]
  refine aw_draw ?_
  simp (disch := omega) [go_sem]
  refine dCal_pure (clone68 sh hlen) rfl (noImm_owI _) (by simp) [5] (by simp) (by simp (disch := omega) [go_sem]) ?_
  simp (disch := omega) [go_sem]
  refine dFin_i (by decide) fun s2 hs he => ?_
  simp (disch := omega) [go_sem, hs]
theorem cltens67 (sh : List Int) (w : Bool) (data : List Int) (hlen : sh.length < 2 ^ 40) (hl : data.length < 2 ^ 40) : ACalls pg G F_tens_Clone [tnAV sh w data] (.agg [owI sh, lb w, owI data]) := by
  refine tens_Clone_call rfl ?_
  simp (disch := omega) [go_sem, tens_Clone_c]
  refine aw_draw ?_
  simp (disch := omega) [go_sem]
  refine dCal_pure (cldesc66 sh w hlen) rfl (by simp [noImm, noImmL, noImmL_li]) (by simp) [5] (by simp) (by simp (disch := omega) [go_sem]) ?_
  simp (disch := omega) [go_sem]
  refine dCal_pure (clone68 data hl) rfl (noImm_owI _) (by simp) [8] (by simp) (by simp (disch := omega) [go_sem]) ?_
  simp (disch := omega) [go_sem]
  refine dFin_i (by decide) fun s2 hs he => ?_
  simp (disch := omega) [go_sem, hs]
end
end Go.Ideal.Tryd
end

section
set_option linter.unusedVariables false
set_option linter.unusedSimpArgs false
set_option maxRecDepth 10000
namespace Go.Ideal.Tryd
def eqP {α : Type} (p : α → α → Bool) : List α → List α → Bool
  | [], [] => true
  | x :: xs, y :: ys => p x y && eqP p xs ys
  | _, _ => false
theorem eqP_len {α : Type} {p : α → α → Bool} : ∀ {a b : List α}, a.length ≠ b.length → eqP p a b = false
  | [], [], h => absurd rfl h
  | [], _ :: _, _ => rfl
  | _ :: _, [], _ => rfl
  | x :: xs, y :: ys, h => by rw [eqP, eqP_len (by simpa using h), Bool.and_false]
theorem eqP_eq {α : Type} [DecidableEq α] {p : α → α → Bool} : ∀ {a b : List α}, (∀ x ∈ a, ∀ y ∈ b, p x y = decide (x = y)) → eqP p a b = decide (a = b)
  | [], [], h => by simp [eqP]
  | [], _ :: _, _ => by simp [eqP]
  | _ :: _, [], _ => by simp [eqP]
  | x :: xs, y :: ys, h => by
    rw [eqP, h x (by simp) y (by simp), eqP_eq fun a ha b hb => h a (by simp [ha]) b (by simp [hb])]
    by_cases h1 : x = y <;> by_cases h2 : xs = ys <;> simp [h1, h2]
theorem eqP_drop {α : Type} {p : α → α → Bool} {a b : List α} {i : Nat} (h : i < a.length) (h2 : i < b.length) : eqP p (a.drop i) (b.drop i) = (p a[i] b[i] && eqP p (a.drop (i + 1)) (b.drop (i + 1))) := by
  rw [List.drop_eq_getElem_cons h, List.drop_eq_getElem_cons h2]; rfl
section
variable {G : Nat → Option Value} {bk : Nat → Nat × Nat} {Q : Exit → St → Prop} {st : St}
theorem equal117 (a b : List Int) (ha : a.length < 2 ^ 62) (hb : b.length < 2 ^ 62) : ACalls pg G F_slices_Equal_int [slI a, slI b] (lb (decide (a = b))) := by
  refine slices_Equal_int_call rfl ?_
  by_cases hl : a.length = b.length
  · have hl' : (a.length : Int) = b.length := by omega
    simp (disch := omega) [go_sem, slices_Equal_int_c, hl']
    refine aw_loop Nat (fun i st => i ≤ a.length ∧ eqP (fun x y => decide (x = y)) (a.drop i) (b.drop i) = decide (a = b) ∧ st.s 0 = slI a ∧ st.s 1 = slI b ∧ st.s 11 = slI a ∧ st.s 12 = li a.length ∧ st.s 13 = li i) (fun i => a.length - i) 0 ⟨by simp, eqP_eq fun _ _ _ _ => rfl, by simp (disch := omega) [go_sem, hl']⟩ ?_
    rintro i st K ⟨hi, hm, h⟩ hK
    by_cases hlt : i < a.length
    · have hlt2 : i < b.length := by omega
      rw [eqP_drop hlt hlt2] at hm
      simp (disch := omega) [go_sem, slices_Equal_int_l0, h, hlt]
      refine aw_draw ?_
      simp (disch := omega) [go_sem, h, hlt]
      refine dFin_i (by decide) fun s2 hs he => ?_
      by_cases k : a[i] = b[i]
      · rw [decide_eq_true k, Bool.true_and] at hm
        simp (disch := omega) [go_sem, hs, h, k]
        exact hK (i + 1) _ ⟨by omega, hm, by simp (disch := omega) [go_sem, hs, h]⟩ (by omega)
      · rw [decide_eq_false k, Bool.false_and] at hm
        simp (disch := omega) [go_sem, hs, h, k, ← hm]
    · obtain rfl : i = a.length := by omega
      rw [List.drop_length, hl, List.drop_length, eqP] at hm
      simp (disch := omega) [go_sem, slices_Equal_int_l0, h, ← hm]
  · have hl' : ¬ (a.length : Int) = b.length := by omega
    have hn : a ≠ b := fun h => hl (by rw [h])
    simp (disch := omega) [go_sem, slices_Equal_int_c, hl', hn]
theorem sSame70 (a b : Ds) (ha : a.shape.length < 2 ^ 62) (hb : b.shape.length < 2 ^ 62) : ACalls pg G F_shape_Same [.agg (eD a), .agg (eD b)] (lb (decide (a = b))) := by
  refine shape_Same_call rfl ?_
  obtain ⟨s1, w1⟩ := a
  obtain ⟨s2, w2⟩ := b
  by_cases k : w1 = w2
  · simp (disch := omega) [go_sem, shape_Same_c, eD, k]
    refine cal_pure (equal117 s1 s2 ha hb) rfl rfl ?_
    simp (disch := omega) [go_sem, Ds.mk.injEq, k]
  · simp (disch := omega) [go_sem, shape_Same_c, eD, k, Ds.mk.injEq]
theorem tSame73 (a b : Tn) (ha : a.shape.length < 2 ^ 62) (hb : b.shape.length < 2 ^ 62) (ha2 : a.data.length < 2 ^ 62) (hb2 : b.data.length < 2 ^ 62) : ACalls pg G F_tens_Same [.agg (eT a), .agg (eT b)] (lb (decide (a = b))) := by
  refine tens_Same_call rfl ?_
  obtain ⟨s1, w1, d1⟩ := a
  obtain ⟨s2, w2, d2⟩ := b
  simp (disch := omega) [go_sem, tens_Same_c, eT]
  refine cal_pure (sSame70 ⟨s1, w1⟩ ⟨s2, w2⟩ ha hb) rfl rfl ?_
  by_cases k : (⟨s1, w1⟩ : Ds) = ⟨s2, w2⟩
  · simp (disch := omega) [go_sem, k]
    refine cal_pure (equal117 d1 d2 ha2 hb2) rfl rfl ?_
    obtain ⟨rfl, rfl⟩ : s1 = s2 ∧ w1 = w2 := by simpa using k
    simp (disch := omega) [go_sem, Tn.mk.injEq]
  · simp (disch := omega) [go_sem, k]
    exact fun h1 h2 _ => k (by rw [h1, h2])
/-- Nothing of it is too long for a machine. -/
structure Pl.fin (p : Pl) : Prop where
  vl : p.views.length < 2 ^ 62
  cl : p.consts.length < 2 ^ 62
  wl : p.weights.length < 2 ^ 62
  il : p.code.length < 2 ^ 62
  vs : ∀ x ∈ p.views, x.shape.length < 2 ^ 62
  cs : ∀ x ∈ p.consts, x.shape.length < 2 ^ 62 ∧ x.data.length < 2 ^ 62
  ws : ∀ x ∈ p.weights, x.shape.length < 2 ^ 62
  is : ∀ x ∈ p.code, x.ins.length < 2 ^ 62 ∧ x.args.length < 2 ^ 62
end
end Go.Ideal.Tryd
end

section
set_option linter.unusedVariables false
set_option linter.unusedSimpArgs false
set_option maxRecDepth 100000
namespace Go.Ideal.Tryd
open Go.RowKit Go.Extern.Stop Go.Stop Go.Extern Go.Proofs

/-! ### errors.Is over sentinels: Go's own text, walked -/
theorem isTypeOf (v : Value) (w : World) : (Extern.ReflectliteType.typeOf #[.iface 231 v]).run Go.Proofs.Tryd.prog w = .ok (.iface 203 (.agg #[.pointer (some ⟨22, 231, none⟩)])) w := by kernel_rfl
theorem isComparable (w : World) : ((Extern.ReflectliteType.method fun t => do Go.Extern.Rtype.noPackHeld "Comparable" t; (fun a => Value.bool a.comparable) <$> typeInfo t) #[.agg #[.pointer (some ⟨22, 231, none⟩)]]).run Go.Proofs.Tryd.prog w = .ok (.bool true) w := by kernel_rfl
theorem isMethodComparable (v : Value) (w : World) : (Go.method 363 203 v "Comparable").run Go.Proofs.Tryd.prog w = .ok (204, v) w := by kernel_rfl
theorem isComp : (Go.Proofs.Tryd.prog.info? 231).map (·.comparable) = some true := by kernel_rfl
theorem isSize : (Go.Proofs.Tryd.prog.info? 251).map (·.size) = some 1 := by kernel_rfl
theorem noIsE (v : Value) (xT : TypeId) (w : World) : (Instr.typeAssert (.iface 231 v) xT 205 true).run Go.Proofs.Tryd.prog w = .ok (.tuple #[.nilIface, .bool false]) w := run_typeAssert_lacksB Go.Proofs.Tryd.underlying205 (by kernel_rfl) (by kernel_rfl) v xT w
theorem noUnwrapE (v : Value) (xT : TypeId) (w : World) : (Instr.typeAssert (.iface 231 v) xT 208 true).run Go.Proofs.Tryd.prog w = .ok (.tuple #[.nilIface, .bool false]) w := run_typeAssert_lacksB Go.Proofs.Tryd.underlying208 (by kernel_rfl) (by kernel_rfl) v xT w
theorem noUnwrapsE (v : Value) (xT : TypeId) (w : World) : (Instr.typeAssert (.iface 231 v) xT 209 true).run Go.Proofs.Tryd.prog w = .ok (.tuple #[.nilIface, .bool false]) w := run_typeAssert_lacksB Go.Proofs.Tryd.underlying209 (by kernel_rfl) (by kernel_rfl) v xT w
theorem is_same (a : Addr) (w : World) :
    Calls Go.Proofs.Tryd.prog 124 #[.iface 231 (.pointer (some a)), .iface 231 (.pointer (some a))] w fun e w' => e = .returned (.bool true) ∧ w' = w := by
  obtain ⟨i, hi, hcmp⟩ := Option.map_eq_some_iff.1 isComp
  obtain ⟨j, hj, hjs⟩ := Option.map_eq_some_iff.1 isSize
  have h8 := @run_callFunc_extern Go.Proofs.Tryd.prog 150 _ Extern.ReflectliteType.typeOf Go.Proofs.Tryd.func150 (by kernel_rfl) (by kernel_rfl) (by kernel_rfl) (by kernel_rfl)
  have h32 := @run_callFunc_extern Go.Proofs.Tryd.prog 204 _ (Extern.ReflectliteType.method fun t => do Go.Extern.Rtype.noPackHeld "Comparable" t; pure (.bool (← typeInfo t).comparable)) Go.Proofs.Tryd.func204 (by kernel_rfl) (by kernel_rfl) (by kernel_rfl) (by kernel_rfl)
  have tT := isTypeOf
  have cT := isComparable
  have mR := isMethodComparable
  have heq := run_eql_iface_ptr_same (P := Go.Proofs.Tryd.prog) w a Go.Proofs.Tryd.underlying26 Go.Proofs.Tryd.underlying231 hi hcmp hj
  go_enter Go.Proofs.Tryd.func124, Go.Proofs.Tryd.ntmps124
  go_wp2
  refine wp_loop_rounds 1 ?_
  rw [rounds_succ]
  go_wp2
  go_ret
  exact ⟨rfl, rfl⟩
theorem is_nil (b : Addr) (w : World) :
    Calls Go.Proofs.Tryd.prog 124 #[.nilIface, .iface 231 (.pointer (some b))] w fun e w' => e = .returned (.bool false) ∧ w' = w := by
  have hn := run_eql_iface_nil_left (P := Go.Proofs.Tryd.prog) w 231 (.pointer (some b)) Go.Proofs.Tryd.underlying26
  go_enter Go.Proofs.Tryd.func124, Go.Proofs.Tryd.ntmps124
  go_wp2
  go_ret
  exact ⟨rfl, rfl⟩
theorem is_other (a b : Addr) (ca cb : Array Value) (ta tb : TypeId) (w : World) (hne : a ≠ b) (ha : w.heap[a.block]? = some (.cells ca ta (0, 0))) (hb : w.heap[b.block]? = some (.cells cb tb (0, 0))) :
    Calls Go.Proofs.Tryd.prog 124 #[.iface 231 (.pointer (some a)), .iface 231 (.pointer (some b))] w fun e w' => e = .returned (.bool false) ∧ w' = w := by
  obtain ⟨i, hi, hcmp⟩ := Option.map_eq_some_iff.1 isComp
  obtain ⟨j, hj, hjs⟩ := Option.map_eq_some_iff.1 isSize
  have h8 := @run_callFunc_extern Go.Proofs.Tryd.prog 150 _ Extern.ReflectliteType.typeOf Go.Proofs.Tryd.func150 (by kernel_rfl) (by kernel_rfl) (by kernel_rfl) (by kernel_rfl)
  have h32 := @run_callFunc_extern Go.Proofs.Tryd.prog 204 _ (Extern.ReflectliteType.method fun t => do Go.Extern.Rtype.noPackHeld "Comparable" t; pure (.bool (← typeInfo t).comparable)) Go.Proofs.Tryd.func204 (by kernel_rfl) (by kernel_rfl) (by kernel_rfl) (by kernel_rfl)
  have tT := isTypeOf
  have cT := isComparable
  have mR := isMethodComparable
  have nE := noIsE
  have uE := noUnwrapE
  have vE := noUnwrapsE
  have heq := run_eql_iface_ptr_other (P := Go.Proofs.Tryd.prog) w Go.Proofs.Tryd.underlying26 Go.Proofs.Tryd.underlying231 hi hcmp hj (by rw [hjs]; decide) hne ha hb
  go_enter Go.Proofs.Tryd.func124, Go.Proofs.Tryd.ntmps124
  go_wp2
  refine wp_loop_rounds 1 ?_
  rw [rounds_succ]
  go_wp2
  go_ret
  exact ⟨rfl, rfl⟩
theorem is124 {G : Nat → Option Value} {bk : Nat → Nat × Nat} (hS : Sent G bk) {e : Er} (he : e = .nil ∨ ∃ g, g < 21 ∧ e = .s g) {k : Nat} (hk : k < 21) : ACalls pg G 124 [encE bk e, sv bk k] (lb (match e with | .s g => decide (g = k) | _ => false)) := by
  intro w args A ow hsz hA how hG hpre
  obtain ⟨l⟩ := args
  match l, hsz with
  | [x, y], _ =>
    have h0 := hpre 0 _ rfl
    have h1 := hpre 1 _ rfl
    have hx : (Array.mk [x, y]).getD 0 undef = x := rfl
    have hy : (Array.mk [x, y]).getD 1 undef = y := rfl
    rw [hx] at h0
    rw [hy] at h1
    simp only [R] at h1
    have ret : ∀ b : Bool, Ret w A (fun b => ow b ≠ none) w (lb b) (.bool b) := fun b => ⟨Nat.le_refl _, rfl, rfl, rfl, fun _ _ _ => rfl, noB, fun _ h => h.elim, by simp only [R]⟩
    rcases he with rfl | ⟨g, hg, rfl⟩
    · simp only [encE, R] at h0
      subst h0 h1
      refine (is_nil _ w).mono ?_
      rintro e w' ⟨rfl, rfl⟩
      exact ⟨_, rfl, ret false⟩
    · simp only [encE, R] at h0
      subst h0 h1
      by_cases hgk : g = k
      · subst hgk
        refine (is_same _ w).mono ?_
        rintro e w' ⟨rfl, rfl⟩
        simp only [decide_true]
        exact ⟨_, rfl, ret true⟩
      · have key : ∀ g, g < 21 → ∃ c t, w.heap[(bk g).1]? = some (.cells c t (0, 0)) := fun g hg => by
          obtain ⟨v, hv⟩ := Option.isSome_iff_exists.1 (hS.blk g hg)
          obtain ⟨c, t, hc, _⟩ := (hG _ v hv).1
          exact ⟨c, t, hc⟩
        obtain ⟨c1, t1, e1⟩ := key g hg
        obtain ⟨c2, t2, e2⟩ := key k hk
        refine (is_other ⟨(bk g).1, (bk g).2, none⟩ ⟨(bk k).1, (bk k).2, none⟩ c1 c2 t1 t2 w (fun he => hgk (hS.inj g k hg hk (by
          simp only [Addr.mk.injEq, and_true] at he
          exact Prod.ext he.1 he.2))) e1 e2).mono ?_
        rintro e w' ⟨rfl, rfl⟩
        simp only [hgk, decide_false]
        exact ⟨_, rfl, ret false⟩
end Go.Ideal.Tryd
end
