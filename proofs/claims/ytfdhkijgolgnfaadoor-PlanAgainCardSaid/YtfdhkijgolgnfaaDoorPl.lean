/- Part Pl of the proof: a machine with trees for values, its soundness, and walks on it. -/
import Derived.Test.YtfdhkijgolgnfaaDoorPk
section
set_option linter.unusedVariables false
set_option maxRecDepth 10000
namespace Go.Ideal.Tryd
@[go_sem] def b2p : List AO := [om 4 0,
 oo 5 (.nilck (.t 4)),
 oo 6 (.faddr 130 0 (.t 5) 0),
 oo 7 (.load 44 none (.t 6)),
 oo 8 (.len 44 false (.t 7)),
 om 9 1,
 oo 10 (.len 9 true (.t 9)),
 oo 11 (.bin .lss 3 0 (.t 8) (.t 10) 3)]
@[go_sem] def b2u : List AO := [om 12 0,
 oo 13 (.load 26 none (.g 4)),
 oo 14 (.nilck (.t 12)),
 oo 15 (.faddr 130 2 (.t 14) 2),
 ov (.store 26 1 (.t 15) (.t 13))]
@[go_sem] def b2w : List AO := [om 16 0,
 oo 17 (.nilck (.t 16)),
 oo 18 (.faddr 130 0 (.t 17) 0),
 oo 19 (.load 44 none (.t 18)),
 om 20 1,
 oo 21 (.len 9 true (.t 20)),
 oo 22 (.slice 44 1 (.t 19) none (some (.t 21)) none),
 oo 23 (.conv 44 9 .str (.t 22)),
 om 24 1,
 oo 25 (.bin .neq 9 0 (.t 23) (.t 24) 9)]
@[go_sem] def b2e : List AO := [om 26 0,
 oo 27 (.load 26 none (.g 5)),
 ⟨(some 28), .callx (.f 121) [(false, (.n 0)), (false, (.t 27))] [.x (.t 26), .p 0, .p 1] [128, 3, 26], none⟩]
@[go_sem] def b2r : List AO := [om 29 0,
 om 30 1,
 oo 31 (.len 9 true (.t 30)),
 oo 32 (.nilck (.t 29)),
 oo 33 (.faddr 130 1 (.t 32) 1),
 ov (.store 3 1 (.t 33) (.t 31))]
def a3k : IC := (.seq (.seq (.reg b2p) (.cond (.t 11) (.seq (.reg b2u) .ret) .skip)) (.seq (.seq (.reg b2w) (.cond (.t 25) (.reg b2e) .skip)) (.reg b2r)))
abbrev b44 : Nat := 81
@[go_sem] theorem c83 : fnB pg 81 = true := by kernel_rfl
theorem a8t : fnX pg 81 34 [] [] a3k := a23 Go.Proofs.Tryd.f81 (by kernel_rfl)
@[go_sem] def b4x : List AO := [oo 6 (.asg (.n 0))]
@[go_sem] def b40 : List AO := [om 9 0,
 oo 10 (.nilck (.t 9)),
 oo 11 (.faddr 130 1 (.t 10) 1),
 oo 12 (.load 3 none (.t 11)),
 oo 7 (.asg (.t 12))]
@[go_sem] def b37 : List AO := [om 13 2,
 ⟨(some 14), .callx (.t 13) [] [] [], none⟩,
 oo 8 (.asg (.t 14))]
@[go_sem] def b4t : List AO := [om 15 0,
 oo 16 (.nilck (.t 15)),
 oo 17 (.faddr 130 2 (.t 16) 2),
 oo 18 (.load 26 none (.t 17)),
 oo 19 (.bin .eql 26 2 (.t 18) (.c .nilIface) 26),
 om 20 19,
 og 21 (.mv (.t 8)) 5 20 true,
 og 22 (.mv (.t 1)) 5 20 true,
 og 23 (.bin .gtr 3 0 (.t 21) (.t 22) 3) 5 20 true,
 oo 24 (.pick (.t 20) (.t 23) (.c (.bool false)))]
@[go_sem] def b4h : List AO := [om 25 0,
 om 26 7,
 oo 27 (.load 26 none (.g 2)),
 ⟨(some 28), .callx (.f 121) [(false, (.t 26)), (false, (.t 27))] [.x (.t 25), .p 0, .p 1] [128, 3, 26], none⟩]
@[go_sem] def b32 : List AO := [om 29 0,
 oo 30 (.nilck (.t 29)),
 oo 31 (.faddr 130 2 (.t 30) 2),
 oo 32 (.load 26 none (.t 31)),
 oo 33 (.bin .neq 26 2 (.t 32) (.c .nilIface) 26)]
@[go_sem] def b3r : List AO := [oo 6 (.asg (.n 0))]
@[go_sem] def b4k : List AO := [om 34 8,
 oo 6 (.asg (.t 34))]
def a66 : IC := (.seq (.reg b4x) (.seq (.reg b40) (.seq (.reg b37) (.seq (.seq (.reg b4t) (.cond (.t 24) (.reg b4h) .skip)) (.seq (.seq (.reg b32) (.cond (.t 33) (.seq (.reg b3r) .ret) .skip)) (.seq (.reg b4k) .ret))))))
abbrev b49 : Nat := 82
@[go_sem] theorem c85 : fnB pg 82 = true := by kernel_rfl
theorem b0c : fnX pg 82 35 [(.tmp 6)] [(.tmp 6)] a66 := a23 Go.Proofs.Tryd.f82 (by kernel_rfl)
@[go_sem] def b1t : List AO := [oo 2 (.asg (.n 0))]
@[go_sem] def b1b : List AO := [om 4 0,
 ⟨(some 5), .callx (.f 84) [] [.x (.t 4)] [128], none⟩,
 oo 3 (.asg (.t 5))]
@[go_sem] def b1z : List AO := [om 6 3,
 om 7 0,
 ⟨(some 8), .callx (.f 84) [] [.x (.t 7)] [128], none⟩,
 oo 9 (.bin .shl 3 0 (.t 8) (.c (.int .u64 (8))) 111),
 oo 10 (.bin .or 3 0 (.t 6) (.t 9) 3),
 oo 2 (.asg (.t 10))]
def a5o : IC := (.seq (.reg b1t) (.seq (.reg b1b) (.seq (.reg b1z) .ret)))
abbrev b15 : Nat := 83
@[go_sem] theorem a9a : fnB pg 83 = true := by kernel_rfl
theorem a71 : fnX pg 83 11 [(.tmp 2)] [(.tmp 2)] a5o := a23 Go.Proofs.Tryd.f83 (by kernel_rfl)
@[go_sem] def b17 : List AO := [oo 2 (.asg (.n 0))]
@[go_sem] def b3i : List AO := [om 3 0,
 oo 4 (.nilck (.t 3)),
 oo 5 (.faddr 130 2 (.t 4) 2),
 oo 6 (.load 26 none (.t 5)),
 oo 7 (.bin .eql 26 2 (.t 6) (.c .nilIface) 26),
 om 8 7,
 og 9 (.mv (.t 0)) 5 8 true,
 og 10 (.nilck (.t 9)) 5 8 true,
 og 11 (.faddr 130 1 (.t 10) 1) 5 8 true,
 og 12 (.load 3 none (.t 11)) 5 8 true,
 og 13 (.mv (.t 0)) 5 8 true,
 og 14 (.nilck (.t 13)) 5 8 true,
 og 15 (.faddr 130 0 (.t 14) 0) 5 8 true,
 og 16 (.load 44 none (.t 15)) 5 8 true,
 og 17 (.len 44 false (.t 16)) 5 8 true,
 og 18 (.bin .geq 3 0 (.t 12) (.t 17) 3) 5 8 true,
 oo 19 (.pick (.t 8) (.t 18) (.c (.bool false)))]
@[go_sem] def b19 : List AO := [om 20 0,
 oo 21 (.load 26 none (.g 4)),
 oo 22 (.nilck (.t 20)),
 oo 23 (.faddr 130 2 (.t 22) 2),
 ov (.store 26 1 (.t 23) (.t 21))]
@[go_sem] def b2t : List AO := [om 24 0,
 oo 25 (.nilck (.t 24)),
 oo 26 (.faddr 130 2 (.t 25) 2),
 oo 27 (.load 26 none (.t 26)),
 oo 28 (.bin .neq 26 2 (.t 27) (.c .nilIface) 26)]
@[go_sem] def b2v : List AO := [oo 2 (.asg (.n 0))]
@[go_sem] def b2c : List AO := [om 29 0,
 oo 30 (.nilck (.t 29)),
 oo 31 (.faddr 130 1 (.t 30) 1),
 oo 32 (.load 3 none (.t 31)),
 oo 33 (.bin .add 3 0 (.t 32) (.n 1) 3),
 oo 34 (.nilck (.t 29)),
 oo 35 (.faddr 130 1 (.t 34) 1),
 ov (.store 3 1 (.t 35) (.t 33))]
@[go_sem] def b3m : List AO := [om 36 0,
 oo 37 (.nilck (.t 36)),
 oo 38 (.faddr 130 0 (.t 37) 0),
 oo 39 (.load 44 none (.t 38)),
 om 40 0,
 oo 41 (.nilck (.t 40)),
 oo 42 (.faddr 130 1 (.t 41) 1),
 oo 43 (.load 3 none (.t 42)),
 oo 44 (.bin .sub 3 0 (.t 43) (.n 1) 3),
 oo 45 (.iaddr 44 1 (.t 39) (.t 44)),
 oo 46 (.load 5 none (.t 45)),
 oo 47 (.conv 5 3 (.int .i64) (.t 46)),
 oo 2 (.asg (.t 47))]
def a2k : IC := (.seq (.reg b17) (.seq (.seq (.draw b3i [[], [0], [1], [2], [3], [4], [5], [6, 5], [7, 5], [8, 5], [5], [10, 5], [11, 5], [12, 5], [13, 5], [9, 14, 5], [5, 15]]) (.cond (.t 19) (.reg b19) .skip)) (.seq (.seq (.reg b2t) (.cond (.t 28) (.seq (.reg b2v) .ret) .skip)) (.seq (.reg b2c) (.seq (.draw b3m [[], [0], [1], [2], [], [4], [5], [6], [7], [3, 8], [9], [10], [11, 0, 1, 2, 3, 4, 5, 6, 7, 8, 9, 10, 11]]) .ret)))))
abbrev b45 : Nat := 84
@[go_sem] theorem b1s : fnB pg 84 = true := by kernel_rfl
theorem a8v : fnX pg 84 48 [(.tmp 2)] [(.tmp 2)] a2k := a23 Go.Proofs.Tryd.f84 (by kernel_rfl)
@[go_sem] def a80 : List AO := [oo 4 (.asg (.nl 1))]
@[go_sem] def a82 : List AO := [oo 5 (.asg (.nl 1))]
@[go_sem] def a83 : List AO := [om 7 0,
 om 8 0,
 oo 9 (.mkf 84 [(.t 8)] []),
 ⟨(some 10), .callx (.f 82) [(false, (.n 8))] [.x (.t 7), .p 0, .x (.t 9)] [128, 3, 133], none⟩,
 oo 6 (.asg (.t 10))]
@[go_sem] def a84 : List AO := [om 11 6,
 oo 12 (.bin .gtr 3 0 (.t 11) (.n 0) 3),
 om 13 12,
 og 14 (.mv (.t 0)) 2 13 true,
 og 15 (.nilck (.t 14)) 2 13 true,
 og 16 (.faddr 130 2 (.t 15) 2) 2 13 true,
 og 17 (.load 26 none (.t 16)) 2 13 true,
 og 18 (.bin .eql 26 2 (.t 17) (.c .nilIface) 26) 2 13 true,
 oo 19 (.pick (.t 13) (.t 18) (.c (.bool false)))]
@[go_sem] def a87 : List AO := [om 22 5,
 om 23 1,
 ⟨(some 24), .callx (.t 23) [] [] [], none⟩,
 oo 25 (.bslice 24 3 1 1 [.lit (.int .i64 0)] [(0, (.t 24))]),
 oo 26 (.app 24 3 1 8 (.t 22) (.t 25)),
 oo 5 (.asg (.t 26))]
@[go_sem] def a86 : List AO := [om 20 6,
 oo 21 (.bin .sub 3 0 (.t 20) (.n 1) 3),
 oo 6 (.asg (.t 21))]
def a1l : IC := (.seq (.seq (.reg a84) (.cond (.t 19) .skip (.exit 0))) (.seq (.block 1 (.reg a87)) (.reg a86)))
@[go_sem] def a8w : List AO := [om 27 5,
 oo 4 (.asg (.t 27))]
def a4i : IC := (.seq (.reg a80) (.seq (.reg a82) (.seq (.seq (.reg a83) (.block 0 (.loop a1l))) (.seq (.reg a8w) .ret))))
abbrev a90 : Nat := 85
@[go_sem] theorem c2p : fnB pg 85 = true := by kernel_rfl
theorem a6i : fnX pg 85 28 [(.tmp 4)] [(.tmp 4)] a4i := a23 Go.Proofs.Tryd.f85 (by kernel_rfl)
@[go_sem] def b0m : List AO := [oo 2 (.asg (.n 0))]
@[go_sem] def a97 : List AO := [om 4 0,
 ⟨(some 5), .callx (.f 83) [] [.x (.t 4)] [128], none⟩,
 oo 3 (.asg (.t 5))]
@[go_sem] def a9r : List AO := [om 6 3,
 om 7 0,
 ⟨(some 8), .callx (.f 83) [] [.x (.t 7)] [128], none⟩,
 oo 9 (.bin .shl 3 0 (.t 8) (.c (.int .u64 (16))) 111),
 oo 10 (.bin .or 3 0 (.t 6) (.t 9) 3),
 oc 11 122 [(false, (.t 10))] [3],
 oo 2 (.asg (.t 11))]
def a4x : IC := (.seq (.reg b0m) (.seq (.reg a97) (.seq (.reg a9r) .ret)))
abbrev b1n : Nat := 86
@[go_sem] theorem a81 : fnB pg 86 = true := by kernel_rfl
theorem a61 : fnX pg 86 12 [(.tmp 2)] [(.tmp 2)] a4x := a23 Go.Proofs.Tryd.f86 (by kernel_rfl)
@[go_sem] def a9i : List AO := [oo 4 (.alloc 56 [.own 1 0 [], .lit (.bool false), .own 1 0 []])]
@[go_sem] def a95 : List AO := [om 8 0,
 oo 9 (.nilck (.t 8)),
 oo 10 (.faddr 130 2 (.t 9) 2),
 oo 11 (.load 26 none (.t 10)),
 oo 12 (.bin .neq 26 2 (.t 11) (.c .nilIface) 26)]
@[go_sem] def b0a : List AO := [oo 13 (.build 56 [.sl 0 [], .lit (.bool false), .sl 0 []] []),
 ov (.store 56 3 (.t 4) (.t 13))]
@[go_sem] def a89 : List AO := [om 15 0,
 oo 16 (.nilck (.t 15)),
 oo 17 (.faddr 130 0 (.t 16) 0),
 oo 18 (.load 44 none (.t 17)),
 om 19 0,
 oo 20 (.nilck (.t 19)),
 oo 21 (.faddr 130 1 (.t 20) 1),
 oo 22 (.load 3 none (.t 21)),
 oo 23 (.slice 44 1 (.t 18) (some (.t 22)) none none),
 oc 24 123 [(false, (.t 23))] [44],
 oo 14 (.mvf (.t 24)),
 oo 25 (.ext (.t 14) 0),
 oo 26 (.ext (.t 14) 1),
 oo 27 (.ext (.t 14) 2),
 oo 5 (.alloc 56 [.own 1 0 [], .lit (.bool false), .own 1 0 []]),
 ov (.store 56 3 (.t 5) (.t 25)),
 oo 6 (.asg (.t 26)),
 oo 7 (.asg (.t 27))]
@[go_sem] def b0d : List AO := [om 29 7,
 oo 30 (.load 26 none (.g 4)),
 oc 31 124 [(false, (.t 29)), (false, (.t 30))] [26, 26],
 oo 28 (.asg (.t 31))]
@[go_sem] def a9u : List AO := [om 32 0,
 om 33 7,
 oo 34 (.nilck (.t 32)),
 oo 35 (.faddr 130 2 (.t 34) 2),
 ov (.store 26 1 (.t 35) (.t 33))]
@[go_sem] def a9y : List AO := [om 37 7,
 oo 38 (.bin .neq 26 2 (.t 37) (.c .nilIface) 26),
 oo 36 (.asg (.t 38))]
@[go_sem] def a9p : List AO := [om 39 0,
 om 40 1,
 om 41 7,
 ⟨(some 42), .callx (.f 121) [(false, (.t 40)), (false, (.t 41))] [.x (.t 39), .p 0, .p 1] [128, 3, 26], none⟩]
@[go_sem] def a9b : List AO := [om 43 0,
 oo 44 (.nilck (.t 43)),
 oo 45 (.faddr 130 1 (.t 44) 1),
 oo 46 (.load 3 none (.t 45)),
 om 47 6,
 oo 48 (.bin .add 3 0 (.t 46) (.t 47) 3),
 oo 49 (.nilck (.t 43)),
 oo 50 (.faddr 130 1 (.t 49) 1),
 ov (.store 3 1 (.t 50) (.t 48))]
@[go_sem] def b0o : List AO := [oo 51 (.load 56 (some 3) (.t 5)),
 ov (.store 56 3 (.t 4) (.t 51))]
def a26 : IC := (.seq (.reg a9i) (.seq (.seq (.reg a95) (.cond (.t 12) (.seq (.reg b0a) .ret) .skip)) (.seq (.draw a89 [[], [0], [1], [2], [], [4], [5], [6], [3, 7], [8], [9], [10], [10], [10], [], [14, 11, 9, 0, 1, 2, 3, 4, 5, 6, 7, 8, 9, 10, 11, 14], [12, 15, 0, 1, 2, 3, 4, 5, 6, 7, 8, 9, 10, 11, 12, 14, 15], [13, 16, 0, 1, 2, 3, 4, 5, 6, 7, 8, 9, 10, 11, 12, 13, 14, 15, 16]]) (.seq (.block 0 (.seq (.reg b0d) (.cond (.t 28) (.reg a9u) (.seq (.reg a9y) (.cond (.t 36) (.reg a9p) .skip))))) (.seq (.reg a9b) (.seq (.reg b0o) .ret))))))
abbrev b1w : Nat := 87
@[go_sem] theorem c5p : fnB pg 87 = true := by kernel_rfl
theorem a7d : fnX pg 87 52 [(.cells 4 3)] [(.cell 4 56)] a26 := a23 Go.Proofs.Tryd.f87 (by kernel_rfl)
@[go_sem] def b30 : List AO := [oo 2 (.asg (.c .nilIface))]
@[go_sem] def b35 : List AO := [om 3 0,
 oo 4 (.nilck (.t 3)),
 oo 5 (.faddr 130 2 (.t 4) 2),
 oo 6 (.load 26 none (.t 5)),
 oo 7 (.bin .eql 26 2 (.t 6) (.c .nilIface) 26),
 om 8 7,
 og 9 (.mv (.t 0)) 5 8 true,
 og 10 (.nilck (.t 9)) 5 8 true,
 og 11 (.faddr 130 1 (.t 10) 1) 5 8 true,
 og 12 (.load 3 none (.t 11)) 5 8 true,
 og 13 (.mv (.t 0)) 5 8 true,
 og 14 (.nilck (.t 13)) 5 8 true,
 og 15 (.faddr 130 0 (.t 14) 0) 5 8 true,
 og 16 (.load 44 none (.t 15)) 5 8 true,
 og 17 (.len 44 false (.t 16)) 5 8 true,
 og 18 (.bin .lss 3 0 (.t 12) (.t 17) 3) 5 8 true,
 oo 19 (.pick (.t 8) (.t 18) (.c (.bool false)))]
@[go_sem] def b3s : List AO := [om 20 0,
 om 21 0,
 oo 22 (.nilck (.t 21)),
 oo 23 (.faddr 130 1 (.t 22) 1),
 oo 24 (.load 3 none (.t 23)),
 oo 25 (.load 26 none (.g 2)),
 ⟨(some 26), .callx (.f 121) [(false, (.t 24)), (false, (.t 25))] [.x (.t 20), .p 0, .p 1] [128, 3, 26], none⟩]
@[go_sem] def b3x : List AO := [om 27 0,
 oo 28 (.nilck (.t 27)),
 oo 29 (.faddr 130 2 (.t 28) 2),
 oo 30 (.load 26 none (.t 29)),
 oo 2 (.asg (.t 30))]
def a39 : IC := (.seq (.reg b30) (.seq (.seq (.draw b35 [[], [0], [1], [2], [3], [4], [5], [6, 5], [7, 5], [8, 5], [5], [10, 5], [11, 5], [12, 5], [13, 5], [9, 14, 5], [5, 15]]) (.cond (.t 19) (.draw b3s [[], [], [1], [2], [3], [], [0, 4, 5]]) .skip)) (.seq (.reg b3x) .ret)))
abbrev b47 : Nat := 88
@[go_sem] theorem c9x : fnB pg 88 = true := by kernel_rfl
theorem a9l : fnX pg 88 31 [(.tmp 2)] [(.tmp 2)] a39 := a23 Go.Proofs.Tryd.f88 (by kernel_rfl)
@[go_sem] def b33 : List AO := [om 6 0,
 oo 7 (.nilck (.t 6)),
 oo 8 (.faddr 130 2 (.t 7) 2),
 oo 9 (.load 26 none (.t 8)),
 oo 10 (.bin .eql 26 2 (.t 9) (.c .nilIface) 26)]
@[go_sem] def b3v : List AO := [om 11 0,
 om 12 1,
 om 13 2,
 oo 14 (.build 94 [.lit (.int .i64 0), .lit .nilIface] [(0, 0, 1, (.t 12)), (1, 1, 1, (.t 13))]),
 oo 15 (.box 94 2 (.t 14)),
 oo 16 (.mki 92 (.t 15)),
 oo 17 (.nilck (.t 11)),
 oo 18 (.faddr 130 2 (.t 17) 2),
 ov (.store 26 1 (.t 18) (.t 16))]
def a35 : IC := (.seq (.reg b33) (.cond (.t 10) (.reg b3v) .skip))
abbrev b5k : Nat := 121
@[go_sem] theorem c9j : fnB pg 121 = true := by kernel_rfl
theorem b0l : fnX pg 121 19 [] [] a35 := a23 Go.Proofs.Tryd.f121 (by kernel_rfl)
@[go_sem] def c6y : List AO := [oo 2 (.asg (.n 0))]
@[go_sem] def c64 : List AO := [om 3 0,
 oo 4 (.conv 3 180 (.int .u64) (.t 3)),
 oo 5 (.conv 180 179 (.int .u32) (.t 4)),
 oo 6 (.conv 179 21 (.int .i32) (.t 5)),
 oo 7 (.conv 21 3 (.int .i64) (.t 6)),
 oo 2 (.asg (.t 7))]
def b8g : IC := (.seq (.reg c6y) (.seq (.reg c64) .ret))
abbrev d04 : Nat := 122
theorem b9n : fnC pg 122 8 [(.tmp 2)] b8g := a1k Go.Proofs.Tryd.f122 [(.tmp 2)] (by kernel_rfl)
@[go_sem] theorem d7c : fnB pg 122 = true := by kernel_rfl
@[go_sem] def c7h : List AO := [oo 2 (.alloc 56 [.own 1 0 [], .lit (.bool false), .own 1 0 []]),
 oo 3 (.asg (.n 0)),
 oo 4 (.asg (.c .nilIface))]
@[go_sem] def c50 : List AO := [om 12 0,
 oo 13 (.len 44 false (.t 12)),
 oo 14 (.bin .eql 3 0 (.t 13) (.n 0) 3)]
@[go_sem] def c7n : List AO := [oo 15 (.build 56 [.sl 0 [], .lit (.bool false), .sl 0 []] []),
 oo 16 (.load 26 none (.g 4)),
 ov (.store 56 3 (.t 2) (.t 15)),
 oo 3 (.asg (.n 0)),
 oo 4 (.asg (.t 16))]
@[go_sem] def c8l : List AO := [om 17 0,
 oo 18 (.iaddr 44 1 (.t 17) (.n 0)),
 oo 19 (.load 5 none (.t 18)),
 oo 20 (.bin .geq 5 0 (.t 19) (.c (.int .u8 (16))) 5)]
@[go_sem] def c53 : List AO := [oo 21 (.build 56 [.sl 0 [], .lit (.bool false), .sl 0 []] []),
 oo 22 (.load 26 none (.g 5)),
 ov (.store 56 3 (.t 2) (.t 21)),
 oo 3 (.asg (.n 0)),
 oo 4 (.asg (.t 22))]
@[go_sem] def c8x : List AO := [om 23 0,
 oo 24 (.iaddr 44 1 (.t 23) (.n 0)),
 oo 25 (.load 5 none (.t 24)),
 oo 26 (.conv 5 3 (.int .i64) (.t 25)),
 oo 27 (.bin .andNot 3 0 (.t 26) (.n 8) 3),
 oo 5 (.asg (.t 27))]
@[go_sem] def c8u : List AO := [om 28 0,
 oo 29 (.iaddr 44 1 (.t 28) (.n 0)),
 oo 30 (.load 5 none (.t 29)),
 oo 31 (.bin .and 5 0 (.t 30) (.c (.int .u8 (8))) 5),
 oo 32 (.bin .neq 5 0 (.t 31) (.c (.int .u8 (0))) 5),
 oo 33 (.build 54 [.own 1 0 [], .lit (.bool false)] [(1, 1, 1, (.t 32))]),
 oo 6 (.alloc 54 [.own 1 0 [], .lit (.bool false)]),
 ov (.store 54 2 (.t 6) (.t 33))]
@[go_sem] def c54 : List AO := [oo 7 (.asg (.n 1))]
@[go_sem] def c6s : List AO := [om 34 5,
 oo 35 (.mv (.n 0))]
@[go_sem] def c6b : List AO := [oo 36 (.bin .lss 3 0 (.t 35) (.t 34) 3)]
@[go_sem] def c33 : List AO := [om 37 0,
 oo 38 (.len 44 false (.t 37)),
 om 39 7,
 oo 40 (.bin .add 3 0 (.t 39) (.n 2) 3),
 oo 41 (.bin .lss 3 0 (.t 38) (.t 40) 3)]
@[go_sem] def c4d : List AO := [oo 42 (.build 56 [.sl 0 [], .lit (.bool false), .sl 0 []] []),
 oo 43 (.load 26 none (.g 4)),
 ov (.store 56 3 (.t 2) (.t 42)),
 oo 3 (.asg (.n 0)),
 oo 4 (.asg (.t 43))]
@[go_sem] def c2s : List AO := [oo 44 (.faddr 54 0 (.t 6) 0),
 oo 45 (.load 24 none (.t 44)),
 om 46 0,
 om 47 7,
 oo 48 (.iaddr 44 1 (.t 46) (.t 47)),
 oo 49 (.load 5 none (.t 48)),
 oo 50 (.conv 5 3 (.int .i64) (.t 49)),
 om 51 0,
 om 52 7,
 oo 53 (.bin .add 3 0 (.t 52) (.n 1) 3),
 oo 54 (.iaddr 44 1 (.t 51) (.t 53)),
 oo 55 (.load 5 none (.t 54)),
 oo 56 (.conv 5 3 (.int .i64) (.t 55)),
 oo 57 (.bin .shl 3 0 (.t 56) (.c (.int .u64 (8))) 111),
 oo 58 (.bin .or 3 0 (.t 50) (.t 57) 3),
 oo 59 (.bslice 24 3 1 1 [.lit (.int .i64 0)] [(0, (.t 58))]),
 oo 60 (.app 24 3 1 8 (.t 45) (.t 59)),
 oo 61 (.faddr 54 0 (.t 6) 0),
 ov (.store 24 1 (.t 61) (.t 60))]
@[go_sem] def c31 : List AO := [om 62 7,
 oo 63 (.bin .add 3 0 (.t 62) (.n 2) 3),
 oo 7 (.asg (.t 63))]
@[go_sem] def c2l : List AO := [oo 64 (.bin .add 3 0 (.t 35) (.n 1) 3),
 om 35 64]
def a4f : IC := (.seq (.reg c6b) (.seq (.cond (.t 36) .skip (.exit 0)) (.seq (.block 1 (.seq (.seq (.reg c33) (.cond (.t 41) (.seq (.draw c4d [[], [], [0, 0], [2, 0, 2], [1, 3, 0, 1, 2, 3]]) .ret) .skip)) (.seq (.draw c2s [[], [0], [], [], [2, 3], [4], [5], [], [], [8], [7, 9], [10], [11], [12], [6, 13], [14], [1, 15], [0, 1, 2, 3, 4, 5, 6, 7, 8, 9, 10, 11, 12, 13, 14, 15, 16], [17, 16, 16, 0, 1, 2, 3, 4, 5, 6, 7, 8, 9, 10, 11, 12, 13, 14, 15, 16]]) (.reg c31)))) (.reg c2l))))
@[go_sem] def c26 : List AO := [oo 65 (.load 54 (some 2) (.t 6)),
 oc 66 144 [(false, (.t 65))] [54],
 oo 8 (.asg (.t 66))]
@[go_sem] def c3o : List AO := [om 67 8,
 oo 68 (.bin .neq 26 2 (.t 67) (.c .nilIface) 26)]
@[go_sem] def c13 : List AO := [oo 69 (.build 56 [.sl 0 [], .lit (.bool false), .sl 0 []] []),
 om 70 8,
 ov (.store 56 3 (.t 2) (.t 69)),
 oo 3 (.asg (.n 0)),
 oo 4 (.asg (.t 70))]
@[go_sem] def c41 : List AO := [om 71 7,
 oo 72 (.load 54 (some 2) (.t 6)),
 oc 73 147 [(false, (.t 72))] [54],
 oo 74 (.bin .add 3 0 (.t 71) (.t 73) 3),
 oo 9 (.asg (.t 74))]
@[go_sem] def c4m : List AO := [om 75 0,
 oo 76 (.len 44 false (.t 75)),
 om 77 9,
 oo 78 (.bin .lss 3 0 (.t 76) (.t 77) 3)]
@[go_sem] def c25 : List AO := [oo 79 (.build 56 [.sl 0 [], .lit (.bool false), .sl 0 []] []),
 oo 80 (.load 26 none (.g 4)),
 ov (.store 56 3 (.t 2) (.t 79)),
 oo 3 (.asg (.n 0)),
 oo 4 (.asg (.t 80))]
@[go_sem] def c4h : List AO := [oo 82 (.load 54 (some 2) (.t 6)),
 om 83 0,
 om 84 7,
 om 85 9,
 oo 86 (.slice 44 1 (.t 83) (some (.t 84)) (some (.t 85)) none),
 oc 87 149 [(false, (.t 82)), (false, (.t 86))] [54, 44],
 oo 81 (.mvf (.t 87)),
 oo 88 (.ext (.t 81) 0),
 oo 89 (.ext (.t 81) 1),
 oo 10 (.alloc 56 [.own 1 0 [], .lit (.bool false), .own 1 0 []]),
 ov (.store 56 3 (.t 10) (.t 88)),
 oo 11 (.asg (.t 89))]
@[go_sem] def c4q : List AO := [oo 90 (.lmv 56 3 (.t 10)),
 om 91 9,
 om 92 11,
 ov (.store 56 3 (.t 2) (.t 90)),
 oo 3 (.asg (.t 91)),
 oo 4 (.asg (.t 92))]
def a74 : IC := (.seq (.reg c7h) (.seq (.seq (.reg c50) (.cond (.t 14) (.seq (.draw c7n [[], [], [0, 0], [2, 0, 2], [1, 3, 0, 1, 2, 3]]) .ret) .skip)) (.seq (.seq (.reg c8l) (.cond (.t 20) (.seq (.draw c53 [[], [], [0, 0], [2, 0, 2], [1, 3, 0, 1, 2, 3]]) .ret) .skip)) (.seq (.reg c8x) (.seq (.reg c8u) (.seq (.reg c54) (.seq (.seq (.reg c6s) (.block 0 (.loop a4f))) (.seq (.seq (.reg c26) (.seq (.reg c3o) (.cond (.t 68) (.seq (.reg c13) .ret) .skip))) (.seq (.reg c41) (.seq (.seq (.reg c4m) (.cond (.t 78) (.seq (.draw c25 [[], [], [0, 0], [2, 0, 2], [1, 3, 0, 1, 2, 3]]) .ret) .skip)) (.seq (.draw c4h [[], [], [], [], [1, 2, 3], [0, 4], [5], [6], [6], [], [9, 7, 5, 0, 1, 2, 3, 4, 5, 6, 7, 9], [8, 10, 0, 1, 2, 3, 4, 5, 6, 7, 8, 9, 10]]) (.seq (.reg c4q) .ret))))))))))))
abbrev d07 : Nat := 123
theorem b82 : fnC pg 123 93 [(.cells 2 3), (.tmp 3), (.tmp 4)] a74 := a1k Go.Proofs.Tryd.f123 [(.cell 2 56), (.tmp 3), (.tmp 4)] (by kernel_rfl)
@[go_sem] theorem d71 : fnB pg 123 = true := by kernel_rfl
@[go_sem] def d20 : List AO := [oo 2 (.box 54 2 (.t 0)),
 oo 4 (.alloc 56 [.own 1 0 [], .lit (.bool false), .own 1 0 []]),
 oo 5 (.asg (.c .nilIface))]
@[go_sem] def d3b : List AO := [oo 11 (.load 54 (some 2) (.t 2)),
 oc 12 144 [(false, (.t 11))] [54],
 oo 6 (.asg (.t 12))]
@[go_sem] def d2j : List AO := [om 13 6,
 oo 14 (.bin .neq 26 2 (.t 13) (.c .nilIface) 26)]
@[go_sem] def d25 : List AO := [oo 15 (.build 56 [.sl 0 [], .lit (.bool false), .sl 0 []] []),
 om 16 6,
 ov (.store 56 3 (.t 4) (.t 15)),
 oo 5 (.asg (.t 16))]
@[go_sem] def d28 : List AO := [oo 17 (.load 54 (some 2) (.t 2)),
 oc 18 147 [(false, (.t 17))] [54],
 oo 7 (.asg (.t 18))]
@[go_sem] def d2p : List AO := [om 20 1,
 oo 21 (.len 44 false (.t 20)),
 om 22 7,
 oo 23 (.bin .lss 3 0 (.t 21) (.t 22) 3),
 oo 19 (.asg (.t 23))]
@[go_sem] def d2g : List AO := [oo 24 (.build 56 [.sl 0 [], .lit (.bool false), .sl 0 []] []),
 oo 25 (.load 26 none (.g 4)),
 ov (.store 56 3 (.t 4) (.t 24)),
 oo 5 (.asg (.t 25))]
@[go_sem] def d3e : List AO := [om 27 1,
 oo 28 (.len 44 false (.t 27)),
 om 29 7,
 oo 30 (.bin .gtr 3 0 (.t 28) (.t 29) 3),
 oo 26 (.asg (.t 30))]
@[go_sem] def d2f : List AO := [oo 31 (.build 56 [.sl 0 [], .lit (.bool false), .sl 0 []] []),
 oo 32 (.load 26 none (.g 2)),
 ov (.store 56 3 (.t 4) (.t 31)),
 oo 5 (.asg (.t 32))]
@[go_sem] def d2w : List AO := [oo 34 (.load 54 (some 2) (.t 2)),
 oc 35 168 [(false, (.t 34))] [54],
 oo 33 (.mva (.t 35)),
 oo 36 (.ext (.t 33) 0),
 oo 37 (.ext (.t 33) 1),
 oo 8 (.alloc 56 [.own 1 0 [], .lit (.bool false), .own 1 0 []]),
 ov (.store 56 3 (.t 8) (.t 36)),
 oo 9 (.asg (.t 37))]
@[go_sem] def c89 : List AO := [oo 38 (.faddr 56 2 (.t 8) 1),
 oo 39 (.load 24 none (.t 38)),
 oo 40 (.len 24 false (.t 39)),
 oo 41 (.mv (.n 0))]
@[go_sem] def c91 : List AO := [oo 42 (.bin .lss 3 0 (.t 41) (.t 40) 3)]
@[go_sem] def c9b : List AO := [om 43 41,
 oo 10 (.asg (.t 43))]
@[go_sem] def c98 : List AO := [oo 44 (.faddr 56 2 (.t 8) 1),
 oo 45 (.load 24 none (.t 44)),
 om 46 10,
 om 47 1,
 om 48 10,
 oo 49 (.faddr 54 1 (.t 2) 1),
 oo 50 (.load 4 none (.t 49)),
 oc 51 169 [(false, (.t 47)), (false, (.t 48)), (false, (.t 50))] [44, 3, 4],
 oo 52 (.iaddr 24 1 (.t 45) (.t 46)),
 ov (.store 3 1 (.t 52) (.t 51))]
@[go_sem] def c9o : List AO := [oo 53 (.bin .add 3 0 (.t 41) (.n 1) 3),
 om 41 53]
def b0r : IC := (.seq (.reg c91) (.seq (.cond (.t 42) .skip (.exit 1)) (.seq (.block 2 (.seq (.reg c9b) (.draw c98 [[], [0], [], [], [], [], [5], [3, 4, 6], [1, 2, 0, 1, 2, 3, 4, 5, 6, 7], [8, 7, 7, 0, 1, 2, 3, 4, 5, 6, 7]]))) (.reg c9o))))
@[go_sem] def d1b : List AO := [oo 54 (.lmv 56 3 (.t 8)),
 om 55 9,
 ov (.store 56 3 (.t 4) (.t 54)),
 oo 5 (.asg (.t 55))]
def c57 : IC := (.seq (.reg d20) (.seq (.seq (.reg d3b) (.seq (.reg d2j) (.cond (.t 14) (.seq (.reg d25) .ret) .skip))) (.seq (.reg d28) (.seq (.block 0 (.seq (.reg d2p) (.cond (.t 19) (.seq (.draw d2g [[], [], [0, 0], [1, 2, 0, 1, 2]]) .ret) (.seq (.reg d3e) (.cond (.t 26) (.seq (.draw d2f [[], [], [0, 0], [1, 2, 0, 1, 2]]) .ret) .skip))))) (.seq (.reg d2w) (.seq (.seq (.reg c89) (.block 1 (.loop b0r))) (.seq (.reg d1b) .ret)))))))
abbrev d5t : Nat := 149
theorem c7f : fnC pg 149 56 [(.cells 4 3), (.tmp 5)] c57 := a1k Go.Proofs.Tryd.f149 [(.cell 4 56), (.tmp 5)] (by kernel_rfl)
@[go_sem] theorem d83 : fnB pg 149 = true := by kernel_rfl
@[go_sem] def c7x : List AO := [oo 1 (.box 54 2 (.t 0)),
 oo 2 (.alloc 56 [.own 1 0 [], .lit (.bool false), .own 1 0 []]),
 oo 3 (.asg (.c .nilIface))]
@[go_sem] def c7o : List AO := [oo 5 (.load 54 (some 2) (.t 1)),
 oc 6 144 [(false, (.t 5))] [54],
 oo 4 (.asg (.t 6))]
@[go_sem] def c6q : List AO := [om 7 4,
 oo 8 (.bin .neq 26 2 (.t 7) (.c .nilIface) 26)]
@[go_sem] def c67 : List AO := [oo 9 (.build 56 [.sl 0 [], .lit (.bool false), .sl 0 []] []),
 om 10 4,
 ov (.store 56 3 (.t 2) (.t 9)),
 oo 3 (.asg (.t 10))]
@[go_sem] def c5s : List AO := [oo 11 (.load 54 (some 2) (.t 1)),
 oc 12 66 [(false, (.t 11))] [54],
 oo 13 (.faddr 54 0 (.t 1) 0),
 oo 14 (.load 24 none (.t 13)),
 oc 15 145 [(false, (.t 14))] [24],
 oo 16 (.mks 24 3 1 8 [.lit (.int .i64 0)] (.t 15) (.t 15)),
 oo 17 (.build 56 [.own 1 0 [], .lit (.bool false), .own 1 0 []] [(0, 0, 2, (.t 12)), (1, 2, 1, (.t 16))]),
 ov (.store 56 3 (.t 2) (.t 17)),
 oo 3 (.asg (.c .nilIface))]
def b8b : IC := (.seq (.reg c7x) (.seq (.seq (.reg c7o) (.seq (.reg c6q) (.cond (.t 8) (.seq (.reg c67) .ret) .skip))) (.seq (.draw c5s [[], [0], [], [2], [3, 1], [4, 4], [1, 5], [6, 4, 0, 1, 2, 3, 4, 5, 6], [7, 0, 1, 2, 3, 4, 5, 6, 7]]) .ret)))
abbrev d0v : Nat := 168
theorem b88 : fnC pg 168 18 [(.cells 2 3), (.tmp 3)] b8b := a1k Go.Proofs.Tryd.f168 [(.cell 2 56), (.tmp 3)] (by kernel_rfl)
@[go_sem] theorem d79 : fnB pg 168 = true := by kernel_rfl
@[go_sem] def c71 : List AO := [oo 6 (.asg (.n 0))]
@[go_sem] def c6h : List AO := [om 7 2]
@[go_sem] def c7w : List AO := [om 8 0,
 om 9 1,
 oo 10 (.bin .mul 3 0 (.n 4) (.t 9) 3),
 oo 11 (.slice 44 1 (.t 8) (some (.t 10)) none none),
 oo 0 (.asg (.t 11))]
@[go_sem] def c6k : List AO := [om 12 0,
 oo 13 (.iaddr 44 1 (.t 12) (.n 0)),
 oo 14 (.load 5 none (.t 13)),
 oo 15 (.conv 5 3 (.int .i64) (.t 14)),
 om 16 0,
 oo 17 (.iaddr 44 1 (.t 16) (.n 1)),
 oo 18 (.load 5 none (.t 17)),
 oo 19 (.conv 5 3 (.int .i64) (.t 18)),
 oo 20 (.bin .shl 3 0 (.t 19) (.c (.int .u64 (8))) 111),
 oo 21 (.bin .or 3 0 (.t 15) (.t 20) 3),
 om 22 0,
 oo 23 (.iaddr 44 1 (.t 22) (.n 2)),
 oo 24 (.load 5 none (.t 23)),
 oo 25 (.conv 5 3 (.int .i64) (.t 24)),
 oo 26 (.bin .shl 3 0 (.t 25) (.c (.int .u64 (16))) 111),
 oo 27 (.bin .or 3 0 (.t 21) (.t 26) 3),
 om 28 0,
 oo 29 (.iaddr 44 1 (.t 28) (.n 3)),
 oo 30 (.load 5 none (.t 29)),
 oo 31 (.conv 5 3 (.int .i64) (.t 30)),
 oo 32 (.bin .shl 3 0 (.t 31) (.c (.int .u64 (24))) 111),
 oo 33 (.bin .or 3 0 (.t 27) (.t 32) 3),
 oc 34 122 [(false, (.t 33))] [3],
 oo 6 (.asg (.t 34))]
@[go_sem] def c7v : List AO := [om 35 0,
 om 36 1,
 oo 37 (.iaddr 44 1 (.t 35) (.t 36)),
 oo 38 (.load 5 none (.t 37)),
 oo 39 (.conv 5 225 (.int .i8) (.t 38)),
 oo 40 (.conv 225 3 (.int .i64) (.t 39)),
 oo 6 (.asg (.t 40))]
def b2d : IC := (.seq (.reg c71) (.seq (.seq (.reg c6h) (.cond (.t 7) (.seq (.reg c7w) (.seq (.draw c6k [[], [0], [1], [2], [], [4], [5], [6], [7], [3, 8], [], [10], [11], [12], [13], [9, 14], [], [16], [17], [18], [19], [15, 20], [21], [22, 22, 0, 1, 2, 3, 4, 5, 6, 7, 8, 9, 10, 11, 12, 13, 14, 15, 16, 17, 18, 19, 20, 21, 22]]) .ret)) .skip)) (.seq (.reg c7v) .ret)))
abbrev c9u : Nat := 169
theorem c07 : fnC pg 169 41 [(.tmp 6)] b2d := a1k Go.Proofs.Tryd.f169 [(.tmp 6)] (by kernel_rfl)
@[go_sem] theorem d68 : fnB pg 169 = true := by kernel_rfl
end Go.Ideal.Tryd
end
