/- Part Pl of the proof: a machine with trees for values, its soundness, and walks on it. -/
import Derived.Test.YtfdhkijgolgnfaaGreatDoorPk
section
set_option linter.unusedVariables false
set_option maxRecDepth 10000
namespace Go.Ideal.Tryz
@[go_sem] def c8i : List AO := [oo 4 (.asg (.c (.bool false)))]
@[go_sem] def c8o : List AO := [om 5 0,
 om 6 1,
 oc 7 44 [(false, (.t 6))] [3],
 oc 8 11 [(false, (.t 5)), (false, (.t 7))] [32, 42],
 oo 4 (.asg (.t 8))]
def c0q : IC := (.seq (.reg c8i) (.seq (.reg c8o) .ret))
abbrev d3k : Nat := 13
theorem c3e : fnC pg 13 9 [(.tmp 4)] c0q := a0v Go.Proofs.Tryz.f13 [(.tmp 4)] (by kernel_rfl)
@[go_sem] theorem e4w : fnB pg 13 = true := by kernel_rfl
@[go_sem] def c2e : List AO := [oo 2 (.asg (.nl 1))]
@[go_sem] def c2h : List AO := [om 5 0,
 oo 6 (.len 30 false (.t 5)),
 oo 7 (.mks 30 5 1 1 [.lit (.int .u8 0)] (.n 0) (.t 6)),
 oo 3 (.asg (.t 7))]
@[go_sem] def c2f : List AO := [oo 4 (.asg (.n 0))]
@[go_sem] def c2a : List AO := [om 8 4,
 om 9 0,
 oo 10 (.len 30 false (.t 9)),
 oo 11 (.bin .lss 3 0 (.t 8) (.t 10) 3)]
@[go_sem] def c1o : List AO := [om 14 3,
 om 15 0,
 om 16 4,
 oo 17 (.iaddr 30 1 (.t 15) (.t 16)),
 oo 18 (.load 5 none (.t 17)),
 oo 19 (.bslice 30 5 1 1 [.lit (.int .u8 0)] [(0, (.t 18))]),
 oo 20 (.app 30 5 1 1 (.t 14) (.t 19)),
 oo 3 (.asg (.t 20))]
@[go_sem] def c1q : List AO := [om 12 4,
 oo 13 (.bin .add 3 0 (.t 12) (.n 1) 3),
 oo 4 (.asg (.t 13))]
def a40 : IC := (.seq (.seq (.reg c2a) (.cond (.t 11) .skip (.exit 0))) (.seq (.block 1 (.reg c1o)) (.reg c1q)))
@[go_sem] def c1w : List AO := [om 21 3,
 oo 2 (.asg (.t 21))]
def b1n : IC := (.seq (.reg c2e) (.seq (.reg c2h) (.seq (.seq (.reg c2f) (.block 0 (.loop a40))) (.seq (.reg c1w) .ret))))
abbrev c3d : Nat := 8
theorem b61 : fnC pg 8 22 [(.tmp 2)] b1n := a0v Go.Proofs.Tryz.f8 [(.tmp 2)] (by kernel_rfl)
@[go_sem] theorem e1m : fnB pg 8 = true := by kernel_rfl
@[go_sem] def b8y : List AO := [om 4 0,
 oo 5 (.nilck (.t 4)),
 oo 6 (.faddr 71 0 (.t 5) 0),
 oo 7 (.load 30 none (.t 6)),
 oo 8 (.len 30 false (.t 7)),
 om 9 1,
 oo 10 (.len 9 true (.t 9)),
 oo 11 (.bin .lss 3 0 (.t 8) (.t 10) 3)]
@[go_sem] def b8z : List AO := [om 12 0,
 oo 13 (.load 32 none (.g 2)),
 oo 14 (.nilck (.t 12)),
 oo 15 (.faddr 71 2 (.t 14) 2),
 ov (.store 32 1 (.t 15) (.t 13))]
@[go_sem] def b6x : List AO := [om 16 0,
 oo 17 (.nilck (.t 16)),
 oo 18 (.faddr 71 0 (.t 17) 0),
 oo 19 (.load 30 none (.t 18)),
 om 20 1,
 oo 21 (.len 9 true (.t 20)),
 oo 22 (.slice 30 1 (.t 19) none (some (.t 21)) none),
 oo 23 (.conv 30 9 .str (.t 22)),
 om 24 1,
 oo 25 (.bin .neq 9 0 (.t 23) (.t 24) 9)]
@[go_sem] def b67 : List AO := [om 26 0,
 oo 27 (.load 32 none (.g 3)),
 ⟨(some 28), .callx (.f 62) [(false, (.n 0)), (false, (.t 27))] [.x (.t 26), .p 0, .p 1] [69, 3, 32], none⟩]
@[go_sem] def b7x : List AO := [om 29 0,
 om 30 1,
 oo 31 (.len 9 true (.t 30)),
 oo 32 (.nilck (.t 29)),
 oo 33 (.faddr 71 1 (.t 32) 1),
 ov (.store 3 1 (.t 33) (.t 31))]
def a4j : IC := (.seq (.seq (.reg b8y) (.cond (.t 11) (.seq (.reg b8z) .ret) .skip)) (.seq (.seq (.reg b6x) (.cond (.t 25) (.reg b67) .skip)) (.reg b7x)))
abbrev c0z : Nat := 25
@[go_sem] theorem d8b : fnB pg 25 = true := by kernel_rfl
theorem b12 : fnX pg 25 34 [] [] a4j := a2o Go.Proofs.Tryz.f25 (by kernel_rfl)
@[go_sem] def c0m : List AO := [oo 6 (.asg (.n 0))]
@[go_sem] def c0x : List AO := [om 9 0,
 oo 10 (.nilck (.t 9)),
 oo 11 (.faddr 71 1 (.t 10) 1),
 oo 12 (.load 3 none (.t 11)),
 oo 7 (.asg (.t 12))]
@[go_sem] def b9h : List AO := [om 13 2,
 ⟨(some 14), .callx (.t 13) [] [] [], none⟩,
 oo 8 (.asg (.t 14))]
@[go_sem] def c0p : List AO := [om 15 0,
 oo 16 (.nilck (.t 15)),
 oo 17 (.faddr 71 2 (.t 16) 2),
 oo 18 (.load 32 none (.t 17)),
 oo 19 (.bin .eql 32 2 (.t 18) (.c .nilIface) 32),
 om 20 19,
 og 21 (.mv (.t 8)) 5 20 true,
 og 22 (.mv (.t 1)) 5 20 true,
 og 23 (.bin .gtr 3 0 (.t 21) (.t 22) 3) 5 20 true,
 oo 24 (.pick (.t 20) (.t 23) (.c (.bool false)))]
@[go_sem] def c0a : List AO := [om 25 0,
 om 26 7,
 oo 27 (.load 32 none (.g 0)),
 ⟨(some 28), .callx (.f 62) [(false, (.t 26)), (false, (.t 27))] [.x (.t 25), .p 0, .p 1] [69, 3, 32], none⟩]
@[go_sem] def b9b : List AO := [om 29 0,
 oo 30 (.nilck (.t 29)),
 oo 31 (.faddr 71 2 (.t 30) 2),
 oo 32 (.load 32 none (.t 31)),
 oo 33 (.bin .neq 32 2 (.t 32) (.c .nilIface) 32)]
@[go_sem] def b93 : List AO := [oo 6 (.asg (.n 0))]
@[go_sem] def b9l : List AO := [om 34 8,
 oo 6 (.asg (.t 34))]
def a9k : IC := (.seq (.reg c0m) (.seq (.reg c0x) (.seq (.reg b9h) (.seq (.seq (.reg c0p) (.cond (.t 24) (.reg c0a) .skip)) (.seq (.seq (.reg b9b) (.cond (.t 33) (.seq (.reg b93) .ret) .skip)) (.seq (.reg b9l) .ret))))))
abbrev c1x : Nat := 27
@[go_sem] theorem e0h : fnB pg 27 = true := by kernel_rfl
theorem b35 : fnX pg 27 35 [(.tmp 6)] [(.tmp 6)] a9k := a2o Go.Proofs.Tryz.f27 (by kernel_rfl)
@[go_sem] def b5r : List AO := [oo 2 (.asg (.n 0))]
@[go_sem] def b5k : List AO := [om 4 0,
 ⟨(some 5), .callx (.f 64) [] [.x (.t 4)] [69], none⟩,
 oo 3 (.asg (.t 5))]
@[go_sem] def b6c : List AO := [om 6 3,
 om 7 0,
 ⟨(some 8), .callx (.f 64) [] [.x (.t 7)] [69], none⟩,
 oo 9 (.bin .shl 3 0 (.t 8) (.c (.int .u64 (8))) 99),
 oo 10 (.bin .or 3 0 (.t 6) (.t 9) 3),
 oo 2 (.asg (.t 10))]
def a6u : IC := (.seq (.reg b5r) (.seq (.reg b5k) (.seq (.reg b6c) .ret)))
abbrev b6t : Nat := 28
@[go_sem] theorem b4f : fnB pg 28 = true := by kernel_rfl
theorem b1l : fnX pg 28 11 [(.tmp 2)] [(.tmp 2)] a6u := a2o Go.Proofs.Tryz.f28 (by kernel_rfl)
@[go_sem] def b8c : List AO := [oo 2 (.asg (.n 0))]
@[go_sem] def b8k : List AO := [om 3 0,
 oo 4 (.nilck (.t 3)),
 oo 5 (.faddr 71 2 (.t 4) 2),
 oo 6 (.load 32 none (.t 5)),
 oo 7 (.bin .eql 32 2 (.t 6) (.c .nilIface) 32),
 om 8 7,
 og 9 (.mv (.t 0)) 5 8 true,
 og 10 (.nilck (.t 9)) 5 8 true,
 og 11 (.faddr 71 1 (.t 10) 1) 5 8 true,
 og 12 (.load 3 none (.t 11)) 5 8 true,
 og 13 (.mv (.t 0)) 5 8 true,
 og 14 (.nilck (.t 13)) 5 8 true,
 og 15 (.faddr 71 0 (.t 14) 0) 5 8 true,
 og 16 (.load 30 none (.t 15)) 5 8 true,
 og 17 (.len 30 false (.t 16)) 5 8 true,
 og 18 (.bin .geq 3 0 (.t 12) (.t 17) 3) 5 8 true,
 oo 19 (.pick (.t 8) (.t 18) (.c (.bool false)))]
@[go_sem] def b8u : List AO := [om 20 0,
 oo 21 (.load 32 none (.g 2)),
 oo 22 (.nilck (.t 20)),
 oo 23 (.faddr 71 2 (.t 22) 2),
 ov (.store 32 1 (.t 23) (.t 21))]
@[go_sem] def b8o : List AO := [om 24 0,
 oo 25 (.nilck (.t 24)),
 oo 26 (.faddr 71 2 (.t 25) 2),
 oo 27 (.load 32 none (.t 26)),
 oo 28 (.bin .neq 32 2 (.t 27) (.c .nilIface) 32)]
@[go_sem] def b64 : List AO := [oo 2 (.asg (.n 0))]
@[go_sem] def b8j : List AO := [om 29 0,
 oo 30 (.nilck (.t 29)),
 oo 31 (.faddr 71 1 (.t 30) 1),
 oo 32 (.load 3 none (.t 31)),
 oo 33 (.bin .add 3 0 (.t 32) (.n 1) 3),
 oo 34 (.nilck (.t 29)),
 oo 35 (.faddr 71 1 (.t 34) 1),
 ov (.store 3 1 (.t 35) (.t 33))]
@[go_sem] def b70 : List AO := [om 36 0,
 oo 37 (.nilck (.t 36)),
 oo 38 (.faddr 71 0 (.t 37) 0),
 oo 39 (.load 30 none (.t 38)),
 om 40 0,
 oo 41 (.nilck (.t 40)),
 oo 42 (.faddr 71 1 (.t 41) 1),
 oo 43 (.load 3 none (.t 42)),
 oo 44 (.bin .sub 3 0 (.t 43) (.n 1) 3),
 oo 45 (.iaddr 30 1 (.t 39) (.t 44)),
 oo 46 (.load 5 none (.t 45)),
 oo 47 (.conv 5 3 (.int .i64) (.t 46)),
 oo 2 (.asg (.t 47))]
def a3c : IC := (.seq (.reg b8c) (.seq (.seq (.draw b8k [[], [0], [1], [2], [3], [4], [5], [6, 5], [7, 5], [8, 5], [5], [10, 5], [11, 5], [12, 5], [13, 5], [9, 14, 5], [5, 15]]) (.cond (.t 19) (.reg b8u) .skip)) (.seq (.seq (.reg b8o) (.cond (.t 28) (.seq (.reg b64) .ret) .skip)) (.seq (.reg b8j) (.seq (.draw b70 [[], [0], [1], [2], [], [4], [5], [6], [7], [3, 8], [9], [10], [11, 0, 1, 2, 3, 4, 5, 6, 7, 8, 9, 10, 11]]) .ret)))))
abbrev b90 : Nat := 64
@[go_sem] theorem b6b : fnB pg 64 = true := by kernel_rfl
theorem b1z : fnX pg 64 48 [(.tmp 2)] [(.tmp 2)] a3c := a2o Go.Proofs.Tryz.f64 (by kernel_rfl)
@[go_sem] def b2c : List AO := [oo 4 (.asg (.nl 1))]
@[go_sem] def b1y : List AO := [oo 5 (.asg (.nl 1))]
@[go_sem] def b1x : List AO := [om 7 0,
 om 8 0,
 oo 9 (.mkf 64 [(.t 8)] []),
 ⟨(some 10), .callx (.f 27) [(false, (.n 8))] [.x (.t 7), .p 0, .x (.t 9)] [69, 3, 73], none⟩,
 oo 6 (.asg (.t 10))]
@[go_sem] def b2h : List AO := [om 11 6,
 oo 12 (.bin .gtr 3 0 (.t 11) (.n 0) 3),
 om 13 12,
 og 14 (.mv (.t 0)) 2 13 true,
 og 15 (.nilck (.t 14)) 2 13 true,
 og 16 (.faddr 71 2 (.t 15) 2) 2 13 true,
 og 17 (.load 32 none (.t 16)) 2 13 true,
 og 18 (.bin .eql 32 2 (.t 17) (.c .nilIface) 32) 2 13 true,
 oo 19 (.pick (.t 13) (.t 18) (.c (.bool false)))]
@[go_sem] def b2g : List AO := [om 22 5,
 om 23 1,
 ⟨(some 24), .callx (.t 23) [] [] [], none⟩,
 oo 25 (.bslice 46 3 1 1 [.lit (.int .i64 0)] [(0, (.t 24))]),
 oo 26 (.app 46 3 1 8 (.t 22) (.t 25)),
 oo 5 (.asg (.t 26))]
@[go_sem] def b18 : List AO := [om 20 6,
 oo 21 (.bin .sub 3 0 (.t 20) (.n 1) 3),
 oo 6 (.asg (.t 21))]
def a1v : IC := (.seq (.seq (.reg b2h) (.cond (.t 19) .skip (.exit 0))) (.seq (.block 1 (.reg b2g)) (.reg b18)))
@[go_sem] def b10 : List AO := [om 27 5,
 oo 4 (.asg (.t 27))]
def a5b : IC := (.seq (.reg b2c) (.seq (.reg b1y) (.seq (.seq (.reg b1x) (.block 0 (.loop a1v))) (.seq (.reg b10) .ret))))
abbrev b3v : Nat := 67
@[go_sem] theorem d2i : fnB pg 67 = true := by kernel_rfl
theorem a73 : fnX pg 67 28 [(.tmp 4)] [(.tmp 4)] a5b := a2o Go.Proofs.Tryz.f67 (by kernel_rfl)
@[go_sem] def b3b : List AO := [oo 2 (.asg (.n 0))]
@[go_sem] def b4b : List AO := [om 4 0,
 ⟨(some 5), .callx (.f 28) [] [.x (.t 4)] [69], none⟩,
 oo 3 (.asg (.t 5))]
@[go_sem] def b24 : List AO := [om 6 3,
 om 7 0,
 ⟨(some 8), .callx (.f 28) [] [.x (.t 7)] [69], none⟩,
 oo 9 (.bin .shl 3 0 (.t 8) (.c (.int .u64 (16))) 99),
 oo 10 (.bin .or 3 0 (.t 6) (.t 9) 3),
 oc 11 63 [(false, (.t 10))] [3],
 oo 2 (.asg (.t 11))]
def a5t : IC := (.seq (.reg b3b) (.seq (.reg b4b) (.seq (.reg b24) .ret)))
abbrev b5p : Nat := 26
@[go_sem] theorem b19 : fnB pg 26 = true := by kernel_rfl
theorem a92 : fnX pg 26 12 [(.tmp 2)] [(.tmp 2)] a5t := a2o Go.Proofs.Tryz.f26 (by kernel_rfl)
@[go_sem] def b3u : List AO := [oo 4 (.alloc 66 [.own 1 0 [], .lit (.bool false), .own 1 0 []])]
@[go_sem] def b3t : List AO := [om 8 0,
 oo 9 (.nilck (.t 8)),
 oo 10 (.faddr 71 2 (.t 9) 2),
 oo 11 (.load 32 none (.t 10)),
 oo 12 (.bin .neq 32 2 (.t 11) (.c .nilIface) 32)]
@[go_sem] def b2u : List AO := [oo 13 (.build 66 [.sl 0 [], .lit (.bool false), .sl 0 []] []),
 ov (.store 66 3 (.t 4) (.t 13))]
@[go_sem] def b29 : List AO := [om 15 0,
 oo 16 (.nilck (.t 15)),
 oo 17 (.faddr 71 0 (.t 16) 0),
 oo 18 (.load 30 none (.t 17)),
 om 19 0,
 oo 20 (.nilck (.t 19)),
 oo 21 (.faddr 71 1 (.t 20) 1),
 oo 22 (.load 3 none (.t 21)),
 oo 23 (.slice 30 1 (.t 18) (some (.t 22)) none none),
 oc 24 65 [(false, (.t 23))] [30],
 oo 14 (.mvf (.t 24)),
 oo 25 (.ext (.t 14) 0),
 oo 26 (.ext (.t 14) 1),
 oo 27 (.ext (.t 14) 2),
 oo 5 (.alloc 66 [.own 1 0 [], .lit (.bool false), .own 1 0 []]),
 ov (.store 66 3 (.t 5) (.t 25)),
 oo 6 (.asg (.t 26)),
 oo 7 (.asg (.t 27))]
@[go_sem] def b2n : List AO := [om 29 7,
 oo 30 (.load 32 none (.g 2)),
 oc 31 66 [(false, (.t 29)), (false, (.t 30))] [32, 32],
 oo 28 (.asg (.t 31))]
@[go_sem] def b38 : List AO := [om 32 0,
 om 33 7,
 oo 34 (.nilck (.t 32)),
 oo 35 (.faddr 71 2 (.t 34) 2),
 ov (.store 32 1 (.t 35) (.t 33))]
@[go_sem] def b2r : List AO := [om 37 7,
 oo 38 (.bin .neq 32 2 (.t 37) (.c .nilIface) 32),
 oo 36 (.asg (.t 38))]
@[go_sem] def b3m : List AO := [om 39 0,
 om 40 1,
 om 41 7,
 ⟨(some 42), .callx (.f 62) [(false, (.t 40)), (false, (.t 41))] [.x (.t 39), .p 0, .p 1] [69, 3, 32], none⟩]
@[go_sem] def b2z : List AO := [om 43 0,
 oo 44 (.nilck (.t 43)),
 oo 45 (.faddr 71 1 (.t 44) 1),
 oo 46 (.load 3 none (.t 45)),
 om 47 6,
 oo 48 (.bin .add 3 0 (.t 46) (.t 47) 3),
 oo 49 (.nilck (.t 43)),
 oo 50 (.faddr 71 1 (.t 49) 1),
 ov (.store 3 1 (.t 50) (.t 48))]
@[go_sem] def b3c : List AO := [oo 51 (.load 66 (some 3) (.t 5)),
 ov (.store 66 3 (.t 4) (.t 51))]
def a3t : IC := (.seq (.reg b3u) (.seq (.seq (.reg b3t) (.cond (.t 12) (.seq (.reg b2u) .ret) .skip)) (.seq (.draw b29 [[], [0], [1], [2], [], [4], [5], [6], [3, 7], [8], [9], [10], [10], [10], [], [14, 11, 9, 0, 1, 2, 3, 4, 5, 6, 7, 8, 9, 10, 11, 14], [12, 15, 0, 1, 2, 3, 4, 5, 6, 7, 8, 9, 10, 11, 12, 14, 15], [13, 16, 0, 1, 2, 3, 4, 5, 6, 7, 8, 9, 10, 11, 12, 13, 14, 15, 16]]) (.seq (.block 0 (.seq (.reg b2n) (.cond (.t 28) (.reg b38) (.seq (.reg b2r) (.cond (.t 36) (.reg b3m) .skip))))) (.seq (.reg b2z) (.seq (.reg b3c) .ret))))))
abbrev b4v : Nat := 30
@[go_sem] theorem d3z : fnB pg 30 = true := by kernel_rfl
theorem a90 : fnX pg 30 52 [(.cells 4 3)] [(.cell 4 66)] a3t := a2o Go.Proofs.Tryz.f30 (by kernel_rfl)
@[go_sem] def c0y : List AO := [oo 2 (.asg (.c .nilIface))]
@[go_sem] def c02 : List AO := [om 3 0,
 oo 4 (.nilck (.t 3)),
 oo 5 (.faddr 71 2 (.t 4) 2),
 oo 6 (.load 32 none (.t 5)),
 oo 7 (.bin .eql 32 2 (.t 6) (.c .nilIface) 32),
 om 8 7,
 og 9 (.mv (.t 0)) 5 8 true,
 og 10 (.nilck (.t 9)) 5 8 true,
 og 11 (.faddr 71 1 (.t 10) 1) 5 8 true,
 og 12 (.load 3 none (.t 11)) 5 8 true,
 og 13 (.mv (.t 0)) 5 8 true,
 og 14 (.nilck (.t 13)) 5 8 true,
 og 15 (.faddr 71 0 (.t 14) 0) 5 8 true,
 og 16 (.load 30 none (.t 15)) 5 8 true,
 og 17 (.len 30 false (.t 16)) 5 8 true,
 og 18 (.bin .lss 3 0 (.t 12) (.t 17) 3) 5 8 true,
 oo 19 (.pick (.t 8) (.t 18) (.c (.bool false)))]
@[go_sem] def b9o : List AO := [om 20 0,
 om 21 0,
 oo 22 (.nilck (.t 21)),
 oo 23 (.faddr 71 1 (.t 22) 1),
 oo 24 (.load 3 none (.t 23)),
 oo 25 (.load 32 none (.g 0)),
 ⟨(some 26), .callx (.f 62) [(false, (.t 24)), (false, (.t 25))] [.x (.t 20), .p 0, .p 1] [69, 3, 32], none⟩]
@[go_sem] def b9s : List AO := [om 27 0,
 oo 28 (.nilck (.t 27)),
 oo 29 (.faddr 71 2 (.t 28) 2),
 oo 30 (.load 32 none (.t 29)),
 oo 2 (.asg (.t 30))]
def a4w : IC := (.seq (.reg c0y) (.seq (.seq (.draw c02 [[], [0], [1], [2], [3], [4], [5], [6, 5], [7, 5], [8, 5], [5], [10, 5], [11, 5], [12, 5], [13, 5], [9, 14, 5], [5, 15]]) (.cond (.t 19) (.draw b9o [[], [], [1], [2], [3], [], [0, 4, 5]]) .skip)) (.seq (.reg b9s) .ret)))
abbrev c1g : Nat := 32
@[go_sem] theorem d9h : fnB pg 32 = true := by kernel_rfl
theorem b3a : fnX pg 32 31 [(.tmp 2)] [(.tmp 2)] a4w := a2o Go.Proofs.Tryz.f32 (by kernel_rfl)
@[go_sem] def b9u : List AO := [om 6 0,
 oo 7 (.nilck (.t 6)),
 oo 8 (.faddr 71 2 (.t 7) 2),
 oo 9 (.load 32 none (.t 8)),
 oo 10 (.bin .eql 32 2 (.t 9) (.c .nilIface) 32)]
@[go_sem] def c04 : List AO := [om 11 0,
 om 12 1,
 om 13 2,
 oo 14 (.build 111 [.lit (.int .i64 0), .lit .nilIface] [(0, 0, 1, (.t 12)), (1, 1, 1, (.t 13))]),
 oo 15 (.box 111 2 (.t 14)),
 oo 16 (.mki 107 (.t 15)),
 oo 17 (.nilck (.t 11)),
 oo 18 (.faddr 71 2 (.t 17) 2),
 ov (.store 32 1 (.t 18) (.t 16))]
def a4u : IC := (.seq (.reg b9u) (.cond (.t 10) (.reg c04) .skip))
abbrev c1j : Nat := 62
@[go_sem] theorem d9t : fnB pg 62 = true := by kernel_rfl
theorem b28 : fnX pg 62 19 [] [] a4u := a2o Go.Proofs.Tryz.f62 (by kernel_rfl)
@[go_sem] def d5j : List AO := [oo 2 (.asg (.n 0))]
@[go_sem] def d7x : List AO := [om 3 0,
 oo 4 (.conv 3 122 (.int .u64) (.t 3)),
 oo 5 (.conv 122 121 (.int .u32) (.t 4)),
 oo 6 (.conv 121 21 (.int .i32) (.t 5)),
 oo 7 (.conv 21 3 (.int .i64) (.t 6)),
 oo 2 (.asg (.t 7))]
def c4h : IC := (.seq (.reg d5j) (.seq (.reg d7x) .ret))
abbrev d9w : Nat := 63
theorem c7f : fnC pg 63 8 [(.tmp 2)] c4h := a0v Go.Proofs.Tryz.f63 [(.tmp 2)] (by kernel_rfl)
@[go_sem] theorem e7k : fnB pg 63 = true := by kernel_rfl
@[go_sem] def d59 : List AO := [oo 2 (.alloc 66 [.own 1 0 [], .lit (.bool false), .own 1 0 []]),
 oo 3 (.asg (.n 0)),
 oo 4 (.asg (.c .nilIface))]
@[go_sem] def d5c : List AO := [om 12 0,
 oo 13 (.len 30 false (.t 12)),
 oo 14 (.bin .eql 3 0 (.t 13) (.n 0) 3)]
@[go_sem] def d4f : List AO := [oo 15 (.build 66 [.sl 0 [], .lit (.bool false), .sl 0 []] []),
 oo 16 (.load 32 none (.g 2)),
 ov (.store 66 3 (.t 2) (.t 15)),
 oo 3 (.asg (.n 0)),
 oo 4 (.asg (.t 16))]
@[go_sem] def d38 : List AO := [om 17 0,
 oo 18 (.iaddr 30 1 (.t 17) (.n 0)),
 oo 19 (.load 5 none (.t 18)),
 oo 20 (.bin .geq 5 0 (.t 19) (.c (.int .u8 (16))) 5)]
@[go_sem] def d7h : List AO := [oo 21 (.build 66 [.sl 0 [], .lit (.bool false), .sl 0 []] []),
 oo 22 (.load 32 none (.g 3)),
 ov (.store 66 3 (.t 2) (.t 21)),
 oo 3 (.asg (.n 0)),
 oo 4 (.asg (.t 22))]
@[go_sem] def d47 : List AO := [om 23 0,
 oo 24 (.iaddr 30 1 (.t 23) (.n 0)),
 oo 25 (.load 5 none (.t 24)),
 oo 26 (.conv 5 3 (.int .i64) (.t 25)),
 oo 27 (.bin .andNot 3 0 (.t 26) (.n 8) 3),
 oo 5 (.asg (.t 27))]
@[go_sem] def d7t : List AO := [om 28 0,
 oo 29 (.iaddr 30 1 (.t 28) (.n 0)),
 oo 30 (.load 5 none (.t 29)),
 oo 31 (.bin .and 5 0 (.t 30) (.c (.int .u8 (8))) 5),
 oo 32 (.bin .neq 5 0 (.t 31) (.c (.int .u8 (0))) 5),
 oo 33 (.build 56 [.own 1 0 [], .lit (.bool false)] [(1, 1, 1, (.t 32))]),
 oo 6 (.alloc 56 [.own 1 0 [], .lit (.bool false)]),
 ov (.store 56 2 (.t 6) (.t 33))]
@[go_sem] def d6v : List AO := [oo 7 (.asg (.n 1))]
@[go_sem] def d4z : List AO := [om 34 5,
 oo 35 (.mv (.n 0))]
@[go_sem] def d4v : List AO := [oo 36 (.bin .lss 3 0 (.t 35) (.t 34) 3)]
@[go_sem] def d3v : List AO := [om 37 0,
 oo 38 (.len 30 false (.t 37)),
 om 39 7,
 oo 40 (.bin .add 3 0 (.t 39) (.n 2) 3),
 oo 41 (.bin .lss 3 0 (.t 38) (.t 40) 3)]
@[go_sem] def d1z : List AO := [oo 42 (.build 66 [.sl 0 [], .lit (.bool false), .sl 0 []] []),
 oo 43 (.load 32 none (.g 2)),
 ov (.store 66 3 (.t 2) (.t 42)),
 oo 3 (.asg (.n 0)),
 oo 4 (.asg (.t 43))]
@[go_sem] def d2q : List AO := [oo 44 (.faddr 56 0 (.t 6) 0),
 oo 45 (.load 46 none (.t 44)),
 om 46 0,
 om 47 7,
 oo 48 (.iaddr 30 1 (.t 46) (.t 47)),
 oo 49 (.load 5 none (.t 48)),
 oo 50 (.conv 5 3 (.int .i64) (.t 49)),
 om 51 0,
 om 52 7,
 oo 53 (.bin .add 3 0 (.t 52) (.n 1) 3),
 oo 54 (.iaddr 30 1 (.t 51) (.t 53)),
 oo 55 (.load 5 none (.t 54)),
 oo 56 (.conv 5 3 (.int .i64) (.t 55)),
 oo 57 (.bin .shl 3 0 (.t 56) (.c (.int .u64 (8))) 99),
 oo 58 (.bin .or 3 0 (.t 50) (.t 57) 3),
 oo 59 (.bslice 46 3 1 1 [.lit (.int .i64 0)] [(0, (.t 58))]),
 oo 60 (.app 46 3 1 8 (.t 45) (.t 59)),
 oo 61 (.faddr 56 0 (.t 6) 0),
 ov (.store 46 1 (.t 61) (.t 60))]
@[go_sem] def d2l : List AO := [om 62 7,
 oo 63 (.bin .add 3 0 (.t 62) (.n 2) 3),
 oo 7 (.asg (.t 63))]
@[go_sem] def d1f : List AO := [oo 64 (.bin .add 3 0 (.t 35) (.n 1) 3),
 om 35 64]
def a5l : IC := (.seq (.reg d4v) (.seq (.cond (.t 36) .skip (.exit 0)) (.seq (.block 1 (.seq (.seq (.reg d3v) (.cond (.t 41) (.seq (.draw d1z [[], [], [0, 0], [2, 0, 2], [1, 3, 0, 1, 2, 3]]) .ret) .skip)) (.seq (.draw d2q [[], [0], [], [], [2, 3], [4], [5], [], [], [8], [7, 9], [10], [11], [12], [6, 13], [14], [1, 15], [0, 1, 2, 3, 4, 5, 6, 7, 8, 9, 10, 11, 12, 13, 14, 15, 16], [17, 16, 16, 0, 1, 2, 3, 4, 5, 6, 7, 8, 9, 10, 11, 12, 13, 14, 15, 16]]) (.reg d2l)))) (.reg d1f))))
@[go_sem] def d2z : List AO := [oo 65 (.load 56 (some 2) (.t 6)),
 oc 66 74 [(false, (.t 65))] [56],
 oo 8 (.asg (.t 66))]
@[go_sem] def d2n : List AO := [om 67 8,
 oo 68 (.bin .neq 32 2 (.t 67) (.c .nilIface) 32)]
@[go_sem] def d2e : List AO := [oo 69 (.build 66 [.sl 0 [], .lit (.bool false), .sl 0 []] []),
 om 70 8,
 ov (.store 66 3 (.t 2) (.t 69)),
 oo 3 (.asg (.n 0)),
 oo 4 (.asg (.t 70))]
@[go_sem] def d00 : List AO := [om 71 7,
 oo 72 (.load 56 (some 2) (.t 6)),
 oc 73 77 [(false, (.t 72))] [56],
 oo 74 (.bin .add 3 0 (.t 71) (.t 73) 3),
 oo 9 (.asg (.t 74))]
@[go_sem] def d26 : List AO := [om 75 0,
 oo 76 (.len 30 false (.t 75)),
 om 77 9,
 oo 78 (.bin .lss 3 0 (.t 76) (.t 77) 3)]
@[go_sem] def d1n : List AO := [oo 79 (.build 66 [.sl 0 [], .lit (.bool false), .sl 0 []] []),
 oo 80 (.load 32 none (.g 2)),
 ov (.store 66 3 (.t 2) (.t 79)),
 oo 3 (.asg (.n 0)),
 oo 4 (.asg (.t 80))]
@[go_sem] def d23 : List AO := [oo 82 (.load 56 (some 2) (.t 6)),
 om 83 0,
 om 84 7,
 om 85 9,
 oo 86 (.slice 30 1 (.t 83) (some (.t 84)) (some (.t 85)) none),
 oc 87 79 [(false, (.t 82)), (false, (.t 86))] [56, 30],
 oo 81 (.mvf (.t 87)),
 oo 88 (.ext (.t 81) 0),
 oo 89 (.ext (.t 81) 1),
 oo 10 (.alloc 66 [.own 1 0 [], .lit (.bool false), .own 1 0 []]),
 ov (.store 66 3 (.t 10) (.t 88)),
 oo 11 (.asg (.t 89))]
@[go_sem] def d0i : List AO := [oo 90 (.lmv 66 3 (.t 10)),
 om 91 9,
 om 92 11,
 ov (.store 66 3 (.t 2) (.t 90)),
 oo 3 (.asg (.t 91)),
 oo 4 (.asg (.t 92))]
def b03 : IC := (.seq (.reg d59) (.seq (.seq (.reg d5c) (.cond (.t 14) (.seq (.draw d4f [[], [], [0, 0], [2, 0, 2], [1, 3, 0, 1, 2, 3]]) .ret) .skip)) (.seq (.seq (.reg d38) (.cond (.t 20) (.seq (.draw d7h [[], [], [0, 0], [2, 0, 2], [1, 3, 0, 1, 2, 3]]) .ret) .skip)) (.seq (.reg d47) (.seq (.reg d7t) (.seq (.reg d6v) (.seq (.seq (.reg d4z) (.block 0 (.loop a5l))) (.seq (.seq (.reg d2z) (.seq (.reg d2n) (.cond (.t 68) (.seq (.reg d2e) .ret) .skip))) (.seq (.reg d00) (.seq (.seq (.reg d26) (.cond (.t 78) (.seq (.draw d1n [[], [], [0, 0], [2, 0, 2], [1, 3, 0, 1, 2, 3]]) .ret) .skip)) (.seq (.draw d23 [[], [], [], [], [1, 2, 3], [0, 4], [5], [6], [6], [], [9, 7, 5, 0, 1, 2, 3, 4, 5, 6, 7, 9], [8, 10, 0, 1, 2, 3, 4, 5, 6, 7, 8, 9, 10]]) (.seq (.reg d0i) .ret))))))))))))
abbrev e0e : Nat := 65
theorem c7n : fnC pg 65 93 [(.cells 2 3), (.tmp 3), (.tmp 4)] b03 := a0v Go.Proofs.Tryz.f65 [(.cell 2 66), (.tmp 3), (.tmp 4)] (by kernel_rfl)
@[go_sem] theorem e7n : fnB pg 65 = true := by kernel_rfl
@[go_sem] def e21 : List AO := [oo 2 (.box 56 2 (.t 0)),
 oo 4 (.alloc 66 [.own 1 0 [], .lit (.bool false), .own 1 0 []]),
 oo 5 (.asg (.c .nilIface))]
@[go_sem] def e16 : List AO := [oo 11 (.load 56 (some 2) (.t 2)),
 oc 12 74 [(false, (.t 11))] [56],
 oo 6 (.asg (.t 12))]
@[go_sem] def e2p : List AO := [om 13 6,
 oo 14 (.bin .neq 32 2 (.t 13) (.c .nilIface) 32)]
@[go_sem] def e2q : List AO := [oo 15 (.build 66 [.sl 0 [], .lit (.bool false), .sl 0 []] []),
 om 16 6,
 ov (.store 66 3 (.t 4) (.t 15)),
 oo 5 (.asg (.t 16))]
@[go_sem] def e2u : List AO := [oo 17 (.load 56 (some 2) (.t 2)),
 oc 18 77 [(false, (.t 17))] [56],
 oo 7 (.asg (.t 18))]
@[go_sem] def e2b : List AO := [om 20 1,
 oo 21 (.len 30 false (.t 20)),
 om 22 7,
 oo 23 (.bin .lss 3 0 (.t 21) (.t 22) 3),
 oo 19 (.asg (.t 23))]
@[go_sem] def e2v : List AO := [oo 24 (.build 66 [.sl 0 [], .lit (.bool false), .sl 0 []] []),
 oo 25 (.load 32 none (.g 2)),
 ov (.store 66 3 (.t 4) (.t 24)),
 oo 5 (.asg (.t 25))]
@[go_sem] def e2s : List AO := [om 27 1,
 oo 28 (.len 30 false (.t 27)),
 om 29 7,
 oo 30 (.bin .gtr 3 0 (.t 28) (.t 29) 3),
 oo 26 (.asg (.t 30))]
@[go_sem] def e2e : List AO := [oo 31 (.build 66 [.sl 0 [], .lit (.bool false), .sl 0 []] []),
 oo 32 (.load 32 none (.g 0)),
 ov (.store 66 3 (.t 4) (.t 31)),
 oo 5 (.asg (.t 32))]
@[go_sem] def e13 : List AO := [oo 34 (.load 56 (some 2) (.t 2)),
 oc 35 86 [(false, (.t 34))] [56],
 oo 33 (.mva (.t 35)),
 oo 36 (.ext (.t 33) 0),
 oo 37 (.ext (.t 33) 1),
 oo 8 (.alloc 66 [.own 1 0 [], .lit (.bool false), .own 1 0 []]),
 ov (.store 66 3 (.t 8) (.t 36)),
 oo 9 (.asg (.t 37))]
@[go_sem] def e0c : List AO := [oo 38 (.faddr 66 2 (.t 8) 1),
 oo 39 (.load 46 none (.t 38)),
 oo 40 (.len 46 false (.t 39)),
 oo 41 (.mv (.n 0))]
@[go_sem] def e0d : List AO := [oo 42 (.bin .lss 3 0 (.t 41) (.t 40) 3)]
@[go_sem] def e0b : List AO := [om 43 41,
 oo 10 (.asg (.t 43))]
@[go_sem] def d8h : List AO := [oo 44 (.faddr 66 2 (.t 8) 1),
 oo 45 (.load 46 none (.t 44)),
 om 46 10,
 om 47 1,
 om 48 10,
 oo 49 (.faddr 56 1 (.t 2) 1),
 oo 50 (.load 4 none (.t 49)),
 oc 51 87 [(false, (.t 47)), (false, (.t 48)), (false, (.t 50))] [30, 3, 4],
 oo 52 (.iaddr 46 1 (.t 45) (.t 46)),
 ov (.store 3 1 (.t 52) (.t 51))]
@[go_sem] def d83 : List AO := [oo 53 (.bin .add 3 0 (.t 41) (.n 1) 3),
 om 41 53]
def b4k : IC := (.seq (.reg e0d) (.seq (.cond (.t 42) .skip (.exit 1)) (.seq (.block 2 (.seq (.reg e0b) (.draw d8h [[], [0], [], [], [], [], [5], [3, 4, 6], [1, 2, 0, 1, 2, 3, 4, 5, 6, 7], [8, 7, 7, 0, 1, 2, 3, 4, 5, 6, 7]]))) (.reg d83))))
@[go_sem] def e0i : List AO := [oo 54 (.lmv 66 3 (.t 8)),
 om 55 9,
 ov (.store 66 3 (.t 4) (.t 54)),
 oo 5 (.asg (.t 55))]
def d4d : IC := (.seq (.reg e21) (.seq (.seq (.reg e16) (.seq (.reg e2p) (.cond (.t 14) (.seq (.reg e2q) .ret) .skip))) (.seq (.reg e2u) (.seq (.block 0 (.seq (.reg e2b) (.cond (.t 19) (.seq (.draw e2v [[], [], [0, 0], [1, 2, 0, 1, 2]]) .ret) (.seq (.reg e2s) (.cond (.t 26) (.seq (.draw e2e [[], [], [0, 0], [1, 2, 0, 1, 2]]) .ret) .skip))))) (.seq (.reg e13) (.seq (.seq (.reg e0c) (.block 1 (.loop b4k))) (.seq (.reg e0i) .ret)))))))
abbrev e4x : Nat := 79
theorem d5m : fnC pg 79 56 [(.cells 4 3), (.tmp 5)] d4d := a0v Go.Proofs.Tryz.f79 [(.cell 4 66), (.tmp 5)] (by kernel_rfl)
@[go_sem] theorem f2m : fnB pg 79 = true := by kernel_rfl
@[go_sem] def d52 : List AO := [oo 1 (.box 56 2 (.t 0)),
 oo 2 (.alloc 66 [.own 1 0 [], .lit (.bool false), .own 1 0 []]),
 oo 3 (.asg (.c .nilIface))]
@[go_sem] def d77 : List AO := [oo 5 (.load 56 (some 2) (.t 1)),
 oc 6 74 [(false, (.t 5))] [56],
 oo 4 (.asg (.t 6))]
@[go_sem] def d68 : List AO := [om 7 4,
 oo 8 (.bin .neq 32 2 (.t 7) (.c .nilIface) 32)]
@[go_sem] def d6o : List AO := [oo 9 (.build 66 [.sl 0 [], .lit (.bool false), .sl 0 []] []),
 om 10 4,
 ov (.store 66 3 (.t 2) (.t 9)),
 oo 3 (.asg (.t 10))]
@[go_sem] def d50 : List AO := [oo 11 (.load 56 (some 2) (.t 1)),
 oc 12 88 [(false, (.t 11))] [56],
 oo 13 (.faddr 56 0 (.t 1) 0),
 oo 14 (.load 46 none (.t 13)),
 oc 15 75 [(false, (.t 14))] [46],
 oo 16 (.mks 46 3 1 8 [.lit (.int .i64 0)] (.t 15) (.t 15)),
 oo 17 (.build 66 [.own 1 0 [], .lit (.bool false), .own 1 0 []] [(0, 0, 2, (.t 12)), (1, 2, 1, (.t 16))]),
 ov (.store 66 3 (.t 2) (.t 17)),
 oo 3 (.asg (.c .nilIface))]
def c43 : IC := (.seq (.reg d52) (.seq (.seq (.reg d77) (.seq (.reg d68) (.cond (.t 8) (.seq (.reg d6o) .ret) .skip))) (.seq (.draw d50 [[], [0], [], [2], [3, 1], [4, 4], [1, 5], [6, 4, 0, 1, 2, 3, 4, 5, 6], [7, 0, 1, 2, 3, 4, 5, 6, 7]]) .ret)))
abbrev d8p : Nat := 86
theorem c85 : fnC pg 86 18 [(.cells 2 3), (.tmp 3)] c43 := a0v Go.Proofs.Tryz.f86 [(.cell 2 66), (.tmp 3)] (by kernel_rfl)
@[go_sem] theorem e69 : fnB pg 86 = true := by kernel_rfl
@[go_sem] def d5z : List AO := [oo 6 (.asg (.n 0))]
@[go_sem] def d4b : List AO := [om 7 2]
@[go_sem] def d57 : List AO := [om 8 0,
 om 9 1,
 oo 10 (.bin .mul 3 0 (.n 4) (.t 9) 3),
 oo 11 (.slice 30 1 (.t 8) (some (.t 10)) none none),
 oo 0 (.asg (.t 11))]
@[go_sem] def d4l : List AO := [om 12 0,
 oo 13 (.iaddr 30 1 (.t 12) (.n 0)),
 oo 14 (.load 5 none (.t 13)),
 oo 15 (.conv 5 3 (.int .i64) (.t 14)),
 om 16 0,
 oo 17 (.iaddr 30 1 (.t 16) (.n 1)),
 oo 18 (.load 5 none (.t 17)),
 oo 19 (.conv 5 3 (.int .i64) (.t 18)),
 oo 20 (.bin .shl 3 0 (.t 19) (.c (.int .u64 (8))) 99),
 oo 21 (.bin .or 3 0 (.t 15) (.t 20) 3),
 om 22 0,
 oo 23 (.iaddr 30 1 (.t 22) (.n 2)),
 oo 24 (.load 5 none (.t 23)),
 oo 25 (.conv 5 3 (.int .i64) (.t 24)),
 oo 26 (.bin .shl 3 0 (.t 25) (.c (.int .u64 (16))) 99),
 oo 27 (.bin .or 3 0 (.t 21) (.t 26) 3),
 om 28 0,
 oo 29 (.iaddr 30 1 (.t 28) (.n 3)),
 oo 30 (.load 5 none (.t 29)),
 oo 31 (.conv 5 3 (.int .i64) (.t 30)),
 oo 32 (.bin .shl 3 0 (.t 31) (.c (.int .u64 (24))) 99),
 oo 33 (.bin .or 3 0 (.t 27) (.t 32) 3),
 oc 34 63 [(false, (.t 33))] [3],
 oo 6 (.asg (.t 34))]
@[go_sem] def d4e : List AO := [om 35 0,
 om 36 1,
 oo 37 (.iaddr 30 1 (.t 35) (.t 36)),
 oo 38 (.load 5 none (.t 37)),
 oo 39 (.conv 5 144 (.int .i8) (.t 38)),
 oo 40 (.conv 144 3 (.int .i64) (.t 39)),
 oo 6 (.asg (.t 40))]
def b7i : IC := (.seq (.reg d5z) (.seq (.seq (.reg d4b) (.cond (.t 7) (.seq (.reg d57) (.seq (.draw d4l [[], [0], [1], [2], [], [4], [5], [6], [7], [3, 8], [], [10], [11], [12], [13], [9, 14], [], [16], [17], [18], [19], [15, 20], [21], [22, 22, 0, 1, 2, 3, 4, 5, 6, 7, 8, 9, 10, 11, 12, 13, 14, 15, 16, 17, 18, 19, 20, 21, 22]]) .ret)) .skip)) (.seq (.reg d4e) .ret)))
abbrev d9d : Nat := 87
theorem c7a : fnC pg 87 41 [(.tmp 6)] b7i := a0v Go.Proofs.Tryz.f87 [(.tmp 6)] (by kernel_rfl)
@[go_sem] theorem e8c : fnB pg 87 = true := by kernel_rfl
end Go.Ideal.Tryz
end
