/- Part Qak of the proof: a machine with trees for values, its soundness, and walks on it. -/
import Derived.Test.YtfncabcldhemkaaDoorQaj
import Derived.Test.YtfncabcldhemkaaDoorQai
section
set_option linter.unusedSimpArgs false
set_option linter.unusedVariables false
set_option maxRecDepth 10000
namespace Go.Ideal.Tryd
@[go_sem] def a9s : List AO := [oo 12 (.asg (.c (.bool false)))]
@[go_sem] def a87 : List AO := [oc 20 11 [] [],
 oo 13 (.asg (.t 20))]
@[go_sem] def a86 : List AO := [om 21 13,
 oo 22 (.un .not 4 (.t 21))]
@[go_sem] def a9f : List AO := [oo 12 (.asg (.c (.bool false)))]
@[go_sem] def a91 : List AO := [om 23 0,
 oc 24 12 [(false, (.t 23)), (false, (.n 300))] [3, 3],
 om 25 2,
 oc 26 12 [(false, (.t 25)), (false, (.n 60))] [3, 3],
 oo 27 (.bin .add 3 0 (.t 26) (.n 1) 3),
 oo 28 (.bslice 24 3 1 1 [.lit (.int .i64 0)] [(0, (.t 27))]),
 om 29 4,
 oo 30 (.build 26 [.own 1 0 [], .lit (.bool false)] [(0, 0, 1, (.t 28)), (1, 1, 1, (.t 29))]),
 oo 31 (.build 28 [.lit (.int .i64 0), .own 1 0 [], .lit (.bool false)] [(0, 0, 1, (.t 24)), (1, 1, 2, (.t 30))]),
 oo 14 (.alloc 28 [.lit (.int .i64 0), .own 1 0 [], .lit (.bool false)]),
 ov (.stf 28 3 (.t 14) (.t 31))]
@[go_sem] def a9b : List AO := [om 32 1,
 oc 33 12 [(false, (.t 32)), (false, (.n 300))] [3, 3],
 om 34 3,
 oc 35 12 [(false, (.t 34)), (false, (.n 60))] [3, 3],
 oo 36 (.bin .add 3 0 (.t 35) (.n 1) 3),
 oo 37 (.bslice 24 3 1 1 [.lit (.int .i64 0)] [(0, (.t 36))]),
 om 38 5,
 oo 39 (.build 26 [.own 1 0 [], .lit (.bool false)] [(0, 0, 1, (.t 37)), (1, 1, 1, (.t 38))]),
 oo 40 (.build 28 [.lit (.int .i64 0), .own 1 0 [], .lit (.bool false)] [(0, 0, 1, (.t 33)), (1, 1, 2, (.t 39))]),
 oo 15 (.alloc 28 [.lit (.int .i64 0), .own 1 0 [], .lit (.bool false)]),
 ov (.stf 28 3 (.t 15) (.t 40))]
@[go_sem] def a88 : List AO := [oo 16 (.asg (.c (.bool false)))]
@[go_sem] def a85 : List AO := [oo 17 (.asg (.n 0))]
@[go_sem] def a9a : List AO := [om 41 17,
 oo 42 (.bin .lss 3 0 (.t 41) (.n 700) 3)]
@[go_sem] def a8c : List AO := [om 45 17,
 oo 46 (.faddr 28 0 (.t 14) 0),
 oo 47 (.load 3 none (.t 46)),
 oo 48 (.bin .geq 3 0 (.t 45) (.t 47) 3),
 om 49 48,
 og 50 (.mv (.t 17)) 4 49 true,
 og 51 (.faddr 28 0 (.t 14) 0) 4 49 true,
 og 52 (.load 3 none (.t 51)) 4 49 true,
 og 53 (.faddr 28 1 (.t 14) 1) 4 49 true,
 og 54 (.load 26 (some 2) (.t 53)) 4 49 true,
 ⟨(some 55), .call 13 [(false, (.t 54))] [26], (some (4, 49, true))⟩,
 og 56 (.bin .add 3 0 (.t 52) (.t 55) 3) 4 49 true,
 og 57 (.bin .lss 3 0 (.t 50) (.t 56) 3) 4 49 true,
 oo 58 (.pick (.t 49) (.t 57) (.c (.bool false))),
 oo 18 (.asg (.t 58))]
@[go_sem] def a8v : List AO := [om 59 17,
 oo 60 (.faddr 28 0 (.t 15) 0),
 oo 61 (.load 3 none (.t 60)),
 oo 62 (.bin .geq 3 0 (.t 59) (.t 61) 3),
 om 63 62,
 og 64 (.mv (.t 17)) 4 63 true,
 og 65 (.faddr 28 0 (.t 15) 0) 4 63 true,
 og 66 (.load 3 none (.t 65)) 4 63 true,
 og 67 (.faddr 28 1 (.t 15) 1) 4 63 true,
 og 68 (.load 26 (some 2) (.t 67)) 4 63 true,
 ⟨(some 69), .call 13 [(false, (.t 68))] [26], (some (4, 63, true))⟩,
 og 70 (.bin .add 3 0 (.t 66) (.t 69) 3) 4 63 true,
 og 71 (.bin .lss 3 0 (.t 64) (.t 70) 3) 4 63 true,
 oo 72 (.pick (.t 63) (.t 71) (.c (.bool false))),
 oo 19 (.asg (.t 72))]
@[go_sem] def a8j : List AO := [om 73 16,
 om 74 73,
 og 75 (.mv (.t 18)) 1 74 false,
 og 76 (.mv (.t 75)) 1 74 false,
 og 77 (.mv (.t 19)) 3 76 true,
 og 78 (.pick (.t 76) (.t 77) (.c (.bool false))) 1 74 false,
 oo 79 (.pick (.t 74) (.c (.bool true)) (.t 78)),
 oo 16 (.asg (.t 79))]
@[go_sem] def a9o : List AO := [om 43 17,
 oo 44 (.bin .add 3 0 (.t 43) (.n 1) 3),
 oo 17 (.asg (.t 44))]
def a1u : IC := (.seq (.seq (.reg a9a) (.cond (.t 42) .skip (.exit 0))) (.seq (.block 1 (.seq (.draw a8c [[], [], [1], [0, 2], [3], [4], [4], [6, 4], [4], [8, 4], [9, 4, 4], [7, 10, 4], [5, 11, 4], [4, 12], [13, 10, 0, 1, 2, 3, 4, 5, 6, 7, 8, 9, 10, 11, 12, 13]]) (.seq (.draw a8v [[], [], [1], [0, 2], [3], [4], [4], [6, 4], [4], [8, 4], [9, 4, 4], [7, 10, 4], [5, 11, 4], [4, 12], [13, 10, 0, 1, 2, 3, 4, 5, 6, 7, 8, 9, 10, 11, 12, 13]]) (.reg a8j)))) (.reg a9o)))
@[go_sem] def a8y : List AO := [om 80 13,
 om 81 80,
 og 82 (.load 28 (some 3) (.t 14)) 1 81 true,
 og 83 (.load 28 (some 3) (.t 15)) 1 81 true,
 ⟨(some 84), .call 14 [(false, (.t 82)), (false, (.t 83))] [28, 28], (some (1, 81, true))⟩,
 og 85 (.mv (.t 16)) 1 81 true,
 og 86 (.un .not 4 (.t 85)) 1 81 true,
 og 87 (.bin .eql 4 1 (.t 84) (.t 86) 4) 1 81 true,
 oo 88 (.pick (.t 81) (.t 87) (.c (.bool false))),
 om 89 88,
 og 90 (.load 28 (some 3) (.t 15)) 9 89 true,
 og 91 (.load 28 (some 3) (.t 14)) 9 89 true,
 ⟨(some 92), .call 14 [(false, (.t 90)), (false, (.t 91))] [28, 28], (some (9, 89, true))⟩,
 og 93 (.mv (.t 16)) 9 89 true,
 og 94 (.un .not 4 (.t 93)) 9 89 true,
 og 95 (.bin .eql 4 1 (.t 92) (.t 94) 4) 9 89 true,
 oo 96 (.pick (.t 89) (.t 95) (.c (.bool false))),
 om 97 96,
 og 98 (.load 28 (some 3) (.t 14)) 17 97 true,
 og 99 (.load 28 (some 3) (.t 14)) 17 97 true,
 ⟨(some 100), .call 14 [(false, (.t 98)), (false, (.t 99))] [28, 28], (some (17, 97, true))⟩,
 og 101 (.un .not 4 (.t 100)) 17 97 true,
 oo 102 (.pick (.t 97) (.t 101) (.c (.bool false))),
 oo 12 (.asg (.t 102))]
def a4b : IC := (.seq (.reg a9s) (.seq (.reg a87) (.seq (.seq (.reg a86) (.cond (.t 22) (.seq (.reg a9f) .ret) .skip)) (.seq (.reg a91) (.seq (.reg a9b) (.seq (.reg a88) (.seq (.seq (.reg a85) (.block 0 (.loop a1u))) (.seq (.reg a8y) .ret))))))))
abbrev b0a : Nat := 3
theorem a7c : fnC pg 3 103 [(.tmp 12)] a4b := a0x Go.Proofs.Tryd.f3 [(.tmp 12)] (by kernel_rfl)
@[go_sem] theorem c7x : fnB pg 3 = true := by kernel_rfl
@[go_sem] def b39 : List AO := [oo 0 (.asg (.c (.bool false)))]
@[go_sem] def b31 : List AO := [oc 1 15 [(false, (.n 1))] [3],
 oc 2 18 [(false, (.t 1))] [37],
 oo 3 (.bin .eql 45 2 (.t 2) (.c .nilIface) 45),
 om 4 3,
 ⟨(some 5), .call 15 [(false, (.n 0))] [3], (some (3, 4, true))⟩,
 ⟨(some 6), .call 18 [(false, (.t 5))] [37], (some (3, 4, true))⟩,
 ⟨(some 7), .call 19 [(false, (.n 108)), (false, (.n 0))] [3, 3], (some (3, 4, true))⟩,
 ⟨(some 8), .call 17 [(false, (.t 6)), (false, (.t 7))] [45, 48], (some (3, 4, true))⟩,
 oo 9 (.pick (.t 4) (.t 8) (.c (.bool false))),
 oo 0 (.asg (.t 9))]
def a7t : IC := (.seq (.reg b39) (.seq (.reg b31) .ret))
abbrev b5b : Nat := 11
theorem b2a : fnC pg 11 10 [(.tmp 0)] a7t := a0x Go.Proofs.Tryd.f11 [(.tmp 0)] (by kernel_rfl)
@[go_sem] theorem d6k : fnB pg 11 = true := by kernel_rfl
@[go_sem] def b4i : List AO := [oo 2 (.alloc 37 [.lit (.int .i64 0), .own 3 0 [], .own 3 0 [], .own 2 0 [], .own 6 0 [], .lit (.int .i64 0), .lit (.int .i64 0)])]
@[go_sem] def b6e : List AO := [oo 4 (.bslice 24 3 1 1 [.lit (.int .i64 0)] [(0, (.n 2))]),
 oo 5 (.build 26 [.own 1 0 [], .lit (.bool false)] [(0, 0, 1, (.t 4))]),
 oo 3 (.alloc 26 [.own 1 0 [], .lit (.bool false)]),
 ov (.store 26 2 (.t 3) (.t 5))]
@[go_sem] def b50 : List AO := [oo 6 (.load 26 (some 2) (.t 3)),
 oo 7 (.build 28 [.lit (.int .i64 0), .own 1 0 [], .lit (.bool false)] [(1, 1, 2, (.t 6))]),
 oo 8 (.load 26 (some 2) (.t 3)),
 oo 9 (.build 28 [.lit (.int .i64 0), .own 1 0 [], .lit (.bool false)] [(0, 0, 1, (.n 4)), (1, 1, 2, (.t 8))]),
 oo 10 (.bslice 32 28 3 2 [.lit (.int .i64 0), .own 1 0 [], .lit (.bool false)] [(0, (.t 7)), (1, (.t 9))]),
 om 11 0,
 oo 12 (.bslice 24 3 1 2 [.lit (.int .i64 0)] [(0, (.n 0)), (1, (.n 0))]),
 oo 13 (.build 40 [.lit (.int .i64 0), .lit (.int .i64 0), .own 1 0 [], .own 1 0 [], .lit (.int .i64 0), .lit (.int .i64 0)] [(0, 0, 1, (.n 4)), (1, 1, 1, (.t 11)), (2, 2, 1, (.t 12)), (5, 5, 1, (.n 2))]),
 oo 14 (.bslice 35 40 6 1 [.lit (.int .i64 0), .lit (.int .i64 0), .own 1 0 [], .own 1 0 [], .lit (.int .i64 0), .lit (.int .i64 0)] [(0, (.t 13))]),
 oo 15 (.build 37 [.lit (.int .i64 0), .own 3 0 [], .own 3 0 [], .own 2 0 [], .own 6 0 [], .lit (.int .i64 0), .lit (.int .i64 0)] [(0, 0, 1, (.n 8)), (1, 1, 1, (.t 10)), (4, 4, 1, (.t 14)), (6, 6, 1, (.n 1))]),
 ov (.store 37 7 (.t 2) (.t 15))]
def a4r : IC := (.seq (.reg b4i) (.seq (.reg b6e) (.seq (.reg b50) .ret)))
abbrev a9q : Nat := 15
theorem a5m : fnC pg 15 16 [(.cells 2 7)] a4r := a0x Go.Proofs.Tryd.f15 [(.cell 2 37)] (by kernel_rfl)
@[go_sem] theorem d6w : fnB pg 15 = true := by kernel_rfl
@[go_sem] def b7i : List AO := [oo 1 (.box 26 2 (.t 0)),
 oo 2 (.asg (.n 0))]
@[go_sem] def b6z : List AO := [oo 4 (.faddr 26 0 (.t 1) 0),
 oo 5 (.load 24 none (.t 4)),
 oc 6 32 [(false, (.t 5))] [24],
 oo 3 (.asg (.t 6))]
@[go_sem] def b7n : List AO := [oo 7 (.faddr 26 1 (.t 1) 1),
 oo 8 (.load 4 none (.t 7))]
@[go_sem] def b6u : List AO := [om 9 3,
 oo 10 (.bin .mul 3 0 (.t 9) (.n 4) 3),
 oo 3 (.asg (.t 10))]
@[go_sem] def b7v : List AO := [om 11 3,
 oo 2 (.asg (.t 11))]
def b0s : IC := (.seq (.reg b7i) (.seq (.reg b6z) (.seq (.seq (.reg b7n) (.cond (.t 8) (.reg b6u) .skip)) (.seq (.reg b7v) .ret))))
abbrev b8z : Nat := 13
theorem b3u : fnC pg 13 12 [(.tmp 2)] b0s := a0x Go.Proofs.Tryd.f13 [(.tmp 2)] (by kernel_rfl)
@[go_sem] theorem d86 : fnB pg 13 = true := by kernel_rfl
@[go_sem] def c41 : List AO := [oo 2 (.box 28 3 (.t 0)),
 oo 3 (.box 28 3 (.t 1)),
 oo 4 (.asg (.c (.bool false)))]
@[go_sem] def c40 : List AO := [oo 5 (.faddr 28 0 (.t 2) 0),
 oo 6 (.load 3 none (.t 5)),
 oo 7 (.faddr 28 1 (.t 2) 1),
 oo 8 (.load 26 (some 2) (.t 7)),
 oc 9 33 [(false, (.t 8))] [26],
 oo 10 (.bin .add 3 0 (.t 6) (.t 9) 3),
 oo 11 (.faddr 28 0 (.t 3) 0),
 oo 12 (.load 3 none (.t 11)),
 oo 13 (.bin .leq 3 0 (.t 10) (.t 12) 3),
 om 14 13,
 og 15 (.faddr 28 0 (.t 3) 0) 9 14 false,
 og 16 (.load 3 none (.t 15)) 9 14 false,
 og 17 (.faddr 28 1 (.t 3) 1) 9 14 false,
 og 18 (.load 26 (some 2) (.t 17)) 9 14 false,
 ⟨(some 19), .call 33 [(false, (.t 18))] [26], (some (9, 14, false))⟩,
 og 20 (.bin .add 3 0 (.t 16) (.t 19) 3) 9 14 false,
 og 21 (.faddr 28 0 (.t 2) 0) 9 14 false,
 og 22 (.load 3 none (.t 21)) 9 14 false,
 og 23 (.bin .leq 3 0 (.t 20) (.t 22) 3) 9 14 false,
 oo 24 (.pick (.t 14) (.c (.bool true)) (.t 23)),
 oo 4 (.asg (.t 24))]
def b5y : IC := (.seq (.reg c41) (.seq (.draw c40 [[], [0], [], [2], [3], [1, 4], [], [6], [5, 7], [8, 4], [9], [10, 9], [9], [12, 9], [13, 9, 9], [11, 14, 9], [9], [16, 9], [15, 17, 9], [9, 18], [19, 14, 0, 1, 2, 3, 4, 5, 6, 7, 8, 9, 10, 11, 12, 13, 14, 15, 16, 17, 18, 19]]) .ret))
abbrev d03 : Nat := 14
theorem b83 : fnC pg 14 25 [(.tmp 4)] b5y := a0x Go.Proofs.Tryd.f14 [(.tmp 4)] (by kernel_rfl)
@[go_sem] theorem e36 : fnB pg 14 = true := by kernel_rfl
@[go_sem] def c73 : List AO := [oo 1 (.box 37 7 (.t 0)),
 oo 2 (.asg (.c .nilIface))]
@[go_sem] def c4h : List AO := [oo 6 (.load 37 (some 7) (.t 1)),
 oc 7 37 [(false, (.t 6))] [37],
 oo 3 (.asg (.t 7))]
@[go_sem] def c7q : List AO := [om 8 3,
 oo 9 (.bin .neq 45 2 (.t 8) (.c .nilIface) 45)]
@[go_sem] def c6d : List AO := [om 10 3,
 oo 2 (.asg (.t 10))]
@[go_sem] def c85 : List AO := [oo 11 (.faddr 37 4 (.t 1) 4),
 oo 12 (.load 35 none (.t 11)),
 oo 13 (.len 35 false (.t 12)),
 oo 14 (.mv (.n 0))]
@[go_sem] def c6e : List AO := [oo 15 (.bin .lss 3 0 (.t 14) (.t 13) 3)]
@[go_sem] def c7n : List AO := [om 16 14,
 oo 4 (.asg (.t 16))]
@[go_sem] def c4s : List AO := [oo 17 (.load 37 (some 7) (.t 1)),
 om 18 4,
 oc 19 38 [(false, (.t 17)), (false, (.t 18))] [37, 3],
 oo 5 (.asg (.t 19))]
@[go_sem] def c47 : List AO := [om 20 5,
 oo 21 (.bin .neq 45 2 (.t 20) (.c .nilIface) 45)]
@[go_sem] def c5x : List AO := [om 22 4,
 om 23 5,
 oc 24 39 [(false, (.t 22)), (false, (.t 23))] [3, 45],
 oo 2 (.asg (.t 24))]
@[go_sem] def b94 : List AO := [oo 25 (.bin .add 3 0 (.t 14) (.n 1) 3),
 om 14 25]
def a42 : IC := (.seq (.reg c6e) (.seq (.cond (.t 15) .skip (.exit 0)) (.seq (.block 1 (.seq (.reg c7n) (.seq (.reg c4s) (.seq (.reg c47) (.cond (.t 21) (.seq (.reg c5x) .ret) .skip))))) (.reg b94))))
@[go_sem] def c1p : List AO := [oo 2 (.asg (.c .nilIface))]
def b42 : IC := (.seq (.reg c73) (.seq (.seq (.reg c4h) (.seq (.reg c7q) (.cond (.t 9) (.seq (.reg c6d) .ret) .skip))) (.seq (.seq (.reg c85) (.block 0 (.loop a42))) (.seq (.reg c1p) .ret))))
abbrev b0f : Nat := 18
theorem b9d : fnC pg 18 26 [(.tmp 2)] b42 := a0x Go.Proofs.Tryd.f18 [(.tmp 2)] (by kernel_rfl)
@[go_sem] theorem e4m : fnB pg 18 = true := by kernel_rfl
@[go_sem] def c5b : List AO := [oo 1 (.box 37 7 (.t 0)),
 oo 2 (.asg (.c .nilIface))]
@[go_sem] def c50 : List AO := [oo 12 (.faddr 37 1 (.t 1) 1),
 oo 13 (.load 32 none (.t 12)),
 oo 14 (.len 32 false (.t 13)),
 oo 15 (.bin .gtr 3 0 (.t 14) (.n 128) 3),
 om 16 15,
 og 17 (.faddr 37 2 (.t 1) 2) 4 16 false,
 og 18 (.load 33 none (.t 17)) 4 16 false,
 og 19 (.len 33 false (.t 18)) 4 16 false,
 og 20 (.bin .gtr 3 0 (.t 19) (.n 64) 3) 4 16 false,
 oo 21 (.pick (.t 16) (.c (.bool true)) (.t 20)),
 om 22 21,
 og 23 (.faddr 37 3 (.t 1) 3) 10 22 false,
 og 24 (.load 34 none (.t 23)) 10 22 false,
 og 25 (.len 34 false (.t 24)) 10 22 false,
 og 26 (.bin .gtr 3 0 (.t 25) (.n 8) 3) 10 22 false,
 oo 27 (.pick (.t 22) (.c (.bool true)) (.t 26)),
 om 28 27,
 og 29 (.faddr 37 4 (.t 1) 4) 16 28 false,
 og 30 (.load 35 none (.t 29)) 16 28 false,
 og 31 (.len 35 false (.t 30)) 16 28 false,
 og 32 (.bin .gtr 3 0 (.t 31) (.n 2048) 3) 16 28 false,
 oo 33 (.pick (.t 28) (.c (.bool true)) (.t 32))]
@[go_sem] def c7f : List AO := [oo 34 (.load 45 none (.g 2)),
 oo 2 (.asg (.t 34))]
@[go_sem] def c6o : List AO := [oo 35 (.faddr 37 0 (.t 1) 0),
 oo 36 (.load 3 none (.t 35)),
 oo 37 (.bin .lss 3 0 (.t 36) (.n 0) 3),
 om 38 37,
 og 39 (.faddr 37 0 (.t 1) 0) 3 38 false,
 og 40 (.load 3 none (.t 39)) 3 38 false,
 og 41 (.bin .gtr 3 0 (.t 40) (.n 65536) 3) 3 38 false,
 oo 42 (.pick (.t 38) (.c (.bool true)) (.t 41))]
@[go_sem] def c48 : List AO := [oo 43 (.load 45 none (.g 3)),
 oo 2 (.asg (.t 43))]
@[go_sem] def c4w : List AO := [oo 44 (.faddr 37 1 (.t 1) 1),
 oo 45 (.load 32 none (.t 44)),
 oo 46 (.len 32 false (.t 45)),
 oo 47 (.mv (.n 0))]
@[go_sem] def c66 : List AO := [oo 48 (.bin .lss 3 0 (.t 47) (.t 46) 3)]
@[go_sem] def c79 : List AO := [om 49 47,
 oo 50 (.iaddr 32 3 (.t 45) (.t 47)),
 oo 51 (.load 28 (some 3) (.t 50)),
 oo 4 (.alloc 28 [.lit (.int .i64 0), .own 1 0 [], .lit (.bool false)]),
 oo 3 (.asg (.t 49)),
 ov (.store 28 3 (.t 4) (.t 51))]
@[go_sem] def c6f : List AO := [oo 52 (.faddr 28 1 (.t 4) 1),
 oo 53 (.load 26 (some 2) (.t 52)),
 oc 54 58 [(false, (.t 53))] [26],
 oo 5 (.asg (.t 54))]
@[go_sem] def c4l : List AO := [om 55 5,
 oo 56 (.bin .eql 45 2 (.t 55) (.c .nilIface) 45),
 om 57 56,
 og 58 (.faddr 28 0 (.t 4) 0) 2 57 true,
 og 59 (.load 3 none (.t 58)) 2 57 true,
 og 60 (.bin .lss 3 0 (.t 59) (.n 0) 3) 2 57 true,
 og 61 (.mv (.t 60)) 2 57 true,
 og 62 (.faddr 28 0 (.t 4) 0) 6 61 false,
 og 63 (.load 3 none (.t 62)) 6 61 false,
 og 64 (.faddr 37 0 (.t 1) 0) 6 61 false,
 og 65 (.load 3 none (.t 64)) 6 61 false,
 og 66 (.bin .gtr 3 0 (.t 63) (.t 65) 3) 6 61 false,
 og 67 (.pick (.t 61) (.c (.bool true)) (.t 66)) 2 57 true,
 og 68 (.mv (.t 67)) 2 57 true,
 og 69 (.faddr 28 1 (.t 4) 1) 13 68 false,
 og 70 (.load 26 (some 2) (.t 69)) 13 68 false,
 ⟨(some 71), .call 33 [(false, (.t 70))] [26], (some (13, 68, false))⟩,
 og 72 (.faddr 37 0 (.t 1) 0) 13 68 false,
 og 73 (.load 3 none (.t 72)) 13 68 false,
 og 74 (.faddr 28 0 (.t 4) 0) 13 68 false,
 og 75 (.load 3 none (.t 74)) 13 68 false,
 og 76 (.bin .sub 3 0 (.t 73) (.t 75) 3) 13 68 false,
 og 77 (.bin .gtr 3 0 (.t 71) (.t 76) 3) 13 68 false,
 og 78 (.pick (.t 68) (.c (.bool true)) (.t 77)) 2 57 true,
 oo 79 (.pick (.t 57) (.t 78) (.c (.bool false)))]
@[go_sem] def c2i : List AO := [oo 80 (.load 45 none (.g 3)),
 oo 5 (.asg (.t 80))]
@[go_sem] def c3q : List AO := [om 81 5,
 oo 82 (.bin .neq 45 2 (.t 81) (.c .nilIface) 45)]
@[go_sem] def c12 : List AO := [om 83 3,
 om 84 5,
 oc 85 39 [(false, (.t 83)), (false, (.t 84))] [3, 45],
 oo 2 (.asg (.t 85))]
@[go_sem] def c0r : List AO := [oo 86 (.bin .add 3 0 (.t 47) (.n 1) 3),
 om 47 86]
def a4w : IC := (.seq (.reg c66) (.seq (.cond (.t 48) .skip (.exit 0)) (.seq (.block 1 (.seq (.reg c79) (.seq (.reg c6f) (.seq (.seq (.draw c4l [[], [0], [1], [2], [3, 2], [4, 2], [5, 2, 2], [6], [7, 6], [6], [9, 6], [8, 10, 6], [6, 11, 2], [12, 6, 2], [13], [14, 13], [15, 13, 13], [13], [17, 13], [13], [19, 13], [18, 20, 13], [16, 21, 13], [13, 22, 2], [2, 23]]) (.cond (.t 79) (.reg c2i) .skip)) (.seq (.reg c3q) (.cond (.t 82) (.seq (.reg c12) .ret) .skip)))))) (.reg c0r))))
@[go_sem] def c3m : List AO := [oo 87 (.faddr 37 2 (.t 1) 2),
 oo 88 (.load 33 none (.t 87)),
 oo 89 (.len 33 false (.t 88)),
 oo 90 (.mv (.n 0))]
@[go_sem] def c3v : List AO := [oo 91 (.bin .lss 3 0 (.t 90) (.t 89) 3)]
@[go_sem] def b95 : List AO := [om 92 90,
 oo 93 (.iaddr 33 3 (.t 88) (.t 90)),
 oo 94 (.load 71 (some 3) (.t 93)),
 oo 7 (.alloc 71 [.own 1 0 [], .lit (.bool false), .own 1 0 []]),
 oo 6 (.asg (.t 92)),
 ov (.store 71 3 (.t 7) (.t 94))]
@[go_sem] def c2a : List AO := [oo 95 (.load 71 (some 3) (.t 7)),
 oc 96 59 [(false, (.t 95))] [71],
 oo 8 (.asg (.t 96))]
@[go_sem] def c36 : List AO := [om 97 8,
 oo 98 (.bin .neq 45 2 (.t 97) (.c .nilIface) 45)]
@[go_sem] def c33 : List AO := [om 99 6,
 om 100 8,
 oc 101 39 [(false, (.t 99)), (false, (.t 100))] [3, 45],
 oo 2 (.asg (.t 101))]
@[go_sem] def c1t : List AO := [oo 102 (.bin .add 3 0 (.t 90) (.n 1) 3),
 om 90 102]
def a4x : IC := (.seq (.reg c3v) (.seq (.cond (.t 91) .skip (.exit 2)) (.seq (.block 3 (.seq (.reg b95) (.seq (.reg c2a) (.seq (.reg c36) (.cond (.t 98) (.seq (.reg c33) .ret) .skip))))) (.reg c1t))))
@[go_sem] def c1g : List AO := [oo 103 (.faddr 37 3 (.t 1) 3),
 oo 104 (.load 34 none (.t 103)),
 oo 105 (.len 34 false (.t 104)),
 oo 106 (.mv (.n 0))]
@[go_sem] def b9x : List AO := [oo 107 (.bin .lss 3 0 (.t 106) (.t 105) 3)]
@[go_sem] def c3i : List AO := [om 108 106,
 oo 109 (.iaddr 34 2 (.t 104) (.t 106)),
 oo 110 (.load 26 (some 2) (.t 109)),
 oo 10 (.alloc 26 [.own 1 0 [], .lit (.bool false)]),
 oo 9 (.asg (.t 108)),
 ov (.store 26 2 (.t 10) (.t 110))]
@[go_sem] def c2v : List AO := [oo 111 (.load 26 (some 2) (.t 10)),
 oc 112 58 [(false, (.t 111))] [26],
 oo 11 (.asg (.t 112))]
@[go_sem] def c3r : List AO := [om 113 11,
 oo 114 (.bin .neq 45 2 (.t 113) (.c .nilIface) 45)]
@[go_sem] def c03 : List AO := [om 115 9,
 om 116 11,
 oc 117 39 [(false, (.t 115)), (false, (.t 116))] [3, 45],
 oo 2 (.asg (.t 117))]
@[go_sem] def c2u : List AO := [oo 118 (.bin .add 3 0 (.t 106) (.n 1) 3),
 om 106 118]
def a43 : IC := (.seq (.reg b9x) (.seq (.cond (.t 107) .skip (.exit 4)) (.seq (.block 5 (.seq (.reg c3i) (.seq (.reg c2v) (.seq (.reg c3r) (.cond (.t 114) (.seq (.reg c03) .ret) .skip))))) (.reg c2u))))
@[go_sem] def c25 : List AO := [oo 119 (.load 37 (some 7) (.t 1)),
 oo 120 (.faddr 37 5 (.t 1) 5),
 oo 121 (.load 3 none (.t 120)),
 oc 122 60 [(false, (.t 119)), (false, (.t 121))] [37, 3],
 oo 123 (.un .not 4 (.t 122)),
 om 124 123,
 og 125 (.load 37 (some 7) (.t 1)) 5 124 false,
 og 126 (.faddr 37 6 (.t 1) 6) 5 124 false,
 og 127 (.load 3 none (.t 126)) 5 124 false,
 ⟨(some 128), .call 60 [(false, (.t 125)), (false, (.t 127))] [37, 3], (some (5, 124, false))⟩,
 og 129 (.un .not 4 (.t 128)) 5 124 false,
 oo 130 (.pick (.t 124) (.c (.bool true)) (.t 129))]
@[go_sem] def c1e : List AO := [oo 131 (.load 45 none (.g 3)),
 oo 2 (.asg (.t 131))]
@[go_sem] def c39 : List AO := [oo 2 (.asg (.c .nilIface))]
def a2f : IC := (.seq (.reg c5b) (.seq (.seq (.reg c50) (.cond (.t 33) (.seq (.reg c7f) .ret) .skip)) (.seq (.seq (.reg c6o) (.cond (.t 42) (.seq (.reg c48) .ret) .skip)) (.seq (.seq (.reg c4w) (.block 0 (.loop a4w))) (.seq (.seq (.reg c3m) (.block 2 (.loop a4x))) (.seq (.seq (.reg c1g) (.block 4 (.loop a43))) (.seq (.seq (.reg c25) (.cond (.t 130) (.seq (.reg c1e) .ret) .skip)) (.seq (.reg c39) .ret))))))))
abbrev b6j : Nat := 37
theorem b88 : fnC pg 37 132 [(.tmp 2)] a2f := a0x Go.Proofs.Tryd.f37 [(.tmp 2)] (by kernel_rfl)
@[go_sem] theorem e47 : fnB pg 37 = true := by kernel_rfl
abbrev a46 : Nat := 39
@[go_sem] def d3l : List AO := [oo 2 (.box 37 7 (.t 0)),
 oo 4 (.asg (.c (.bool false)))]
@[go_sem] def d02 : List AO := [om 5 1,
 oo 6 (.bin .geq 3 0 (.t 5) (.n 0) 3),
 om 7 6,
 og 8 (.mv (.t 1)) 2 7 true,
 og 9 (.faddr 37 1 (.t 2) 1) 2 7 true,
 og 10 (.load 32 none (.t 9)) 2 7 true,
 og 11 (.len 32 false (.t 10)) 2 7 true,
 og 12 (.bin .lss 3 0 (.t 8) (.t 11) 3) 2 7 true,
 oo 13 (.pick (.t 7) (.t 12) (.c (.bool false))),
 oo 4 (.asg (.t 13))]
def b8d : IC := (.seq (.reg d3l) (.seq (.reg d02) .ret))
abbrev d4o : Nat := 60
theorem c31 : fnC pg 60 14 [(.tmp 4)] b8d := a0x Go.Proofs.Tryd.f60 [(.tmp 4)] (by kernel_rfl)
@[go_sem] theorem e55 : fnB pg 60 = true := by kernel_rfl
@[go_sem] def d1w : List AO := [oo 1 (.box 40 6 (.t 0)),
 oo 2 (.asg (.c (.bool false)))]
@[go_sem] def d1i : List AO := [oo 3 (.faddr 40 0 (.t 1) 0),
 oo 4 (.load 3 none (.t 3)),
 oo 5 (.bin .eql 3 0 (.t 4) (.n 2) 3),
 om 6 5,
 og 7 (.faddr 40 0 (.t 1) 0) 3 6 false,
 og 8 (.load 3 none (.t 7)) 3 6 false,
 og 9 (.bin .eql 3 0 (.t 8) (.n 3) 3) 3 6 false,
 oo 10 (.pick (.t 6) (.c (.bool true)) (.t 9)),
 om 11 10,
 og 12 (.faddr 40 0 (.t 1) 0) 8 11 false,
 og 13 (.load 3 none (.t 12)) 8 11 false,
 ⟨(some 14), .call 67 [(false, (.t 13))] [3], (some (8, 11, false))⟩,
 oo 15 (.pick (.t 11) (.c (.bool true)) (.t 14)),
 oo 2 (.asg (.t 15))]
def a7r : IC := (.seq (.reg d1w) (.seq (.reg d1i) .ret))
abbrev d41 : Nat := 62
theorem c1w : fnC pg 62 16 [(.tmp 2)] a7r := a0x Go.Proofs.Tryd.f62 [(.tmp 2)] (by kernel_rfl)
@[go_sem] theorem e56 : fnB pg 62 = true := by kernel_rfl
@[go_sem] def d2m : List AO := [oo 2 (.box 37 7 (.t 0)),
 oo 3 (.box 40 6 (.t 1)),
 oo 4 (.asg (.c .nilIface))]
@[go_sem] def d07 : List AO := [oo 5 (.asg (.n 1)),
 oo 6 (.asg (.n 0))]
@[go_sem] def d1q : List AO := [oo 7 (.faddr 40 0 (.t 3) 0),
 oo 8 (.load 3 none (.t 7))]
@[go_sem] def d3y : List AO := [oo 10 (.bin .eql 3 0 (.t 8) (.n 23) 3),
 oo 9 (.asg (.t 10))]
@[go_sem] def d01 : List AO := [oo 6 (.asg (.n 1))]
@[go_sem] def d3x : List AO := [oo 12 (.bin .eql 3 0 (.t 8) (.n 24) 3),
 oo 11 (.asg (.t 12))]
@[go_sem] def d0w : List AO := [oo 5 (.asg (.n 0))]
@[go_sem] def d13 : List AO := [oo 13 (.faddr 40 3 (.t 3) 3),
 oo 14 (.load 24 none (.t 13)),
 oo 15 (.len 24 false (.t 14)),
 om 16 5,
 oo 17 (.bin .neq 3 0 (.t 15) (.t 16) 3),
 om 18 17,
 og 19 (.faddr 40 2 (.t 3) 2) 5 18 false,
 og 20 (.load 24 none (.t 19)) 5 18 false,
 og 21 (.len 24 false (.t 20)) 5 18 false,
 og 22 (.mv (.t 6)) 5 18 false,
 og 23 (.bin .neq 3 0 (.t 21) (.t 22) 3) 5 18 false,
 oo 24 (.pick (.t 18) (.c (.bool true)) (.t 23))]
@[go_sem] def d1c : List AO := [oo 25 (.load 45 none (.g 7)),
 oo 4 (.asg (.t 25))]
@[go_sem] def d2l : List AO := [om 26 5,
 oo 27 (.bin .gtr 3 0 (.t 26) (.n 0) 3),
 om 28 27,
 og 29 (.faddr 40 3 (.t 3) 3) 2 28 true,
 og 30 (.load 24 none (.t 29)) 2 28 true,
 og 31 (.iaddr 24 1 (.t 30) (.n 0)) 2 28 true,
 og 32 (.load 3 none (.t 31)) 2 28 true,
 og 33 (.bin .lss 3 0 (.t 32) (.n 0) 3) 2 28 true,
 og 34 (.mv (.t 33)) 2 28 true,
 og 35 (.faddr 40 3 (.t 3) 3) 8 34 false,
 og 36 (.load 24 none (.t 35)) 8 34 false,
 og 37 (.iaddr 24 1 (.t 36) (.n 0)) 8 34 false,
 og 38 (.load 3 none (.t 37)) 8 34 false,
 og 39 (.faddr 37 4 (.t 2) 4) 8 34 false,
 og 40 (.load 35 none (.t 39)) 8 34 false,
 og 41 (.len 35 false (.t 40)) 8 34 false,
 og 42 (.bin .gtr 3 0 (.t 38) (.t 41) 3) 8 34 false,
 og 43 (.pick (.t 34) (.c (.bool true)) (.t 42)) 2 28 true,
 oo 44 (.pick (.t 28) (.t 43) (.c (.bool false)))]
@[go_sem] def c6t : List AO := [oo 45 (.load 45 none (.g 9)),
 oo 4 (.asg (.t 45))]
@[go_sem] def c5i : List AO := [oo 4 (.asg (.c .nilIface))]
def a09 : IC := (.seq (.reg d2m) (.seq (.reg d07) (.seq (.seq (.reg d1q) (.block 0 (.seq (.reg d3y) (.cond (.t 9) (.reg d01) (.seq (.reg d3x) (.cond (.t 11) (.reg d0w) .skip)))))) (.seq (.seq (.reg d13) (.cond (.t 24) (.seq (.reg d1c) .ret) .skip)) (.seq (.seq (.draw d2l [[], [0], [1], [2], [3, 2], [4, 2], [5, 2], [6, 2], [7, 2, 2], [8], [9, 8], [10, 8], [11, 8], [8], [13, 8], [14, 8], [12, 15, 8], [8, 16, 2], [2, 17]]) (.cond (.t 44) (.seq (.reg c6t) .ret) .skip)) (.seq (.reg c5i) .ret))))))
abbrev d4d : Nat := 63
theorem c0d : fnC pg 63 46 [(.tmp 4)] a09 := a0x Go.Proofs.Tryd.f63 [(.tmp 4)] (by kernel_rfl)
@[go_sem] theorem e52 : fnB pg 63 = true := by kernel_rfl
@[go_sem] def d2g : List AO := [oo 2 (.box 37 7 (.t 0)),
 oo 3 (.box 40 6 (.t 1)),
 oo 4 (.asg (.n 0)),
 oo 5 (.asg (.c .nilIface))]
@[go_sem] def d2o : List AO := [oo 13 (.faddr 37 1 (.t 2) 1),
 oo 14 (.load 32 none (.t 13)),
 oo 15 (.faddr 40 1 (.t 3) 1),
 oo 16 (.load 3 none (.t 15)),
 oo 17 (.iaddr 32 3 (.t 14) (.t 16)),
 oo 18 (.load 28 (some 3) (.t 17)),
 oo 6 (.alloc 28 [.lit (.int .i64 0), .own 1 0 [], .lit (.bool false)]),
 ov (.store 28 3 (.t 6) (.t 18))]
@[go_sem] def d3z : List AO := [oo 19 (.faddr 40 0 (.t 3) 0),
 oo 20 (.load 3 none (.t 19)),
 oc 21 67 [(false, (.t 20))] [3],
 oo 22 (.un .not 4 (.t 21))]
@[go_sem] def d27 : List AO := [oo 23 (.faddr 40 3 (.t 3) 3),
 oo 24 (.load 24 none (.t 23)),
 oo 25 (.len 24 false (.t 24)),
 oo 26 (.bin .neq 3 0 (.t 25) (.n 1) 3),
 om 27 26,
 og 28 (.faddr 40 2 (.t 3) 2) 4 27 false,
 og 29 (.load 24 none (.t 28)) 4 27 false,
 og 30 (.len 24 false (.t 29)) 4 27 false,
 og 31 (.bin .neq 3 0 (.t 30) (.n 0) 3) 4 27 false,
 oo 32 (.pick (.t 27) (.c (.bool true)) (.t 31))]
@[go_sem] def d0j : List AO := [oo 33 (.load 45 none (.g 7)),
 oo 4 (.asg (.n 0)),
 oo 5 (.asg (.t 33))]
@[go_sem] def d1a : List AO := [oo 34 (.faddr 40 3 (.t 3) 3),
 oo 35 (.load 24 none (.t 34)),
 oo 36 (.iaddr 24 1 (.t 35) (.n 0)),
 oo 37 (.load 3 none (.t 36)),
 oo 7 (.asg (.t 37))]
@[go_sem] def d1x : List AO := [oo 8 (.alloc 26 [.own 1 0 [], .lit (.bool false)])]
@[go_sem] def d2d : List AO := [oo 40 (.faddr 40 0 (.t 3) 0),
 oo 41 (.load 3 none (.t 40)),
 oo 42 (.bin .eql 3 0 (.t 41) (.n 2) 3),
 om 43 42,
 og 44 (.mv (.t 7)) 3 43 true,
 og 45 (.bin .geq 3 0 (.t 44) (.n 0) 3) 3 43 true,
 oo 46 (.pick (.t 43) (.t 45) (.c (.bool false))),
 om 47 46,
 og 48 (.mv (.t 7)) 7 47 true,
 og 49 (.faddr 37 2 (.t 2) 2) 7 47 true,
 og 50 (.load 33 none (.t 49)) 7 47 true,
 og 51 (.len 33 false (.t 50)) 7 47 true,
 og 52 (.bin .lss 3 0 (.t 48) (.t 51) 3) 7 47 true,
 oo 53 (.pick (.t 47) (.t 52) (.c (.bool false))),
 oo 39 (.asg (.t 53))]
@[go_sem] def d00 : List AO := [oo 54 (.faddr 37 2 (.t 2) 2),
 oo 55 (.load 33 none (.t 54)),
 om 56 7,
 oo 57 (.iaddr 33 3 (.t 55) (.t 56)),
 oo 58 (.faddr 71 0 (.t 57) 0),
 oo 59 (.load 26 (some 2) (.t 58)),
 ov (.store 26 2 (.t 8) (.t 59))]
@[go_sem] def c7t : List AO := [oo 61 (.faddr 40 0 (.t 3) 0),
 oo 62 (.load 3 none (.t 61)),
 oo 63 (.bin .eql 3 0 (.t 62) (.n 3) 3),
 om 64 63,
 og 65 (.mv (.t 7)) 3 64 true,
 og 66 (.bin .geq 3 0 (.t 65) (.n 0) 3) 3 64 true,
 oo 67 (.pick (.t 64) (.t 66) (.c (.bool false))),
 om 68 67,
 og 69 (.mv (.t 7)) 7 68 true,
 og 70 (.faddr 37 3 (.t 2) 3) 7 68 true,
 og 71 (.load 34 none (.t 70)) 7 68 true,
 og 72 (.len 34 false (.t 71)) 7 68 true,
 og 73 (.bin .lss 3 0 (.t 69) (.t 72) 3) 7 68 true,
 oo 74 (.pick (.t 68) (.t 73) (.c (.bool false))),
 oo 60 (.asg (.t 74))]
@[go_sem] def c6a : List AO := [oo 75 (.faddr 37 3 (.t 2) 3),
 oo 76 (.load 34 none (.t 75)),
 om 77 7,
 oo 78 (.iaddr 34 2 (.t 76) (.t 77)),
 oo 79 (.load 26 (some 2) (.t 78)),
 ov (.store 26 2 (.t 8) (.t 79))]
@[go_sem] def d2e : List AO := [oo 38 (.load 45 none (.g 0)),
 oo 4 (.asg (.n 0)),
 oo 5 (.asg (.t 38))]
@[go_sem] def c7s : List AO := [oo 80 (.load 26 (some 2) (.t 8)),
 oo 81 (.faddr 28 1 (.t 6) 1),
 oo 82 (.load 26 (some 2) (.t 81)),
 oc 83 85 [(false, (.t 80)), (false, (.t 82))] [26, 26],
 oo 84 (.un .not 4 (.t 83))]
@[go_sem] def c6l : List AO := [oo 85 (.load 45 none (.g 7)),
 oo 4 (.asg (.n 0)),
 oo 5 (.asg (.t 85))]
@[go_sem] def c4k : List AO := [oo 4 (.asg (.n 1)),
 oo 5 (.asg (.c .nilIface))]
@[go_sem] def c5j : List AO := [oo 87 (.faddr 40 0 (.t 3) 0),
 oo 88 (.load 3 none (.t 87)),
 oo 89 (.faddr 40 3 (.t 3) 3),
 oo 90 (.load 24 none (.t 89)),
 oo 91 (.load 37 (some 7) (.t 2)),
 oo 92 (.load 40 (some 6) (.t 3)),
 oc 93 86 [(false, (.t 91)), (false, (.t 92))] [37, 40],
 oc 94 68 [(false, (.t 88)), (false, (.t 90)), (false, (.t 93))] [3, 24, 34],
 oo 86 (.mvf (.t 94)),
 oo 95 (.ext (.t 86) 0),
 oo 96 (.ext (.t 86) 1),
 oo 9 (.alloc 26 [.own 1 0 [], .lit (.bool false)]),
 ov (.store 26 2 (.t 9) (.t 95)),
 oo 10 (.asg (.t 96))]
@[go_sem] def c4x : List AO := [om 97 10,
 oo 98 (.bin .neq 45 2 (.t 97) (.c .nilIface) 45)]
@[go_sem] def c4o : List AO := [om 99 10,
 oo 4 (.asg (.n 0)),
 oo 5 (.asg (.t 99))]
@[go_sem] def c7i : List AO := [oo 100 (.load 26 (some 2) (.t 9)),
 oo 101 (.faddr 28 1 (.t 6) 1),
 oo 102 (.load 26 (some 2) (.t 101)),
 oc 103 85 [(false, (.t 100)), (false, (.t 102))] [26, 26],
 oo 104 (.un .not 4 (.t 103))]
@[go_sem] def c8s : List AO := [oo 105 (.load 45 none (.g 7)),
 oo 4 (.asg (.n 0)),
 oo 5 (.asg (.t 105))]
@[go_sem] def c52 : List AO := [oo 106 (.faddr 40 2 (.t 3) 2),
 oo 107 (.load 24 none (.t 106)),
 oo 108 (.len 24 false (.t 107)),
 oo 109 (.mv (.n 0))]
@[go_sem] def c63 : List AO := [oo 110 (.bin .lss 3 0 (.t 109) (.t 108) 3)]
@[go_sem] def c8f : List AO := [oo 111 (.iaddr 24 1 (.t 107) (.t 109)),
 oo 112 (.load 3 none (.t 111)),
 oo 12 (.asg (.t 112))]
@[go_sem] def c8q : List AO := [oo 113 (.load 28 (some 3) (.t 6)),
 oo 114 (.faddr 37 1 (.t 2) 1),
 oo 115 (.load 32 none (.t 114)),
 om 116 12,
 oo 117 (.iaddr 32 3 (.t 115) (.t 116)),
 oo 118 (.load 28 (some 3) (.t 117)),
 oc 119 14 [(false, (.t 113)), (false, (.t 118))] [28, 28],
 oo 120 (.un .not 4 (.t 119))]
@[go_sem] def c5u : List AO := [oo 121 (.load 45 none (.g 10)),
 oo 4 (.asg (.n 0)),
 oo 5 (.asg (.t 121))]
@[go_sem] def c8r : List AO := [oo 122 (.bin .add 3 0 (.t 109) (.n 1) 3),
 om 109 122]
def a5r : IC := (.seq (.reg c63) (.seq (.cond (.t 110) .skip (.exit 1)) (.seq (.block 2 (.seq (.reg c8f) (.seq (.draw c8q [[], [], [1], [], [2, 3], [4], [0, 5], [6]]) (.cond (.t 120) (.seq (.draw c5u [[], [], [0, 1, 0, 1]]) .ret) .skip)))) (.reg c8r))))
@[go_sem] def c59 : List AO := [oo 123 (.faddr 40 0 (.t 3) 0),
 oo 124 (.load 3 none (.t 123)),
 oo 125 (.faddr 40 3 (.t 3) 3),
 oo 126 (.load 24 none (.t 125)),
 oo 127 (.load 37 (some 7) (.t 2)),
 oo 128 (.load 40 (some 6) (.t 3)),
 oc 129 86 [(false, (.t 127)), (false, (.t 128))] [37, 40],
 oc 130 87 [(false, (.t 124)), (false, (.t 126)), (false, (.t 129))] [3, 24, 34],
 oo 131 (.ext (.t 130) 0),
 oo 132 (.ext (.t 130) 1),
 oo 4 (.asg (.t 131)),
 oo 5 (.asg (.t 132))]
def a7v : IC := (.seq (.reg d2g) (.seq (.reg d2o) (.seq (.seq (.reg d3z) (.cond (.t 22) (.seq (.seq (.reg d27) (.cond (.t 32) (.seq (.draw d0j [[], [], [0, 1, 0, 1]]) .ret) .skip)) (.seq (.reg d1a) (.seq (.reg d1x) (.seq (.block 0 (.seq (.reg d2d) (.cond (.t 39) (.reg d00) (.seq (.reg c7t) (.cond (.t 60) (.reg c6a) (.seq (.draw d2e [[], [], [0, 1, 0, 1]]) .ret)))))) (.seq (.seq (.reg c7s) (.cond (.t 84) (.seq (.draw c6l [[], [], [0, 1, 0, 1]]) .ret) .skip)) (.seq (.reg c4k) .ret)))))) .skip)) (.seq (.draw c5j [[], [0], [], [2], [], [], [4, 5], [1, 3, 6, 6], [7], [8], [8], [], [11, 9, 7, 0, 1, 2, 3, 4, 5, 6, 7, 8, 9, 11], [10, 12, 0, 1, 2, 3, 4, 5, 6, 7, 8, 9, 10, 11, 12]]) (.seq (.seq (.reg c4x) (.cond (.t 98) (.seq (.reg c4o) .ret) .skip)) (.seq (.seq (.reg c7i) (.cond (.t 104) (.seq (.draw c8s [[], [], [0, 1, 0, 1]]) .ret) .skip)) (.seq (.seq (.reg c52) (.block 1 (.loop a5r))) (.seq (.draw c59 [[], [0], [], [2], [], [], [4, 5], [1, 3, 6, 6], [7], [7], [8, 7, 0, 1, 2, 3, 4, 5, 6, 7, 8, 9], [9, 10, 0, 1, 2, 3, 4, 5, 6, 7, 8, 9, 10]]) .ret))))))))
abbrev b1e : Nat := 64
theorem a5w : fnC pg 64 133 [(.tmp 4), (.tmp 5)] a7v := a0x Go.Proofs.Tryd.f64 [(.tmp 4), (.tmp 5)] (by kernel_rfl)
@[go_sem] theorem e5s : fnB pg 64 = true := by kernel_rfl
@[go_sem] def c6w : List AO := [oo 2 (.box 37 7 (.t 0)),
 oo 3 (.box 40 6 (.t 1)),
 oo 4 (.asg (.nl 2))]
@[go_sem] def c7d : List AO := [oo 5 (.asg (.nl 2))]
@[go_sem] def c4e : List AO := [oo 8 (.faddr 40 2 (.t 3) 2),
 oo 9 (.load 24 none (.t 8)),
 oo 10 (.len 24 false (.t 9)),
 oo 11 (.mv (.n 0))]
@[go_sem] def c6h : List AO := [oo 12 (.bin .lss 3 0 (.t 11) (.t 10) 3)]
@[go_sem] def c6p : List AO := [oo 13 (.iaddr 24 1 (.t 9) (.t 11)),
 oo 14 (.load 3 none (.t 13)),
 oo 7 (.asg (.t 14))]
@[go_sem] def c68 : List AO := [om 15 5,
 oo 16 (.faddr 37 1 (.t 2) 1),
 oo 17 (.load 32 none (.t 16)),
 om 18 7,
 oo 19 (.iaddr 32 3 (.t 17) (.t 18)),
 oo 20 (.faddr 28 1 (.t 19) 1),
 oo 21 (.load 26 (some 2) (.t 20)),
 oo 22 (.bslice 34 26 2 1 [.own 1 0 [], .lit (.bool false)] [(0, (.t 21))]),
 oo 23 (.app 34 26 2 32 (.t 15) (.t 22)),
 oo 5 (.asg (.t 23))]
@[go_sem] def c84 : List AO := [oo 24 (.bin .add 3 0 (.t 11) (.n 1) 3),
 om 11 24]
def a45 : IC := (.seq (.reg c6h) (.seq (.cond (.t 12) .skip (.exit 0)) (.seq (.block 1 (.seq (.reg c6p) (.reg c68))) (.reg c84))))
@[go_sem] def c7g : List AO := [om 25 5,
 oo 4 (.asg (.t 25))]
def b5z : IC := (.seq (.reg c6w) (.seq (.reg c7d) (.seq (.seq (.reg c4e) (.block 0 (.loop a45))) (.seq (.reg c7g) .ret))))
abbrev d17 : Nat := 86
theorem b9c : fnC pg 86 26 [(.tmp 4)] b5z := a0x Go.Proofs.Tryd.f86 [(.tmp 4)] (by kernel_rfl)
@[go_sem] theorem e5n : fnB pg 86 = true := by kernel_rfl
@[go_sem] def c8z : List AO := [oo 2 (.box 37 7 (.t 0)),
 oo 3 (.box 40 6 (.t 1)),
 oo 4 (.asg (.n 0)),
 oo 5 (.asg (.c .nilIface))]
@[go_sem] def c8k : List AO := [oo 13 (.load 40 (some 6) (.t 3)),
 oc 14 62 [(false, (.t 13))] [40],
 oo 15 (.un .not 4 (.t 14)),
 om 16 15,
 og 17 (.faddr 40 0 (.t 3) 0) 3 16 true,
 og 18 (.load 3 none (.t 17)) 3 16 true,
 og 19 (.bin .lss 3 0 (.t 18) (.n 22) 3) 3 16 true,
 og 20 (.mv (.t 19)) 3 16 true,
 og 21 (.faddr 40 0 (.t 3) 0) 7 20 false,
 og 22 (.load 3 none (.t 21)) 7 20 false,
 og 23 (.bin .gtr 3 0 (.t 22) (.n 24) 3) 7 20 false,
 og 24 (.pick (.t 20) (.c (.bool true)) (.t 23)) 3 16 true,
 oo 25 (.pick (.t 16) (.t 24) (.c (.bool false)))]
@[go_sem] def c7j : List AO := [oo 26 (.load 45 none (.g 4)),
 oo 4 (.asg (.n 0)),
 oo 5 (.asg (.t 26))]
@[go_sem] def c54 : List AO := [oo 27 (.load 40 (some 6) (.t 3)),
 oc 28 62 [(false, (.t 27))] [40],
 om 29 28,
 og 30 (.load 37 (some 7) (.t 2)) 2 29 true,
 og 31 (.faddr 40 1 (.t 3) 1) 2 29 true,
 og 32 (.load 3 none (.t 31)) 2 29 true,
 ⟨(some 33), .call 60 [(false, (.t 30)), (false, (.t 32))] [37, 3], (some (2, 29, true))⟩,
 og 34 (.un .not 4 (.t 33)) 2 29 true,
 oo 35 (.pick (.t 29) (.t 34) (.c (.bool false)))]
@[go_sem] def c8y : List AO := [oo 36 (.load 45 none (.g 0)),
 oo 4 (.asg (.n 0)),
 oo 5 (.asg (.t 36))]
@[go_sem] def c5z : List AO := [oo 37 (.faddr 40 2 (.t 3) 2),
 oo 38 (.load 24 none (.t 37)),
 oo 39 (.len 24 false (.t 38)),
 oo 40 (.mv (.n 0))]
@[go_sem] def c7h : List AO := [oo 41 (.bin .lss 3 0 (.t 40) (.t 39) 3)]
@[go_sem] def c4z : List AO := [oo 42 (.iaddr 24 1 (.t 38) (.t 40)),
 oo 43 (.load 3 none (.t 42)),
 oo 7 (.asg (.t 43))]
@[go_sem] def c5k : List AO := [oo 44 (.load 37 (some 7) (.t 2)),
 om 45 7,
 oc 46 60 [(false, (.t 44)), (false, (.t 45))] [37, 3],
 oo 47 (.un .not 4 (.t 46))]
@[go_sem] def c4y : List AO := [oo 48 (.load 45 none (.g 0)),
 oo 4 (.asg (.n 0)),
 oo 5 (.asg (.t 48))]
@[go_sem] def c3f : List AO := [oo 49 (.bin .add 3 0 (.t 40) (.n 1) 3),
 om 40 49]
def a44 : IC := (.seq (.reg c7h) (.seq (.cond (.t 41) .skip (.exit 0)) (.seq (.block 1 (.seq (.reg c4z) (.seq (.reg c5k) (.cond (.t 47) (.seq (.draw c4y [[], [], [0, 1, 0, 1]]) .ret) .skip)))) (.reg c3f))))
@[go_sem] def c34 : List AO := [oo 50 (.load 40 (some 6) (.t 3)),
 oc 51 62 [(false, (.t 50))] [40],
 oo 52 (.un .not 4 (.t 51))]
@[go_sem] def c3a : List AO := [oo 53 (.load 37 (some 7) (.t 2)),
 oo 54 (.load 40 (some 6) (.t 3)),
 oc 55 63 [(false, (.t 53)), (false, (.t 54))] [37, 40],
 oo 8 (.asg (.t 55))]
@[go_sem] def c23 : List AO := [om 56 8,
 oo 57 (.bin .neq 45 2 (.t 56) (.c .nilIface) 45)]
@[go_sem] def b9y : List AO := [om 58 8,
 oo 4 (.asg (.n 0)),
 oo 5 (.asg (.t 58))]
@[go_sem] def c4b : List AO := [oo 59 (.faddr 40 1 (.t 3) 1),
 oo 60 (.load 3 none (.t 59)),
 oo 61 (.bin .neq 3 0 (.t 60) (.n 0) 3),
 om 62 61,
 og 63 (.faddr 40 4 (.t 3) 4) 3 62 false,
 og 64 (.load 3 none (.t 63)) 3 62 false,
 og 65 (.bin .neq 3 0 (.t 64) (.n 0) 3) 3 62 false,
 oo 66 (.pick (.t 62) (.c (.bool true)) (.t 65)),
 om 67 66,
 og 68 (.faddr 40 5 (.t 3) 5) 8 67 false,
 og 69 (.load 3 none (.t 68)) 8 67 false,
 og 70 (.bin .neq 3 0 (.t 69) (.n 0) 3) 8 67 false,
 oo 71 (.pick (.t 67) (.c (.bool true)) (.t 70))]
@[go_sem] def c07 : List AO := [oo 72 (.load 45 none (.g 3)),
 oo 4 (.asg (.n 0)),
 oo 5 (.asg (.t 72))]
@[go_sem] def c1o : List AO := [oo 4 (.asg (.n 1)),
 oo 5 (.asg (.c .nilIface))]
@[go_sem] def c1k : List AO := [oo 74 (.load 37 (some 7) (.t 2)),
 oo 75 (.load 40 (some 6) (.t 3)),
 oc 76 64 [(false, (.t 74)), (false, (.t 75))] [37, 40],
 oo 73 (.mva (.t 76)),
 oo 77 (.ext (.t 73) 0),
 oo 78 (.ext (.t 73) 1),
 oo 9 (.asg (.t 77)),
 oo 10 (.asg (.t 78))]
@[go_sem] def c1x : List AO := [om 79 10,
 oo 80 (.bin .neq 45 2 (.t 79) (.c .nilIface) 45)]
@[go_sem] def c1f : List AO := [om 81 10,
 oo 4 (.asg (.n 0)),
 oo 5 (.asg (.t 81))]
@[go_sem] def c05 : List AO := [oo 82 (.faddr 37 1 (.t 2) 1),
 oo 83 (.load 32 none (.t 82)),
 oo 84 (.faddr 40 1 (.t 3) 1),
 oo 85 (.load 3 none (.t 84)),
 oo 86 (.iaddr 32 3 (.t 83) (.t 85)),
 oo 87 (.faddr 28 1 (.t 86) 1),
 oo 88 (.faddr 26 0 (.t 87) 0),
 oo 89 (.load 24 none (.t 88)),
 oc 90 56 [(false, (.t 89))] [24],
 oo 11 (.asg (.t 90))]
@[go_sem] def c1r : List AO := [oo 91 (.faddr 40 4 (.t 3) 4),
 oo 92 (.load 3 none (.t 91)),
 oo 93 (.bin .lss 3 0 (.t 92) (.n 0) 3),
 om 94 93,
 og 95 (.faddr 40 4 (.t 3) 4) 3 94 false,
 og 96 (.load 3 none (.t 95)) 3 94 false,
 og 97 (.faddr 40 5 (.t 3) 5) 3 94 false,
 og 98 (.load 3 none (.t 97)) 3 94 false,
 og 99 (.bin .gtr 3 0 (.t 96) (.t 98) 3) 3 94 false,
 oo 100 (.pick (.t 94) (.c (.bool true)) (.t 99)),
 om 101 100,
 og 102 (.faddr 40 5 (.t 3) 5) 10 101 false,
 og 103 (.load 3 none (.t 102)) 10 101 false,
 og 104 (.mv (.t 11)) 10 101 false,
 og 105 (.bin .gtr 3 0 (.t 103) (.t 104) 3) 10 101 false,
 oo 106 (.pick (.t 101) (.c (.bool true)) (.t 105))]
@[go_sem] def c3s : List AO := [oo 107 (.load 45 none (.g 3)),
 oo 4 (.asg (.n 0)),
 oo 5 (.asg (.t 107))]
@[go_sem] def c1s : List AO := [oo 108 (.faddr 40 5 (.t 3) 5),
 oo 109 (.load 3 none (.t 108)),
 oo 110 (.faddr 40 4 (.t 3) 4),
 oo 111 (.load 3 none (.t 110)),
 oo 112 (.bin .sub 3 0 (.t 109) (.t 111) 3),
 om 113 9,
 oo 114 (.bin .mul 3 0 (.t 112) (.t 113) 3),
 oo 115 (.mm true [3, 3] [(.t 114), (.n 1)]),
 oo 12 (.asg (.t 115))]
@[go_sem] def c01 : List AO := [om 116 12,
 oo 117 (.bin .gtr 3 0 (.t 116) (.n 1024) 3)]
@[go_sem] def c11 : List AO := [oo 118 (.load 45 none (.g 5)),
 oo 4 (.asg (.n 0)),
 oo 5 (.asg (.t 118))]
@[go_sem] def c0s : List AO := [om 119 12,
 oo 4 (.asg (.t 119)),
 oo 5 (.asg (.c .nilIface))]
def b4v : IC := (.seq (.reg c8z) (.seq (.seq (.reg c8k) (.cond (.t 25) (.seq (.draw c7j [[], [], [0, 1, 0, 1]]) .ret) .skip)) (.seq (.seq (.reg c54) (.cond (.t 35) (.seq (.draw c8y [[], [], [0, 1, 0, 1]]) .ret) .skip)) (.seq (.seq (.reg c5z) (.block 0 (.loop a44))) (.seq (.seq (.reg c34) (.cond (.t 52) (.seq (.seq (.reg c3a) (.seq (.reg c23) (.cond (.t 57) (.seq (.reg b9y) .ret) .skip))) (.seq (.seq (.reg c4b) (.cond (.t 71) (.seq (.draw c07 [[], [], [0, 1, 0, 1]]) .ret) .skip)) (.seq (.reg c1o) .ret))) .skip)) (.seq (.reg c1k) (.seq (.seq (.reg c1x) (.cond (.t 80) (.seq (.reg c1f) .ret) .skip)) (.seq (.reg c05) (.seq (.seq (.reg c1r) (.cond (.t 106) (.seq (.draw c3s [[], [], [0, 1, 0, 1]]) .ret) .skip)) (.seq (.reg c1s) (.seq (.seq (.reg c01) (.cond (.t 117) (.seq (.draw c11 [[], [], [0, 1, 0, 1]]) .ret) .skip)) (.seq (.reg c0s) .ret))))))))))))
abbrev d2a : Nat := 43
theorem b8w : fnC pg 43 120 [(.tmp 4), (.tmp 5)] b4v := a0x Go.Proofs.Tryd.f43 [(.tmp 4), (.tmp 5)] (by kernel_rfl)
@[go_sem] theorem e23 : fnB pg 43 = true := by kernel_rfl
@[go_sem] def d0y : List AO := [oo 2 (.box 37 7 (.t 0)),
 oo 4 (.asg (.n 0)),
 oo 5 (.asg (.c .nilIface))]
@[go_sem] def d1z : List AO := [om 6 1,
 oo 7 (.bin .lss 3 0 (.t 6) (.n 0) 3),
 om 8 7,
 og 9 (.mv (.t 1)) 2 8 false,
 og 10 (.faddr 37 4 (.t 2) 4) 2 8 false,
 og 11 (.load 35 none (.t 10)) 2 8 false,
 og 12 (.len 35 false (.t 11)) 2 8 false,
 og 13 (.bin .geq 3 0 (.t 9) (.t 12) 3) 2 8 false,
 oo 14 (.pick (.t 8) (.c (.bool true)) (.t 13))]
@[go_sem] def d3f : List AO := [oo 15 (.load 45 none (.g 0)),
 oo 4 (.asg (.n 0)),
 oo 5 (.asg (.t 15))]
@[go_sem] def d3k : List AO := [oo 16 (.load 37 (some 7) (.t 2)),
 oo 17 (.faddr 37 4 (.t 2) 4),
 oo 18 (.load 35 none (.t 17)),
 om 19 1,
 oo 20 (.iaddr 35 6 (.t 18) (.t 19)),
 oo 21 (.load 40 (some 6) (.t 20)),
 oc 22 43 [(false, (.t 16)), (false, (.t 21))] [37, 40],
 oo 23 (.ext (.t 22) 0),
 oo 24 (.ext (.t 22) 1),
 oo 4 (.asg (.t 23)),
 oo 5 (.asg (.t 24))]
def b8a : IC := (.seq (.reg d0y) (.seq (.seq (.reg d1z) (.cond (.t 14) (.seq (.draw d3f [[], [], [0, 1, 0, 1]]) .ret) .skip)) (.seq (.draw d3k [[], [], [1], [], [2, 3], [4], [0, 5], [6], [6], [7, 6, 0, 1, 2, 3, 4, 5, 6, 7, 8], [8, 9, 0, 1, 2, 3, 4, 5, 6, 7, 8, 9]]) .ret)))
abbrev d4t : Nat := 21
theorem c27 : fnC pg 21 25 [(.tmp 4), (.tmp 5)] b8a := a0x Go.Proofs.Tryd.f21 [(.tmp 4), (.tmp 5)] (by kernel_rfl)
@[go_sem] theorem e50 : fnB pg 21 = true := by kernel_rfl
@[go_sem] def c88 : List AO := [oo 2 (.box 37 7 (.t 0)),
 oo 4 (.asg (.c .nilIface))]
@[go_sem] def c80 : List AO := [oo 8 (.load 37 (some 7) (.t 2)),
 om 9 1,
 oc 10 21 [(false, (.t 8)), (false, (.t 9))] [37, 3],
 oo 7 (.mva (.t 10)),
 oo 11 (.ext (.t 7) 0),
 oo 12 (.ext (.t 7) 1),
 oo 5 (.asg (.t 11)),
 oo 6 (.asg (.t 12))]
@[go_sem] def c8t : List AO := [om 13 6,
 oo 4 (.asg (.t 13))]
def b41 : IC := (.seq (.reg c88) (.seq (.reg c80) (.seq (.reg c8t) .ret)))
abbrev d0n : Nat := 38
theorem b9b : fnC pg 38 14 [(.tmp 4)] b41 := a0x Go.Proofs.Tryd.f38 [(.tmp 4)] (by kernel_rfl)
@[go_sem] theorem e21 : fnB pg 38 = true := by kernel_rfl
@[go_sem] def c7p : List AO := [oo 1 (.box 37 7 (.t 0)),
 oo 2 (.asg (.n 0)),
 oo 3 (.asg (.c .nilIface))]
@[go_sem] def c67 : List AO := [oo 9 (.load 37 (some 7) (.t 1)),
 oc 10 18 [(false, (.t 9))] [37],
 oo 4 (.asg (.t 10))]
@[go_sem] def c4q : List AO := [om 11 4,
 oo 12 (.bin .neq 45 2 (.t 11) (.c .nilIface) 45)]
@[go_sem] def c6q : List AO := [om 13 4,
 oo 2 (.asg (.n 0)),
 oo 3 (.asg (.t 13))]
@[go_sem] def c46 : List AO := [oo 5 (.asg (.n 0))]
@[go_sem] def c49 : List AO := [oo 14 (.faddr 37 4 (.t 1) 4),
 oo 15 (.load 35 none (.t 14)),
 oo 16 (.len 35 false (.t 15)),
 oo 17 (.mv (.n 0))]
@[go_sem] def c5y : List AO := [oo 18 (.bin .lss 3 0 (.t 17) (.t 16) 3)]
@[go_sem] def c5f : List AO := [om 19 17,
 oo 6 (.asg (.t 19))]
@[go_sem] def c8b : List AO := [oo 21 (.load 37 (some 7) (.t 1)),
 om 22 6,
 oc 23 21 [(false, (.t 21)), (false, (.t 22))] [37, 3],
 oo 20 (.mva (.t 23)),
 oo 24 (.ext (.t 20) 0),
 oo 25 (.ext (.t 20) 1),
 oo 7 (.asg (.t 24)),
 oo 8 (.asg (.t 25))]
@[go_sem] def c5h : List AO := [om 26 5,
 om 27 7,
 oo 28 (.bin .add 3 0 (.t 26) (.t 27) 3),
 oo 5 (.asg (.t 28))]
@[go_sem] def c3e : List AO := [oo 29 (.bin .add 3 0 (.t 17) (.n 1) 3),
 om 17 29]
def a41 : IC := (.seq (.reg c5y) (.seq (.cond (.t 18) .skip (.exit 0)) (.seq (.block 1 (.seq (.reg c5f) (.seq (.reg c8b) (.reg c5h)))) (.reg c3e))))
@[go_sem] def b99 : List AO := [om 30 5,
 oo 2 (.asg (.t 30)),
 oo 3 (.asg (.c .nilIface))]
def b5m : IC := (.seq (.reg c7p) (.seq (.seq (.reg c67) (.seq (.reg c4q) (.cond (.t 12) (.seq (.reg c6q) .ret) .skip))) (.seq (.reg c46) (.seq (.seq (.reg c49) (.block 0 (.loop a41))) (.seq (.reg b99) .ret)))))
abbrev b46 : Nat := 22
theorem b8t : fnC pg 22 31 [(.tmp 2), (.tmp 3)] b5m := a0x Go.Proofs.Tryd.f22 [(.tmp 2), (.tmp 3)] (by kernel_rfl)
@[go_sem] theorem e2e : fnB pg 22 = true := by kernel_rfl
@[go_sem] def d6p : List AO := [oo 2 (.asg (.c (.bool false)))]
@[go_sem] def d69 : List AO := [om 3 0,
 oo 4 (.bin .geq 3 0 (.t 3) (.n 4) 3),
 om 5 4,
 og 6 (.mv (.t 0)) 2 5 true,
 og 7 (.bin .leq 3 0 (.t 6) (.n 21) 3) 2 5 true,
 oo 8 (.pick (.t 5) (.t 7) (.c (.bool false))),
 oo 2 (.asg (.t 8))]
def c9f : IC := (.seq (.reg d6p) (.seq (.reg d69) .ret))
abbrev e1d : Nat := 67
theorem d0l : fnC pg 67 9 [(.tmp 2)] c9f := a0x Go.Proofs.Tryd.f67 [(.tmp 2)] (by kernel_rfl)
@[go_sem] theorem e8h : fnB pg 67 = true := by kernel_rfl
@[go_sem] def e5o : List AO := [oo 2 (.asg (.n 0))]
@[go_sem] def e4s : List AO := [om 3 0]
@[go_sem] def e4d : List AO := [oo 5 (.bin .eql 3 0 (.t 3) (.n 4) 3),
 oo 4 (.asg (.t 5))]
@[go_sem] def e2i : List AO := [oo 6 (.bin .eql 3 0 (.t 3) (.n 5) 3),
 oo 4 (.asg (.t 6))]
@[go_sem] def e4j : List AO := [oo 7 (.bin .eql 3 0 (.t 3) (.n 6) 3),
 oo 4 (.asg (.t 7))]
@[go_sem] def e4i : List AO := [oo 8 (.bin .eql 3 0 (.t 3) (.n 7) 3),
 oo 4 (.asg (.t 8))]
@[go_sem] def e4r : List AO := [oo 9 (.bin .eql 3 0 (.t 3) (.n 12) 3),
 oo 4 (.asg (.t 9))]
@[go_sem] def e29 : List AO := [oo 10 (.bin .eql 3 0 (.t 3) (.n 13) 3),
 oo 4 (.asg (.t 10))]
@[go_sem] def e39 : List AO := [oo 11 (.bin .eql 3 0 (.t 3) (.n 16) 3),
 oo 4 (.asg (.t 11))]
@[go_sem] def e30 : List AO := [oo 12 (.bin .eql 3 0 (.t 3) (.n 17) 3),
 oo 4 (.asg (.t 12))]
@[go_sem] def e08 : List AO := [oo 2 (.asg (.n 2))]
@[go_sem] def e1x : List AO := [om 13 0,
 oc 14 67 [(false, (.t 13))] [3]]
@[go_sem] def e1l : List AO := [oo 2 (.asg (.n 1))]
@[go_sem] def e1w : List AO := [oo 2 (.asg (.n 0))]
def d1u : IC := (.seq (.reg e5o) (.seq (.seq (.reg e4s) (.block 0 (.seq (.seq (.reg e4d) (.cond (.t 4) .skip (.seq (.reg e2i) (.cond (.t 4) .skip (.seq (.reg e4j) (.cond (.t 4) .skip (.seq (.reg e4i) (.cond (.t 4) .skip (.seq (.reg e4r) (.cond (.t 4) .skip (.seq (.reg e29) (.cond (.t 4) .skip (.seq (.reg e39) (.cond (.t 4) .skip (.reg e30))))))))))))))) (.cond (.t 4) (.seq (.reg e08) .ret) .skip)))) (.seq (.seq (.reg e1x) (.cond (.t 14) (.seq (.reg e1l) .ret) .skip)) (.seq (.reg e1w) .ret))))
abbrev e6q : Nat := 89
theorem d6o : fnC pg 89 15 [(.tmp 2)] d1u := a0x Go.Proofs.Tryd.f89 [(.tmp 2)] (by kernel_rfl)
@[go_sem] theorem f4y : fnB pg 89 = true := by kernel_rfl
@[go_sem] def e1f : List AO := [oo 2 (.asg (.n 0))]
@[go_sem] def e0c : List AO := [om 3 0]
@[go_sem] def d93 : List AO := [oo 5 (.bin .eql 3 0 (.t 3) (.n 9) 3),
 oo 4 (.asg (.t 5))]
@[go_sem] def e1b : List AO := [oo 6 (.bin .eql 3 0 (.t 3) (.n 12) 3),
 oo 4 (.asg (.t 6))]
@[go_sem] def e0s : List AO := [oo 7 (.bin .eql 3 0 (.t 3) (.n 14) 3),
 oo 4 (.asg (.t 7))]
@[go_sem] def e14 : List AO := [oo 8 (.bin .eql 3 0 (.t 3) (.n 15) 3),
 oo 4 (.asg (.t 8))]
@[go_sem] def e1z : List AO := [oo 2 (.asg (.n 2))]
@[go_sem] def e1s : List AO := [oo 10 (.bin .eql 3 0 (.t 3) (.n 10) 3),
 oo 9 (.asg (.t 10))]
@[go_sem] def e0z : List AO := [oo 11 (.bin .eql 3 0 (.t 3) (.n 13) 3),
 oo 9 (.asg (.t 11))]
@[go_sem] def d94 : List AO := [oo 2 (.asg (.n 3))]
@[go_sem] def d7v : List AO := [oo 13 (.bin .eql 3 0 (.t 3) (.n 11) 3),
 oo 12 (.asg (.t 13))]
@[go_sem] def d6q : List AO := [oo 2 (.asg (.n 1))]
@[go_sem] def d72 : List AO := [oo 2 (.asg (.n 0))]
def c3z : IC := (.seq (.reg e1f) (.seq (.seq (.reg e0c) (.block 0 (.seq (.seq (.reg d93) (.cond (.t 4) .skip (.seq (.reg e1b) (.cond (.t 4) .skip (.seq (.reg e0s) (.cond (.t 4) .skip (.reg e14))))))) (.cond (.t 4) (.seq (.reg e1z) .ret) (.seq (.seq (.reg e1s) (.cond (.t 9) .skip (.reg e0z))) (.cond (.t 9) (.seq (.reg d94) .ret) (.seq (.reg d7v) (.cond (.t 12) (.seq (.reg d6q) .ret) .skip)))))))) (.seq (.reg d72) .ret)))
abbrev e4z : Nat := 90
theorem d6b : fnC pg 90 14 [(.tmp 2)] c3z := a0x Go.Proofs.Tryd.f90 [(.tmp 2)] (by kernel_rfl)
@[go_sem] theorem f0z : fnB pg 90 = true := by kernel_rfl
@[go_sem] def d5q : List AO := [oo 6 (.alloc 26 [.own 1 0 [], .lit (.bool false)]),
 oo 7 (.asg (.c .nilIface))]
@[go_sem] def d4w : List AO := [om 8 0,
 oc 9 67 [(false, (.t 8))] [3],
 oo 10 (.un .not 4 (.t 9))]
@[go_sem] def d48 : List AO := [oo 11 (.build 26 [.sl 0 [], .lit (.bool false)] []),
 oo 12 (.load 45 none (.g 4)),
 ov (.store 26 2 (.t 6) (.t 11)),
 oo 7 (.asg (.t 12))]
@[go_sem] def d4q : List AO := [om 13 2,
 oo 14 (.len 34 false (.t 13)),
 om 15 0,
 oc 16 89 [(false, (.t 15))] [3],
 oo 17 (.bin .neq 3 0 (.t 14) (.t 16) 3),
 om 18 17,
 og 19 (.mv (.t 0)) 5 18 false,
 og 20 (.bin .neq 3 0 (.t 19) (.n 18) 3) 5 18 false,
 og 21 (.mv (.t 20)) 5 18 false,
 og 22 (.mv (.t 1)) 8 21 true,
 og 23 (.len 24 false (.t 22)) 8 21 true,
 og 24 (.mv (.t 0)) 8 21 true,
 ⟨(some 25), .call 90 [(false, (.t 24))] [3], (some (8, 21, true))⟩,
 og 26 (.bin .neq 3 0 (.t 23) (.t 25) 3) 8 21 true,
 og 27 (.pick (.t 21) (.t 26) (.c (.bool false))) 5 18 false,
 oo 28 (.pick (.t 18) (.c (.bool true)) (.t 27))]
@[go_sem] def d6e : List AO := [oo 29 (.build 26 [.sl 0 [], .lit (.bool false)] []),
 oo 30 (.load 45 none (.g 7)),
 ov (.store 26 2 (.t 6) (.t 29)),
 oo 7 (.asg (.t 30))]
@[go_sem] def d6d : List AO := [om 31 0]
@[go_sem] def d56 : List AO := [oo 33 (.bin .eql 3 0 (.t 31) (.n 12) 3),
 oo 32 (.asg (.t 33))]
@[go_sem] def d54 : List AO := [om 34 1,
 oo 35 (.iaddr 24 1 (.t 34) (.n 0)),
 oo 36 (.load 3 none (.t 35)),
 om 37 1,
 oo 38 (.iaddr 24 1 (.t 37) (.n 1)),
 oo 39 (.load 3 none (.t 38)),
 om 40 2,
 oo 41 (.iaddr 34 2 (.t 40) (.n 0)),
 oo 42 (.load 26 (some 2) (.t 41)),
 om 43 2,
 oo 44 (.iaddr 34 2 (.t 43) (.n 1)),
 oo 45 (.load 26 (some 2) (.t 44)),
 oc 46 91 [(false, (.t 36)), (false, (.t 39)), (false, (.t 42)), (false, (.t 45))] [3, 3, 26, 26],
 oo 47 (.ext (.t 46) 0),
 oo 48 (.ext (.t 46) 1),
 ov (.store 26 2 (.t 6) (.t 47)),
 oo 7 (.asg (.t 48))]
@[go_sem] def d4c : List AO := [oo 50 (.bin .eql 3 0 (.t 31) (.n 13) 3),
 oo 49 (.asg (.t 50))]
@[go_sem] def d4n : List AO := [om 51 1,
 om 52 2,
 oo 53 (.iaddr 34 2 (.t 52) (.n 0)),
 oo 54 (.load 26 (some 2) (.t 53)),
 om 55 2,
 oo 56 (.iaddr 34 2 (.t 55) (.n 1)),
 oo 57 (.load 26 (some 2) (.t 56)),
 oc 58 92 [(false, (.t 51)), (false, (.t 54)), (false, (.t 57))] [24, 26, 26],
 oo 59 (.ext (.t 58) 0),
 oo 60 (.ext (.t 58) 1),
 ov (.store 26 2 (.t 6) (.t 59)),
 oo 7 (.asg (.t 60))]
@[go_sem] def d2c : List AO := [oo 62 (.bin .eql 3 0 (.t 31) (.n 14) 3),
 oo 61 (.asg (.t 62))]
@[go_sem] def d1f : List AO := [oo 63 (.bin .eql 3 0 (.t 31) (.n 15) 3),
 oo 61 (.asg (.t 63))]
@[go_sem] def d25 : List AO := [om 64 1,
 om 65 2,
 oo 66 (.iaddr 34 2 (.t 65) (.n 0)),
 oo 67 (.load 26 (some 2) (.t 66)),
 oc 68 93 [(false, (.t 64)), (false, (.t 67))] [24, 26],
 oo 69 (.ext (.t 68) 0),
 oo 70 (.ext (.t 68) 1),
 ov (.store 26 2 (.t 6) (.t 69)),
 oo 7 (.asg (.t 70))]
@[go_sem] def d2n : List AO := [oo 72 (.bin .eql 3 0 (.t 31) (.n 16) 3),
 oo 71 (.asg (.t 72))]
@[go_sem] def d18 : List AO := [oo 73 (.bin .eql 3 0 (.t 31) (.n 19) 3),
 oo 71 (.asg (.t 73))]
@[go_sem] def d3n : List AO := [oo 74 (.bin .eql 3 0 (.t 31) (.n 20) 3),
 oo 71 (.asg (.t 74))]
@[go_sem] def d16 : List AO := [oo 75 (.bin .eql 3 0 (.t 31) (.n 17) 3),
 oo 71 (.asg (.t 75))]
@[go_sem] def d24 : List AO := [om 76 0,
 om 77 2,
 oc 78 94 [(false, (.t 76)), (false, (.t 77))] [3, 34],
 oo 79 (.ext (.t 78) 0),
 oo 80 (.ext (.t 78) 1),
 ov (.store 26 2 (.t 6) (.t 79)),
 oo 7 (.asg (.t 80))]
@[go_sem] def d08 : List AO := [oo 82 (.bin .eql 3 0 (.t 31) (.n 18) 3),
 oo 81 (.asg (.t 82))]
@[go_sem] def d0k : List AO := [om 83 1,
 om 84 2,
 oo 85 (.iaddr 34 2 (.t 84) (.n 0)),
 oo 86 (.load 26 (some 2) (.t 85)),
 oc 87 95 [(false, (.t 83)), (false, (.t 86))] [24, 26],
 oo 88 (.ext (.t 87) 0),
 oo 89 (.ext (.t 87) 1),
 ov (.store 26 2 (.t 6) (.t 88)),
 oo 7 (.asg (.t 89))]
@[go_sem] def d2x : List AO := [oo 91 (.bin .eql 3 0 (.t 31) (.n 21) 3),
 oo 90 (.asg (.t 91))]
@[go_sem] def d11 : List AO := [om 92 2,
 oo 93 (.iaddr 34 2 (.t 92) (.n 0)),
 oo 94 (.load 26 (some 2) (.t 93)),
 oc 95 96 [(false, (.t 94))] [26],
 oo 96 (.ext (.t 95) 0),
 oo 97 (.ext (.t 95) 1),
 ov (.store 26 2 (.t 6) (.t 96)),
 oo 7 (.asg (.t 97))]
@[go_sem] def d0d : List AO := [om 98 0,
 om 99 1,
 om 100 2,
 oc 101 97 [(false, (.t 98)), (false, (.t 99)), (false, (.t 100))] [3, 24, 34],
 oo 102 (.ext (.t 101) 0),
 oo 103 (.ext (.t 101) 1),
 ov (.store 26 2 (.t 6) (.t 102)),
 oo 7 (.asg (.t 103))]
def c2w : IC := (.seq (.reg d5q) (.seq (.seq (.reg d4w) (.cond (.t 10) (.seq (.draw d48 [[], [], [0, 0], [1, 2, 0, 1, 2]]) .ret) .skip)) (.seq (.seq (.reg d4q) (.cond (.t 28) (.seq (.draw d6e [[], [], [0, 0], [1, 2, 0, 1, 2]]) .ret) .skip)) (.seq (.seq (.reg d6d) (.block 0 (.seq (.reg d56) (.cond (.t 32) (.seq (.draw d54 [[], [0], [1], [], [3], [4], [], [6], [7], [], [9], [10], [2, 5, 8, 11], [12], [12], [13, 12, 0, 1, 2, 3, 4, 5, 6, 7, 8, 9, 10, 11, 12, 13, 14], [14, 15, 0, 1, 2, 3, 4, 5, 6, 7, 8, 9, 10, 11, 12, 13, 14, 15]]) .ret) (.seq (.reg d4c) (.cond (.t 49) (.seq (.draw d4n [[], [], [1], [2], [], [4], [5], [0, 3, 6], [7], [7], [8, 7, 0, 1, 2, 3, 4, 5, 6, 7, 8, 9], [9, 10, 0, 1, 2, 3, 4, 5, 6, 7, 8, 9, 10]]) .ret) (.seq (.seq (.reg d2c) (.cond (.t 61) .skip (.reg d1f))) (.cond (.t 61) (.seq (.reg d25) .ret) (.seq (.seq (.reg d2n) (.cond (.t 71) .skip (.seq (.reg d18) (.cond (.t 71) .skip (.seq (.reg d3n) (.cond (.t 71) .skip (.reg d16))))))) (.cond (.t 71) (.seq (.reg d24) .ret) (.seq (.reg d08) (.cond (.t 81) (.seq (.reg d0k) .ret) (.seq (.reg d2x) (.cond (.t 90) (.seq (.reg d11) .ret) .skip)))))))))))))) (.seq (.reg d0d) .ret)))))
abbrev d7z : Nat := 68
theorem c8w : fnC pg 68 104 [(.cells 6 2), (.tmp 7)] c2w := a0x Go.Proofs.Tryd.f68 [(.cell 6 26), (.tmp 7)] (by kernel_rfl)
@[go_sem] theorem e6u : fnB pg 68 = true := by kernel_rfl
@[go_sem] def e0n : List AO := [oo 6 (.asg (.n 0)),
 oo 7 (.asg (.c .nilIface))]
@[go_sem] def d90 : List AO := [om 13 0,
 om 14 1,
 om 15 2,
 oc 16 68 [(false, (.t 13)), (false, (.t 14)), (false, (.t 15))] [3, 24, 34],
 oo 12 (.mva (.t 16)),
 oo 17 (.ext (.t 12) 0),
 oo 18 (.ext (.t 12) 1),
 oo 8 (.alloc 26 [.own 1 0 [], .lit (.bool false)]),
 ov (.store 26 2 (.t 8) (.t 17)),
 oo 9 (.asg (.t 18))]
@[go_sem] def e0b : List AO := [om 19 9,
 oo 20 (.bin .neq 45 2 (.t 19) (.c .nilIface) 45)]
@[go_sem] def e09 : List AO := [om 21 9,
 oo 6 (.asg (.n 0)),
 oo 7 (.asg (.t 21))]
@[go_sem] def e1a : List AO := [om 22 2,
 oo 23 (.iaddr 34 2 (.t 22) (.n 0)),
 oo 24 (.faddr 26 0 (.t 23) 0),
 oo 25 (.load 24 none (.t 24)),
 oo 10 (.asg (.t 25))]
@[go_sem] def d9w : List AO := [om 26 0]
@[go_sem] def e0w : List AO := [oo 28 (.bin .eql 3 0 (.t 26) (.n 10) 3),
 oo 27 (.asg (.t 28))]
@[go_sem] def e1c : List AO := [oo 6 (.asg (.n 2)),
 oo 7 (.asg (.c .nilIface))]
@[go_sem] def e1n : List AO := [oo 30 (.bin .eql 3 0 (.t 26) (.n 12) 3),
 oo 29 (.asg (.t 30))]
@[go_sem] def e1g : List AO := [om 31 10,
 oo 32 (.iaddr 24 1 (.t 31) (.n 1)),
 oo 33 (.load 3 none (.t 32)),
 oo 6 (.asg (.t 33)),
 oo 7 (.asg (.c .nilIface))]
@[go_sem] def d6n : List AO := [oo 35 (.bin .eql 3 0 (.t 26) (.n 13) 3),
 oo 34 (.asg (.t 35))]
@[go_sem] def d8m : List AO := [om 36 2,
 oo 37 (.iaddr 34 2 (.t 36) (.n 1)),
 oo 38 (.faddr 26 0 (.t 37) 0),
 oo 39 (.load 24 none (.t 38)),
 oo 11 (.asg (.t 39))]
@[go_sem] def d8j : List AO := [om 40 11,
 oo 41 (.iaddr 24 1 (.t 40) (.n 0)),
 oo 42 (.load 3 none (.t 41)),
 om 43 11,
 oo 44 (.iaddr 24 1 (.t 43) (.n 1)),
 oo 45 (.load 3 none (.t 44)),
 oo 46 (.bin .mul 3 0 (.t 42) (.t 45) 3),
 om 47 11,
 oo 48 (.iaddr 24 1 (.t 47) (.n 2)),
 oo 49 (.load 3 none (.t 48)),
 oo 50 (.bin .mul 3 0 (.t 46) (.t 49) 3),
 oo 6 (.asg (.t 50)),
 oo 7 (.asg (.c .nilIface))]
@[go_sem] def d8s : List AO := [oo 52 (.bin .eql 3 0 (.t 26) (.n 14) 3),
 oo 51 (.asg (.t 52))]
@[go_sem] def d6m : List AO := [oo 53 (.bin .eql 3 0 (.t 26) (.n 15) 3),
 oo 51 (.asg (.t 53))]
@[go_sem] def d8e : List AO := [om 54 1,
 oo 55 (.iaddr 24 1 (.t 54) (.n 0)),
 oo 56 (.load 3 none (.t 55)),
 om 57 1,
 oo 58 (.iaddr 24 1 (.t 57) (.n 0)),
 oo 59 (.load 3 none (.t 58)),
 oo 60 (.bin .mul 3 0 (.t 56) (.t 59) 3),
 oo 6 (.asg (.t 60)),
 oo 7 (.asg (.c .nilIface))]
@[go_sem] def d7b : List AO := [oo 62 (.bin .eql 3 0 (.t 26) (.n 16) 3),
 oo 61 (.asg (.t 62))]
@[go_sem] def d7s : List AO := [oo 63 (.bin .eql 3 0 (.t 26) (.n 19) 3),
 oo 61 (.asg (.t 63))]
@[go_sem] def d8v : List AO := [oo 64 (.bin .eql 3 0 (.t 26) (.n 20) 3),
 oo 61 (.asg (.t 64))]
@[go_sem] def d64 : List AO := [om 65 10,
 om 66 10,
 oo 67 (.len 24 false (.t 66)),
 oo 68 (.bin .sub 3 0 (.t 67) (.n 1) 3),
 oo 69 (.iaddr 24 1 (.t 65) (.t 68)),
 oo 70 (.load 3 none (.t 69)),
 oo 6 (.asg (.t 70)),
 oo 7 (.asg (.c .nilIface))]
@[go_sem] def d79 : List AO := [oo 6 (.asg (.n 1)),
 oo 7 (.asg (.c .nilIface))]
def d4a : IC := (.seq (.reg e0n) (.seq (.seq (.reg d90) (.seq (.reg e0b) (.cond (.t 20) (.seq (.reg e09) .ret) .skip))) (.seq (.reg e1a) (.seq (.seq (.reg d9w) (.block 0 (.seq (.reg e0w) (.cond (.t 27) (.seq (.reg e1c) .ret) (.seq (.reg e1n) (.cond (.t 29) (.seq (.reg e1g) .ret) (.seq (.reg d6n) (.cond (.t 34) (.seq (.reg d8m) (.seq (.draw d8j [[], [0], [1], [], [3], [4], [2, 5], [], [7], [8], [6, 9], [10, 0, 1, 2, 3, 4, 5, 6, 7, 8, 9, 10], [11, 0, 1, 2, 3, 4, 5, 6, 7, 8, 9, 10, 11]]) .ret)) (.seq (.seq (.reg d8s) (.cond (.t 51) .skip (.reg d6m))) (.cond (.t 51) (.seq (.draw d8e [[], [0], [1], [], [3], [4], [2, 5], [6, 0, 1, 2, 3, 4, 5, 6], [7, 0, 1, 2, 3, 4, 5, 6, 7]]) .ret) (.seq (.seq (.reg d7b) (.cond (.t 61) .skip (.seq (.reg d7s) (.cond (.t 61) .skip (.reg d8v))))) (.cond (.t 61) (.seq (.reg d64) .ret) .skip)))))))))))) (.seq (.reg d79) .ret)))))
abbrev e32 : Nat := 87
theorem d45 : fnC pg 87 71 [(.tmp 6), (.tmp 7)] d4a := a0x Go.Proofs.Tryd.f87 [(.tmp 6), (.tmp 7)] (by kernel_rfl)
@[go_sem] theorem f1t : fnB pg 87 = true := by kernel_rfl
@[go_sem] def d1y : List AO := [oo 3 (.box 26 2 (.t 1)),
 oo 4 (.alloc 26 [.own 1 0 [], .lit (.bool false)]),
 oo 5 (.asg (.c .nilIface))]
@[go_sem] def d0o : List AO := [om 10 0,
 oc 11 99 [(false, (.t 10))] [24],
 oo 12 (.faddr 26 1 (.t 3) 1),
 oo 13 (.load 4 none (.t 12)),
 oo 14 (.build 26 [.own 1 0 [], .lit (.bool false)] [(0, 0, 1, (.t 11)), (1, 1, 1, (.t 13))]),
 oo 6 (.alloc 26 [.own 1 0 [], .lit (.bool false)]),
 ov (.store 26 2 (.t 6) (.t 14))]
@[go_sem] def d26 : List AO := [oo 15 (.load 26 (some 2) (.t 3)),
 oo 16 (.load 26 (some 2) (.t 6)),
 oo 17 (.bslice 34 26 2 2 [.own 1 0 [], .lit (.bool false)] [(0, (.t 15)), (1, (.t 16))]),
 oo 18 (.len 34 false (.t 17)),
 oo 19 (.mv (.n 0))]
@[go_sem] def d2f : List AO := [oo 20 (.bin .lss 3 0 (.t 19) (.t 18) 3)]
@[go_sem] def d0i : List AO := [oo 21 (.iaddr 34 2 (.t 17) (.t 19)),
 oo 22 (.load 26 (some 2) (.t 21)),
 oo 8 (.alloc 26 [.own 1 0 [], .lit (.bool false)]),
 ov (.store 26 2 (.t 8) (.t 22))]
@[go_sem] def d1p : List AO := [oo 23 (.load 26 (some 2) (.t 8)),
 oc 24 58 [(false, (.t 23))] [26],
 oo 9 (.asg (.t 24))]
@[go_sem] def d04 : List AO := [om 25 9,
 oo 26 (.bin .neq 45 2 (.t 25) (.c .nilIface) 45)]
@[go_sem] def d2w : List AO := [oo 27 (.build 26 [.sl 0 [], .lit (.bool false)] []),
 om 28 9,
 ov (.store 26 2 (.t 4) (.t 27)),
 oo 5 (.asg (.t 28))]
@[go_sem] def d1n : List AO := [oo 29 (.bin .add 3 0 (.t 19) (.n 1) 3),
 om 19 29]
def a4d : IC := (.seq (.reg d2f) (.seq (.cond (.t 20) .skip (.exit 0)) (.seq (.block 1 (.seq (.reg d0i) (.seq (.reg d1p) (.seq (.reg d04) (.cond (.t 26) (.seq (.reg d2w) .ret) .skip))))) (.reg d1n))))
@[go_sem] def d0g : List AO := [oo 30 (.faddr 26 0 (.t 3) 0),
 oo 31 (.load 24 none (.t 30)),
 oc 32 56 [(false, (.t 31))] [24],
 om 33 0,
 oc 34 56 [(false, (.t 33))] [24],
 oo 35 (.bin .neq 3 0 (.t 32) (.t 34) 3)]
@[go_sem] def c6z : List AO := [oo 36 (.build 26 [.sl 0 [], .lit (.bool false)] []),
 oo 37 (.load 45 none (.g 7)),
 ov (.store 26 2 (.t 4) (.t 36)),
 oo 5 (.asg (.t 37))]
@[go_sem] def c45 : List AO := [oo 38 (.load 26 (some 2) (.t 6)),
 ov (.store 26 2 (.t 4) (.t 38)),
 oo 5 (.asg (.c .nilIface))]
def b70 : IC := (.seq (.reg d1y) (.seq (.draw d0o [[], [0], [], [2], [1, 3], [], [5, 4, 1, 0, 1, 2, 3, 4, 5]]) (.seq (.seq (.reg d26) (.block 0 (.loop a4d))) (.seq (.seq (.reg d0g) (.cond (.t 35) (.seq (.draw c6z [[], [], [0, 0], [1, 2, 0, 1, 2]]) .ret) .skip)) (.seq (.reg c45) .ret)))))
abbrev d4e : Nat := 95
theorem c09 : fnC pg 95 39 [(.cells 4 2), (.tmp 5)] b70 := a0x Go.Proofs.Tryd.f95 [(.cell 4 26), (.tmp 5)] (by kernel_rfl)
@[go_sem] theorem e5r : fnB pg 95 = true := by kernel_rfl
@[go_sem] def e0a : List AO := [oo 1 (.box 26 2 (.t 0)),
 oo 2 (.alloc 26 [.own 1 0 [], .lit (.bool false)]),
 oo 3 (.asg (.c .nilIface))]
@[go_sem] def d91 : List AO := [oo 5 (.load 26 (some 2) (.t 1)),
 oc 6 58 [(false, (.t 5))] [26],
 oo 4 (.asg (.t 6))]
@[go_sem] def e15 : List AO := [om 7 4,
 oo 8 (.bin .neq 45 2 (.t 7) (.c .nilIface) 45)]
@[go_sem] def e0g : List AO := [oo 9 (.build 26 [.sl 0 [], .lit (.bool false)] []),
 om 10 4,
 ov (.store 26 2 (.t 2) (.t 9)),
 oo 3 (.asg (.t 10))]
@[go_sem] def e1j : List AO := [oo 11 (.faddr 26 0 (.t 1) 0),
 oo 12 (.load 24 none (.t 11)),
 oo 13 (.len 24 false (.t 12)),
 oo 14 (.bin .neq 3 0 (.t 13) (.n 2) 3)]
@[go_sem] def e0r : List AO := [oo 15 (.build 26 [.sl 0 [], .lit (.bool false)] []),
 oo 16 (.load 45 none (.g 7)),
 ov (.store 26 2 (.t 2) (.t 15)),
 oo 3 (.asg (.t 16))]
@[go_sem] def e17 : List AO := [oo 17 (.faddr 26 0 (.t 1) 0),
 oo 18 (.load 24 none (.t 17)),
 oo 19 (.iaddr 24 1 (.t 18) (.n 1)),
 oo 20 (.load 3 none (.t 19)),
 oo 21 (.faddr 26 0 (.t 1) 0),
 oo 22 (.load 24 none (.t 21)),
 oo 23 (.iaddr 24 1 (.t 22) (.n 0)),
 oo 24 (.load 3 none (.t 23)),
 oo 25 (.bslice 24 3 1 2 [.lit (.int .i64 0)] [(0, (.t 20)), (1, (.t 24))]),
 oo 26 (.faddr 26 1 (.t 1) 1),
 oo 27 (.load 4 none (.t 26)),
 oo 28 (.build 26 [.own 1 0 [], .lit (.bool false)] [(0, 0, 1, (.t 25)), (1, 1, 1, (.t 27))]),
 ov (.store 26 2 (.t 2) (.t 28)),
 oo 3 (.asg (.c .nilIface))]
def b44 : IC := (.seq (.reg e0a) (.seq (.seq (.reg d91) (.seq (.reg e15) (.cond (.t 8) (.seq (.reg e0g) .ret) .skip))) (.seq (.seq (.reg e1j) (.cond (.t 14) (.seq (.draw e0r [[], [], [0, 0], [1, 2, 0, 1, 2]]) .ret) .skip)) (.seq (.draw e17 [[], [0], [1], [2], [], [4], [5], [6], [3, 7], [], [9], [8, 10], [11, 0, 1, 2, 3, 4, 5, 6, 7, 8, 9, 10, 11], [12, 0, 1, 2, 3, 4, 5, 6, 7, 8, 9, 10, 11, 12]]) .ret))))
abbrev e5d : Nat := 96
theorem b19 : fnC pg 96 29 [(.cells 2 2), (.tmp 3)] b44 := a0x Go.Proofs.Tryd.f96 [(.cell 2 26), (.tmp 3)] (by kernel_rfl)
@[go_sem] theorem f1b : fnB pg 96 = true := by kernel_rfl
@[go_sem] def d2b : List AO := [oo 6 (.box 26 2 (.t 2)),
 oo 7 (.box 26 2 (.t 3)),
 oo 8 (.alloc 26 [.own 1 0 [], .lit (.bool false)]),
 oo 9 (.asg (.c .nilIface))]
@[go_sem] def d3o : List AO := [oo 15 (.load 26 (some 2) (.t 6)),
 oo 16 (.load 26 (some 2) (.t 7)),
 oo 17 (.bslice 34 26 2 2 [.own 1 0 [], .lit (.bool false)] [(0, (.t 15)), (1, (.t 16))]),
 oo 18 (.len 34 false (.t 17)),
 oo 19 (.mv (.n 0))]
@[go_sem] def d1h : List AO := [oo 20 (.bin .lss 3 0 (.t 19) (.t 18) 3)]
@[go_sem] def d1s : List AO := [oo 21 (.iaddr 34 2 (.t 17) (.t 19)),
 oo 22 (.load 26 (some 2) (.t 21)),
 oo 11 (.alloc 26 [.own 1 0 [], .lit (.bool false)]),
 ov (.store 26 2 (.t 11) (.t 22))]
@[go_sem] def d29 : List AO := [oo 23 (.load 26 (some 2) (.t 11)),
 oc 24 58 [(false, (.t 23))] [26],
 oo 12 (.asg (.t 24))]
@[go_sem] def d2y : List AO := [om 25 12,
 oo 26 (.bin .neq 45 2 (.t 25) (.c .nilIface) 45)]
@[go_sem] def d2u : List AO := [oo 27 (.build 26 [.sl 0 [], .lit (.bool false)] []),
 om 28 12,
 ov (.store 26 2 (.t 8) (.t 27)),
 oo 9 (.asg (.t 28))]
@[go_sem] def d3m : List AO := [oo 29 (.bin .add 3 0 (.t 19) (.n 1) 3),
 om 19 29]
def a4i : IC := (.seq (.reg d1h) (.seq (.cond (.t 20) .skip (.exit 0)) (.seq (.block 1 (.seq (.reg d1s) (.seq (.reg d29) (.seq (.reg d2y) (.cond (.t 26) (.seq (.reg d2u) .ret) .skip))))) (.reg d3m))))
@[go_sem] def d12 : List AO := [oo 30 (.faddr 26 0 (.t 6) 0),
 oo 31 (.load 24 none (.t 30)),
 oo 32 (.len 24 false (.t 31)),
 oo 33 (.bin .neq 3 0 (.t 32) (.n 2) 3),
 om 34 33,
 og 35 (.faddr 26 0 (.t 7) 0) 4 34 false,
 og 36 (.load 24 none (.t 35)) 4 34 false,
 og 37 (.len 24 false (.t 36)) 4 34 false,
 og 38 (.bin .neq 3 0 (.t 37) (.n 2) 3) 4 34 false,
 oo 39 (.pick (.t 34) (.c (.bool true)) (.t 38)),
 om 40 39,
 og 41 (.faddr 26 0 (.t 6) 0) 10 40 false,
 og 42 (.load 24 none (.t 41)) 10 40 false,
 og 43 (.iaddr 24 1 (.t 42) (.n 1)) 10 40 false,
 og 44 (.load 3 none (.t 43)) 10 40 false,
 og 45 (.faddr 26 0 (.t 7) 0) 10 40 false,
 og 46 (.load 24 none (.t 45)) 10 40 false,
 og 47 (.iaddr 24 1 (.t 46) (.n 0)) 10 40 false,
 og 48 (.load 3 none (.t 47)) 10 40 false,
 og 49 (.bin .neq 3 0 (.t 44) (.t 48) 3) 10 40 false,
 oo 50 (.pick (.t 40) (.c (.bool true)) (.t 49)),
 om 51 50,
 og 52 (.faddr 26 1 (.t 6) 1) 21 51 false,
 og 53 (.load 4 none (.t 52)) 21 51 false,
 oo 54 (.pick (.t 51) (.c (.bool true)) (.t 53)),
 om 55 54,
 og 56 (.faddr 26 1 (.t 7) 1) 25 55 false,
 og 57 (.load 4 none (.t 56)) 25 55 false,
 oo 58 (.pick (.t 55) (.c (.bool true)) (.t 57))]
@[go_sem] def d0p : List AO := [oo 59 (.build 26 [.sl 0 [], .lit (.bool false)] []),
 oo 60 (.load 45 none (.g 7)),
 ov (.store 26 2 (.t 8) (.t 59)),
 oo 9 (.asg (.t 60))]
@[go_sem] def c4g : List AO := [om 61 0,
 oc 62 113 [(false, (.t 61))] [3],
 oo 63 (.un .not 4 (.t 62)),
 om 64 63,
 og 65 (.mv (.t 1)) 3 64 false,
 ⟨(some 66), .call 113 [(false, (.t 65))] [3], (some (3, 64, false))⟩,
 og 67 (.un .not 4 (.t 66)) 3 64 false,
 oo 68 (.pick (.t 64) (.c (.bool true)) (.t 67))]
@[go_sem] def c7m : List AO := [oo 69 (.build 26 [.sl 0 [], .lit (.bool false)] []),
 oo 70 (.load 45 none (.g 3)),
 ov (.store 26 2 (.t 8) (.t 69)),
 oo 9 (.asg (.t 70))]
@[go_sem] def c83 : List AO := [oo 71 (.faddr 26 0 (.t 6) 0),
 oo 72 (.load 24 none (.t 71)),
 oo 73 (.iaddr 24 1 (.t 72) (.n 0)),
 oo 74 (.load 3 none (.t 73)),
 oo 75 (.faddr 26 0 (.t 7) 0),
 oo 76 (.load 24 none (.t 75)),
 oo 77 (.iaddr 24 1 (.t 76) (.n 1)),
 oo 78 (.load 3 none (.t 77)),
 oo 79 (.bslice 24 3 1 2 [.lit (.int .i64 0)] [(0, (.t 74)), (1, (.t 78))]),
 oo 80 (.build 26 [.own 1 0 [], .lit (.bool false)] [(0, 0, 1, (.t 79)), (1, 1, 1, (.c (.bool true)))]),
 oo 13 (.alloc 26 [.own 1 0 [], .lit (.bool false)]),
 ov (.store 26 2 (.t 13) (.t 80))]
@[go_sem] def c42 : List AO := [oo 81 (.load 26 (some 2) (.t 13)),
 oc 82 58 [(false, (.t 81))] [26],
 oo 14 (.asg (.t 82))]
@[go_sem] def c4u : List AO := [om 83 14,
 oo 84 (.bin .neq 45 2 (.t 83) (.c .nilIface) 45)]
@[go_sem] def c4m : List AO := [oo 85 (.build 26 [.sl 0 [], .lit (.bool false)] []),
 om 86 14,
 ov (.store 26 2 (.t 8) (.t 85)),
 oo 9 (.asg (.t 86))]
@[go_sem] def c5l : List AO := [oo 87 (.load 26 (some 2) (.t 13)),
 ov (.store 26 2 (.t 8) (.t 87)),
 oo 9 (.asg (.c .nilIface))]
def b8k : IC := (.seq (.reg d2b) (.seq (.seq (.reg d3o) (.block 0 (.loop a4i))) (.seq (.seq (.draw d12 [[], [0], [1], [2], [3], [4], [5, 4], [6, 4], [7, 4], [4, 8], [9, 4], [10], [11, 10], [12, 10], [13, 10], [10], [15, 10], [16, 10], [17, 10], [14, 18, 10], [10, 19], [20, 10], [21], [22, 21], [21, 23], [24, 21], [25], [26, 25], [25, 27]]) (.cond (.t 58) (.seq (.draw d0p [[], [], [0, 0], [1, 2, 0, 1, 2]]) .ret) .skip)) (.seq (.seq (.reg c4g) (.cond (.t 68) (.seq (.draw c7m [[], [], [0, 0], [1, 2, 0, 1, 2]]) .ret) .skip)) (.seq (.draw c83 [[], [0], [1], [2], [], [4], [5], [6], [3, 7], [8], [], [10, 9, 0, 1, 2, 3, 4, 5, 6, 7, 8, 9, 10]]) (.seq (.seq (.reg c42) (.seq (.reg c4u) (.cond (.t 84) (.seq (.reg c4m) .ret) .skip))) (.seq (.reg c5l) .ret)))))))
abbrev d4s : Nat := 91
theorem b98 : fnC pg 91 88 [(.cells 8 2), (.tmp 9)] b8k := a0x Go.Proofs.Tryd.f91 [(.cell 8 26), (.tmp 9)] (by kernel_rfl)
@[go_sem] theorem e5u : fnB pg 91 = true := by kernel_rfl
@[go_sem] def c6m : List AO := [oo 4 (.box 26 2 (.t 1)),
 oo 5 (.box 26 2 (.t 2)),
 oo 6 (.alloc 26 [.own 1 0 [], .lit (.bool false)]),
 oo 7 (.asg (.c .nilIface))]
@[go_sem] def c8m : List AO := [om 18 0,
 oo 19 (.len 24 false (.t 18)),
 oo 20 (.bin .neq 3 0 (.t 19) (.n 3) 3)]
@[go_sem] def c7k : List AO := [oo 21 (.build 26 [.sl 0 [], .lit (.bool false)] []),
 oo 22 (.load 45 none (.g 7)),
 ov (.store 26 2 (.t 6) (.t 21)),
 oo 7 (.asg (.t 22))]
@[go_sem] def c81 : List AO := [oo 23 (.load 26 (some 2) (.t 4)),
 oo 24 (.load 26 (some 2) (.t 5)),
 oo 25 (.bslice 34 26 2 2 [.own 1 0 [], .lit (.bool false)] [(0, (.t 23)), (1, (.t 24))]),
 oo 26 (.len 34 false (.t 25)),
 oo 27 (.mv (.n 0))]
@[go_sem] def c4f : List AO := [oo 28 (.bin .lss 3 0 (.t 27) (.t 26) 3)]
@[go_sem] def c69 : List AO := [oo 29 (.iaddr 34 2 (.t 25) (.t 27)),
 oo 30 (.load 26 (some 2) (.t 29)),
 oo 9 (.alloc 26 [.own 1 0 [], .lit (.bool false)]),
 ov (.store 26 2 (.t 9) (.t 30))]
@[go_sem] def c8a : List AO := [oo 31 (.load 26 (some 2) (.t 9)),
 oc 32 58 [(false, (.t 31))] [26],
 oo 10 (.asg (.t 32))]
@[go_sem] def c7c : List AO := [om 33 10,
 oo 34 (.bin .neq 45 2 (.t 33) (.c .nilIface) 45)]
@[go_sem] def c4i : List AO := [oo 35 (.build 26 [.sl 0 [], .lit (.bool false)] []),
 om 36 10,
 ov (.store 26 2 (.t 6) (.t 35)),
 oo 7 (.asg (.t 36))]
@[go_sem] def c6g : List AO := [oo 37 (.bin .add 3 0 (.t 27) (.n 1) 3),
 om 27 37]
def a3p : IC := (.seq (.reg c4f) (.seq (.cond (.t 28) .skip (.exit 0)) (.seq (.block 1 (.seq (.reg c69) (.seq (.reg c8a) (.seq (.reg c7c) (.cond (.t 34) (.seq (.reg c4i) .ret) .skip))))) (.reg c6g))))
@[go_sem] def c1b : List AO := [oo 38 (.faddr 26 0 (.t 4) 0),
 oo 39 (.load 24 none (.t 38)),
 oo 40 (.len 24 false (.t 39)),
 oo 41 (.bin .neq 3 0 (.t 40) (.n 3) 3),
 om 42 41,
 og 43 (.faddr 26 0 (.t 5) 0) 4 42 false,
 og 44 (.load 24 none (.t 43)) 4 42 false,
 og 45 (.len 24 false (.t 44)) 4 42 false,
 og 46 (.bin .neq 3 0 (.t 45) (.n 4) 3) 4 42 false,
 oo 47 (.pick (.t 42) (.c (.bool true)) (.t 46)),
 om 48 47,
 og 49 (.faddr 26 0 (.t 4) 0) 10 48 false,
 og 50 (.load 24 none (.t 49)) 10 48 false,
 og 51 (.iaddr 24 1 (.t 50) (.n 2)) 10 48 false,
 og 52 (.load 3 none (.t 51)) 10 48 false,
 og 53 (.faddr 26 0 (.t 5) 0) 10 48 false,
 og 54 (.load 24 none (.t 53)) 10 48 false,
 og 55 (.iaddr 24 1 (.t 54) (.n 2)) 10 48 false,
 og 56 (.load 3 none (.t 55)) 10 48 false,
 og 57 (.bin .neq 3 0 (.t 52) (.t 56) 3) 10 48 false,
 oo 58 (.pick (.t 48) (.c (.bool true)) (.t 57)),
 om 59 58,
 og 60 (.faddr 26 1 (.t 4) 1) 21 59 false,
 og 61 (.load 4 none (.t 60)) 21 59 false,
 oo 62 (.pick (.t 59) (.c (.bool true)) (.t 61)),
 om 63 62,
 og 64 (.faddr 26 1 (.t 5) 1) 25 63 false,
 og 65 (.load 4 none (.t 64)) 25 63 false,
 oo 66 (.pick (.t 63) (.c (.bool true)) (.t 65))]
@[go_sem] def c2z : List AO := [oo 67 (.build 26 [.sl 0 [], .lit (.bool false)] []),
 oo 68 (.load 45 none (.g 7)),
 ov (.store 26 2 (.t 6) (.t 67)),
 oo 7 (.asg (.t 68))]
@[go_sem] def c3p : List AO := [om 69 0,
 oo 70 (.iaddr 24 1 (.t 69) (.n 0)),
 oo 71 (.load 3 none (.t 70)),
 om 72 0,
 oo 73 (.iaddr 24 1 (.t 72) (.n 1)),
 oo 74 (.load 3 none (.t 73)),
 om 75 0,
 oo 76 (.iaddr 24 1 (.t 75) (.n 2)),
 oo 77 (.load 3 none (.t 76)),
 oo 11 (.asg (.t 71)),
 oo 12 (.asg (.t 74)),
 oo 13 (.asg (.t 77))]
@[go_sem] def c4a : List AO := [om 78 11,
 oo 79 (.bin .lss 3 0 (.t 78) (.n 1) 3),
 om 80 79,
 og 81 (.mv (.t 11)) 2 80 false,
 og 82 (.bin .gtr 3 0 (.t 81) (.n 16) 3) 2 80 false,
 oo 83 (.pick (.t 80) (.c (.bool true)) (.t 82)),
 om 84 83,
 og 85 (.mv (.t 12)) 6 84 false,
 og 86 (.bin .lss 3 0 (.t 85) (.n 0) 3) 6 84 false,
 oo 87 (.pick (.t 84) (.c (.bool true)) (.t 86)),
 om 88 87,
 og 89 (.mv (.t 12)) 10 88 false,
 og 90 (.bin .gtr 3 0 (.t 89) (.n 15) 3) 10 88 false,
 oo 91 (.pick (.t 88) (.c (.bool true)) (.t 90)),
 om 92 91,
 og 93 (.mv (.t 13)) 14 92 false,
 ⟨(some 94), .call 114 [(false, (.t 93))] [3], (some (14, 92, false))⟩,
 og 95 (.mv (.t 13)) 14 92 false,
 og 96 (.bin .neq 3 0 (.t 94) (.t 95) 3) 14 92 false,
 oo 97 (.pick (.t 92) (.c (.bool true)) (.t 96))]
@[go_sem] def c3d : List AO := [oo 98 (.build 26 [.sl 0 [], .lit (.bool false)] []),
 oo 99 (.load 45 none (.g 3)),
 ov (.store 26 2 (.t 6) (.t 98)),
 oo 7 (.asg (.t 99))]
@[go_sem] def b92 : List AO := [oo 100 (.faddr 26 0 (.t 4) 0),
 oo 101 (.load 24 none (.t 100)),
 oo 102 (.iaddr 24 1 (.t 101) (.n 0)),
 oo 103 (.load 3 none (.t 102)),
 om 104 12,
 oo 105 (.bin .mul 3 0 (.n 2) (.t 104) 3),
 oo 106 (.bin .add 3 0 (.t 103) (.t 105) 3),
 oo 107 (.faddr 26 0 (.t 5) 0),
 oo 108 (.load 24 none (.t 107)),
 oo 109 (.iaddr 24 1 (.t 108) (.n 0)),
 oo 110 (.load 3 none (.t 109)),
 oo 111 (.bin .sub 3 0 (.t 106) (.t 110) 3),
 oo 112 (.faddr 26 0 (.t 4) 0),
 oo 113 (.load 24 none (.t 112)),
 oo 114 (.iaddr 24 1 (.t 113) (.n 1)),
 oo 115 (.load 3 none (.t 114)),
 om 116 12,
 oo 117 (.bin .mul 3 0 (.n 2) (.t 116) 3),
 oo 118 (.bin .add 3 0 (.t 115) (.t 117) 3),
 oo 119 (.faddr 26 0 (.t 5) 0),
 oo 120 (.load 24 none (.t 119)),
 oo 121 (.iaddr 24 1 (.t 120) (.n 1)),
 oo 122 (.load 3 none (.t 121)),
 oo 123 (.bin .sub 3 0 (.t 118) (.t 122) 3),
 oo 14 (.asg (.t 111)),
 oo 15 (.asg (.t 123))]
@[go_sem] def c3u : List AO := [om 124 14,
 oo 125 (.bin .lss 3 0 (.t 124) (.n 0) 3),
 om 126 125,
 og 127 (.mv (.t 15)) 2 126 false,
 og 128 (.bin .lss 3 0 (.t 127) (.n 0) 3) 2 126 false,
 oo 129 (.pick (.t 126) (.c (.bool true)) (.t 128))]
@[go_sem] def c1u : List AO := [oo 130 (.build 26 [.sl 0 [], .lit (.bool false)] []),
 oo 131 (.load 45 none (.g 7)),
 ov (.store 26 2 (.t 6) (.t 130)),
 oo 7 (.asg (.t 131))]
@[go_sem] def c28 : List AO := [om 132 14,
 om 133 11,
 oo 134 (.bin .quo 3 0 (.t 132) (.t 133) 3),
 oo 135 (.bin .add 3 0 (.t 134) (.n 1) 3),
 om 136 15,
 om 137 11,
 oo 138 (.bin .quo 3 0 (.t 136) (.t 137) 3),
 oo 139 (.bin .add 3 0 (.t 138) (.n 1) 3),
 oo 140 (.faddr 26 0 (.t 5) 0),
 oo 141 (.load 24 none (.t 140)),
 oo 142 (.iaddr 24 1 (.t 141) (.n 3)),
 oo 143 (.load 3 none (.t 142)),
 oo 144 (.bslice 24 3 1 3 [.lit (.int .i64 0)] [(0, (.t 135)), (1, (.t 139)), (2, (.t 143))]),
 oo 145 (.build 26 [.own 1 0 [], .lit (.bool false)] [(0, 0, 1, (.t 144)), (1, 1, 1, (.c (.bool true)))]),
 oo 16 (.alloc 26 [.own 1 0 [], .lit (.bool false)]),
 ov (.store 26 2 (.t 16) (.t 145))]
@[go_sem] def c35 : List AO := [oo 146 (.load 26 (some 2) (.t 16)),
 oc 147 58 [(false, (.t 146))] [26],
 oo 17 (.asg (.t 147))]
@[go_sem] def c15 : List AO := [om 148 17,
 oo 149 (.bin .neq 45 2 (.t 148) (.c .nilIface) 45)]
@[go_sem] def c2k : List AO := [oo 150 (.build 26 [.sl 0 [], .lit (.bool false)] []),
 om 151 17,
 ov (.store 26 2 (.t 6) (.t 150)),
 oo 7 (.asg (.t 151))]
@[go_sem] def c0v : List AO := [oo 152 (.load 26 (some 2) (.t 16)),
 ov (.store 26 2 (.t 6) (.t 152)),
 oo 7 (.asg (.c .nilIface))]
def b57 : IC := (.seq (.reg c6m) (.seq (.seq (.reg c8m) (.cond (.t 20) (.seq (.draw c7k [[], [], [0, 0], [1, 2, 0, 1, 2]]) .ret) .skip)) (.seq (.seq (.reg c81) (.block 0 (.loop a3p))) (.seq (.seq (.draw c1b [[], [0], [1], [2], [3], [4], [5, 4], [6, 4], [7, 4], [4, 8], [9, 4], [10], [11, 10], [12, 10], [13, 10], [10], [15, 10], [16, 10], [17, 10], [14, 18, 10], [10, 19], [20, 10], [21], [22, 21], [21, 23], [24, 21], [25], [26, 25], [25, 27]]) (.cond (.t 66) (.seq (.draw c2z [[], [], [0, 0], [1, 2, 0, 1, 2]]) .ret) .skip)) (.seq (.draw c3p [[], [0], [1], [], [3], [4], [], [6], [7], [2, 0, 1, 2], [5, 9, 0, 1, 2, 3, 4, 5, 9], [8, 10, 0, 1, 2, 3, 4, 5, 6, 7, 8, 9, 10]]) (.seq (.seq (.reg c4a) (.cond (.t 97) (.seq (.draw c3d [[], [], [0, 0], [1, 2, 0, 1, 2]]) .ret) .skip)) (.seq (.draw b92 [[], [0], [1], [2], [], [4], [3, 5], [], [7], [8], [9], [6, 10], [], [12], [13], [14], [], [16], [15, 17], [], [19], [20], [21], [18, 22], [11, 0, 1, 2, 3, 4, 5, 6, 7, 8, 9, 10, 11], [23, 24, 0, 1, 2, 3, 4, 5, 6, 7, 8, 9, 10, 11, 12, 13, 14, 15, 16, 17, 18, 19, 20, 21, 22, 23, 24]]) (.seq (.seq (.reg c3u) (.cond (.t 129) (.seq (.draw c1u [[], [], [0, 0], [1, 2, 0, 1, 2]]) .ret) .skip)) (.seq (.draw c28 [[], [], [0, 1], [2], [], [], [4, 5], [6], [], [8], [9], [10], [3, 7, 11], [12], [], [14, 13, 0, 1, 2, 3, 4, 5, 6, 7, 8, 9, 10, 11, 12, 13, 14]]) (.seq (.seq (.reg c35) (.seq (.reg c15) (.cond (.t 149) (.seq (.reg c2k) .ret) .skip))) (.seq (.reg c0v) .ret)))))))))))
abbrev d1v : Nat := 92
theorem b8r : fnC pg 92 153 [(.cells 6 2), (.tmp 7)] b57 := a0x Go.Proofs.Tryd.f92 [(.cell 6 26), (.tmp 7)] (by kernel_rfl)
@[go_sem] theorem e5i : fnB pg 92 = true := by kernel_rfl
@[go_sem] def c9b : List AO := [oo 3 (.box 26 2 (.t 1)),
 oo 4 (.alloc 26 [.own 1 0 [], .lit (.bool false)]),
 oo 5 (.asg (.c .nilIface))]
@[go_sem] def c55 : List AO := [om 11 0,
 oo 12 (.len 24 false (.t 11)),
 oo 13 (.bin .neq 3 0 (.t 12) (.n 2) 3)]
@[go_sem] def c82 : List AO := [oo 14 (.build 26 [.sl 0 [], .lit (.bool false)] []),
 oo 15 (.load 45 none (.g 7)),
 ov (.store 26 2 (.t 4) (.t 14)),
 oo 5 (.asg (.t 15))]
@[go_sem] def c57 : List AO := [oo 16 (.load 26 (some 2) (.t 3)),
 oc 17 58 [(false, (.t 16))] [26],
 oo 6 (.asg (.t 17))]
@[go_sem] def c9a : List AO := [om 18 6,
 oo 19 (.bin .neq 45 2 (.t 18) (.c .nilIface) 45)]
@[go_sem] def c5m : List AO := [oo 20 (.build 26 [.sl 0 [], .lit (.bool false)] []),
 om 21 6,
 ov (.store 26 2 (.t 4) (.t 20)),
 oo 5 (.asg (.t 21))]
@[go_sem] def c62 : List AO := [oo 22 (.faddr 26 0 (.t 3) 0),
 oo 23 (.load 24 none (.t 22)),
 oo 24 (.len 24 false (.t 23)),
 oo 25 (.bin .neq 3 0 (.t 24) (.n 3) 3)]
@[go_sem] def c5q : List AO := [oo 26 (.build 26 [.sl 0 [], .lit (.bool false)] []),
 oo 27 (.load 45 none (.g 7)),
 ov (.store 26 2 (.t 4) (.t 26)),
 oo 5 (.asg (.t 27))]
@[go_sem] def c8j : List AO := [om 28 0,
 oo 29 (.iaddr 24 1 (.t 28) (.n 0)),
 oo 30 (.load 3 none (.t 29)),
 om 31 0,
 oo 32 (.iaddr 24 1 (.t 31) (.n 1)),
 oo 33 (.load 3 none (.t 32)),
 oo 7 (.asg (.t 30)),
 oo 8 (.asg (.t 33))]
@[go_sem] def c64 : List AO := [om 34 7,
 oo 35 (.bin .lss 3 0 (.t 34) (.n 1) 3),
 om 36 35,
 og 37 (.mv (.t 7)) 2 36 false,
 og 38 (.bin .gtr 3 0 (.t 37) (.n 16) 3) 2 36 false,
 oo 39 (.pick (.t 36) (.c (.bool true)) (.t 38)),
 om 40 39,
 og 41 (.mv (.t 8)) 6 40 false,
 og 42 (.bin .lss 3 0 (.t 41) (.n 1) 3) 6 40 false,
 oo 43 (.pick (.t 40) (.c (.bool true)) (.t 42)),
 om 44 43,
 og 45 (.mv (.t 8)) 10 44 false,
 og 46 (.bin .gtr 3 0 (.t 45) (.n 16) 3) 10 44 false,
 oo 47 (.pick (.t 44) (.c (.bool true)) (.t 46))]
@[go_sem] def c3j : List AO := [oo 48 (.build 26 [.sl 0 [], .lit (.bool false)] []),
 oo 49 (.load 45 none (.g 3)),
 ov (.store 26 2 (.t 4) (.t 48)),
 oo 5 (.asg (.t 49))]
@[go_sem] def c1l : List AO := [oo 50 (.faddr 26 0 (.t 3) 0),
 oo 51 (.load 24 none (.t 50)),
 oo 52 (.iaddr 24 1 (.t 51) (.n 0)),
 oo 53 (.load 3 none (.t 52)),
 om 54 7,
 oo 55 (.bin .sub 3 0 (.t 53) (.t 54) 3),
 oo 56 (.faddr 26 0 (.t 3) 0),
 oo 57 (.load 24 none (.t 56)),
 oo 58 (.iaddr 24 1 (.t 57) (.n 1)),
 oo 59 (.load 3 none (.t 58)),
 om 60 7,
 oo 61 (.bin .sub 3 0 (.t 59) (.t 60) 3),
 oo 9 (.asg (.t 55)),
 oo 10 (.asg (.t 61))]
@[go_sem] def c3l : List AO := [om 62 9,
 oo 63 (.bin .lss 3 0 (.t 62) (.n 0) 3),
 om 64 63,
 og 65 (.mv (.t 10)) 2 64 false,
 og 66 (.bin .lss 3 0 (.t 65) (.n 0) 3) 2 64 false,
 oo 67 (.pick (.t 64) (.c (.bool true)) (.t 66))]
@[go_sem] def c30 : List AO := [oo 68 (.build 26 [.sl 0 [], .lit (.bool false)] []),
 oo 69 (.load 45 none (.g 7)),
 ov (.store 26 2 (.t 4) (.t 68)),
 oo 5 (.asg (.t 69))]
@[go_sem] def c2l : List AO := [om 70 9,
 om 71 8,
 oo 72 (.bin .quo 3 0 (.t 70) (.t 71) 3),
 oo 73 (.bin .add 3 0 (.t 72) (.n 1) 3),
 om 74 10,
 om 75 8,
 oo 76 (.bin .quo 3 0 (.t 74) (.t 75) 3),
 oo 77 (.bin .add 3 0 (.t 76) (.n 1) 3),
 oo 78 (.faddr 26 0 (.t 3) 0),
 oo 79 (.load 24 none (.t 78)),
 oo 80 (.iaddr 24 1 (.t 79) (.n 2)),
 oo 81 (.load 3 none (.t 80)),
 oo 82 (.bslice 24 3 1 3 [.lit (.int .i64 0)] [(0, (.t 73)), (1, (.t 77)), (2, (.t 81))]),
 oo 83 (.faddr 26 1 (.t 3) 1),
 oo 84 (.load 4 none (.t 83)),
 oo 85 (.build 26 [.own 1 0 [], .lit (.bool false)] [(0, 0, 1, (.t 82)), (1, 1, 1, (.t 84))]),
 ov (.store 26 2 (.t 4) (.t 85)),
 oo 5 (.asg (.c .nilIface))]
def a1p : IC := (.seq (.reg c9b) (.seq (.seq (.reg c55) (.cond (.t 13) (.seq (.draw c82 [[], [], [0, 0], [1, 2, 0, 1, 2]]) .ret) .skip)) (.seq (.seq (.reg c57) (.seq (.reg c9a) (.cond (.t 19) (.seq (.reg c5m) .ret) .skip))) (.seq (.seq (.reg c62) (.cond (.t 25) (.seq (.draw c5q [[], [], [0, 0], [1, 2, 0, 1, 2]]) .ret) .skip)) (.seq (.draw c8j [[], [0], [1], [], [3], [4], [2, 0, 1, 2], [5, 6, 0, 1, 2, 3, 4, 5, 6]]) (.seq (.seq (.reg c64) (.cond (.t 47) (.seq (.draw c3j [[], [], [0, 0], [1, 2, 0, 1, 2]]) .ret) .skip)) (.seq (.draw c1l [[], [0], [1], [2], [], [3, 4], [], [6], [7], [8], [], [9, 10], [5, 0, 1, 2, 3, 4, 5], [11, 12, 0, 1, 2, 3, 4, 5, 6, 7, 8, 9, 10, 11, 12]]) (.seq (.seq (.reg c3l) (.cond (.t 67) (.seq (.draw c30 [[], [], [0, 0], [1, 2, 0, 1, 2]]) .ret) .skip)) (.seq (.draw c2l [[], [], [0, 1], [2], [], [], [4, 5], [6], [], [8], [9], [10], [3, 7, 11], [], [13], [12, 14], [15, 0, 1, 2, 3, 4, 5, 6, 7, 8, 9, 10, 11, 12, 13, 14, 15], [16, 0, 1, 2, 3, 4, 5, 6, 7, 8, 9, 10, 11, 12, 13, 14, 15, 16]]) .ret)))))))))
abbrev d0z : Nat := 93
theorem a1e : fnC pg 93 86 [(.cells 4 2), (.tmp 5)] a1p := a0x Go.Proofs.Tryd.f93 [(.cell 4 26), (.tmp 5)] (by kernel_rfl)
@[go_sem] theorem e3q : fnB pg 93 = true := by kernel_rfl
@[go_sem] def c4n : List AO := [oo 4 (.alloc 26 [.own 1 0 [], .lit (.bool false)]),
 oo 5 (.asg (.c .nilIface))]
@[go_sem] def c74 : List AO := [oo 6 (.asg (.n 1))]
@[go_sem] def c89 : List AO := [om 13 0]
@[go_sem] def c8v : List AO := [oo 17 (.bin .eql 3 0 (.t 13) (.n 19) 3),
 oo 16 (.asg (.t 17))]
@[go_sem] def c6i : List AO := [oo 18 (.bin .eql 3 0 (.t 13) (.n 20) 3),
 oo 16 (.asg (.t 18))]
@[go_sem] def c7u : List AO := [oo 20 (.bin .eql 3 0 (.t 13) (.n 16) 3),
 oo 19 (.asg (.t 20))]
@[go_sem] def c71 : List AO := [oo 21 (.bin .eql 3 0 (.t 13) (.n 17) 3),
 oo 19 (.asg (.t 21))]
@[go_sem] def c5d : List AO := [oo 6 (.asg (.n 2))]
@[go_sem] def c6k : List AO := [oo 14 (.build 26 [.sl 0 [], .lit (.bool false)] []),
 oo 15 (.load 45 none (.g 4)),
 ov (.store 26 2 (.t 4) (.t 14)),
 oo 5 (.asg (.t 15))]
@[go_sem] def c65 : List AO := [om 22 1,
 oo 23 (.len 34 false (.t 22)),
 om 24 6,
 oo 25 (.bin .neq 3 0 (.t 23) (.t 24) 3)]
@[go_sem] def c3g : List AO := [oo 26 (.build 26 [.sl 0 [], .lit (.bool false)] []),
 oo 27 (.load 45 none (.g 7)),
 ov (.store 26 2 (.t 4) (.t 26)),
 oo 5 (.asg (.t 27))]
@[go_sem] def c2c : List AO := [om 28 1,
 oo 29 (.len 34 false (.t 28)),
 oo 30 (.mv (.n 0))]
@[go_sem] def c0z : List AO := [oo 31 (.bin .lss 3 0 (.t 30) (.t 29) 3)]
@[go_sem] def c1d : List AO := [oo 32 (.iaddr 34 2 (.t 28) (.t 30)),
 oo 33 (.load 26 (some 2) (.t 32)),
 oo 8 (.alloc 26 [.own 1 0 [], .lit (.bool false)]),
 ov (.store 26 2 (.t 8) (.t 33))]
@[go_sem] def c2x : List AO := [oo 34 (.load 26 (some 2) (.t 8)),
 oc 35 58 [(false, (.t 34))] [26],
 oo 9 (.asg (.t 35))]
@[go_sem] def c02 : List AO := [om 36 9,
 oo 37 (.bin .neq 45 2 (.t 36) (.c .nilIface) 45)]
@[go_sem] def c0u : List AO := [oo 38 (.build 26 [.sl 0 [], .lit (.bool false)] []),
 om 39 9,
 ov (.store 26 2 (.t 4) (.t 38)),
 oo 5 (.asg (.t 39))]
@[go_sem] def c2j : List AO := [oo 40 (.bin .add 3 0 (.t 30) (.n 1) 3),
 om 30 40]
def a4u : IC := (.seq (.reg c0z) (.seq (.cond (.t 31) .skip (.exit 1)) (.seq (.block 2 (.seq (.reg c1d) (.seq (.reg c2x) (.seq (.reg c02) (.cond (.t 37) (.seq (.reg c0u) .ret) .skip))))) (.reg c2j))))
@[go_sem] def c0y : List AO := [om 42 0,
 om 43 1,
 oc 44 115 [(false, (.t 42)), (false, (.t 43))] [3, 34],
 oo 41 (.mva (.t 44)),
 oo 45 (.ext (.t 41) 0),
 oo 46 (.ext (.t 41) 1),
 oo 10 (.alloc 26 [.own 1 0 [], .lit (.bool false)]),
 ov (.store 26 2 (.t 10) (.t 45)),
 oo 11 (.asg (.t 46))]
@[go_sem] def c1h : List AO := [om 47 11,
 oo 48 (.un .not 4 (.t 47))]
@[go_sem] def c2r : List AO := [oo 49 (.build 26 [.sl 0 [], .lit (.bool false)] []),
 oo 50 (.load 45 none (.g 7)),
 ov (.store 26 2 (.t 4) (.t 49)),
 oo 5 (.asg (.t 50))]
@[go_sem] def c10 : List AO := [oo 51 (.load 26 (some 2) (.t 10)),
 oc 52 58 [(false, (.t 51))] [26],
 oo 12 (.asg (.t 52))]
@[go_sem] def c0p : List AO := [om 53 12,
 oo 54 (.bin .neq 45 2 (.t 53) (.c .nilIface) 45)]
@[go_sem] def c3k : List AO := [oo 55 (.build 26 [.sl 0 [], .lit (.bool false)] []),
 om 56 12,
 ov (.store 26 2 (.t 4) (.t 55)),
 oo 5 (.asg (.t 56))]
@[go_sem] def c2e : List AO := [oo 57 (.load 26 (some 2) (.t 10)),
 ov (.store 26 2 (.t 4) (.t 57)),
 oo 5 (.asg (.c .nilIface))]
def a4a : IC := (.seq (.reg c4n) (.seq (.reg c74) (.seq (.seq (.reg c89) (.block 0 (.seq (.seq (.reg c8v) (.cond (.t 16) .skip (.reg c6i))) (.cond (.t 16) .skip (.seq (.seq (.reg c7u) (.cond (.t 19) .skip (.reg c71))) (.cond (.t 19) (.reg c5d) (.seq (.draw c6k [[], [], [0, 0], [1, 2, 0, 1, 2]]) .ret))))))) (.seq (.seq (.reg c65) (.cond (.t 25) (.seq (.draw c3g [[], [], [0, 0], [1, 2, 0, 1, 2]]) .ret) .skip)) (.seq (.seq (.reg c2c) (.block 1 (.loop a4u))) (.seq (.reg c0y) (.seq (.seq (.reg c1h) (.cond (.t 48) (.seq (.draw c2r [[], [], [0, 0], [1, 2, 0, 1, 2]]) .ret) .skip)) (.seq (.seq (.reg c10) (.seq (.reg c0p) (.cond (.t 54) (.seq (.reg c3k) .ret) .skip))) (.seq (.reg c2e) .ret)))))))))
abbrev d05 : Nat := 94
theorem b8x : fnC pg 94 58 [(.cells 4 2), (.tmp 5)] a4a := a0x Go.Proofs.Tryd.f94 [(.cell 4 26), (.tmp 5)] (by kernel_rfl)
@[go_sem] theorem e3l : fnB pg 94 = true := by kernel_rfl
@[go_sem] def c61 : List AO := [oo 6 (.alloc 26 [.own 1 0 [], .lit (.bool false)]),
 oo 7 (.asg (.c .nilIface))]
@[go_sem] def c6n : List AO := [om 19 0,
 oc 20 116 [(false, (.t 19))] [3],
 oo 18 (.mva (.t 20)),
 oo 21 (.ext (.t 18) 0),
 oo 22 (.ext (.t 18) 1),
 oo 23 (.ext (.t 18) 2),
 oo 8 (.asg (.t 21)),
 oo 9 (.asg (.t 22)),
 oo 10 (.asg (.t 23))]
@[go_sem] def c8h : List AO := [om 24 10,
 oo 25 (.un .not 4 (.t 24))]
@[go_sem] def c8x : List AO := [oo 26 (.build 26 [.sl 0 [], .lit (.bool false)] []),
 oo 27 (.load 45 none (.g 4)),
 ov (.store 26 2 (.t 6) (.t 26)),
 oo 7 (.asg (.t 27))]
@[go_sem] def c8u : List AO := [om 28 1,
 oo 29 (.len 24 false (.t 28)),
 om 30 9,
 oo 31 (.bin .neq 3 0 (.t 29) (.t 30) 3),
 om 32 31,
 og 33 (.mv (.t 2)) 4 32 false,
 og 34 (.len 34 false (.t 33)) 4 32 false,
 og 35 (.mv (.t 8)) 4 32 false,
 og 36 (.bin .neq 3 0 (.t 34) (.t 35) 3) 4 32 false,
 oo 37 (.pick (.t 32) (.c (.bool true)) (.t 36))]
@[go_sem] def c6x : List AO := [oo 38 (.build 26 [.sl 0 [], .lit (.bool false)] []),
 oo 39 (.load 45 none (.g 7)),
 ov (.store 26 2 (.t 6) (.t 38)),
 oo 7 (.asg (.t 39))]
@[go_sem] def c86 : List AO := [om 40 2,
 oo 41 (.len 34 false (.t 40)),
 oo 42 (.mv (.n 0))]
@[go_sem] def c8i : List AO := [oo 43 (.bin .lss 3 0 (.t 42) (.t 41) 3)]
@[go_sem] def c8e : List AO := [oo 44 (.iaddr 34 2 (.t 40) (.t 42)),
 oo 45 (.load 26 (some 2) (.t 44)),
 oo 12 (.alloc 26 [.own 1 0 [], .lit (.bool false)]),
 ov (.store 26 2 (.t 12) (.t 45))]
@[go_sem] def c8p : List AO := [oo 46 (.load 26 (some 2) (.t 12)),
 oc 47 58 [(false, (.t 46))] [26],
 oo 13 (.asg (.t 47))]
@[go_sem] def c0e : List AO := [om 48 13,
 oo 49 (.bin .neq 45 2 (.t 48) (.c .nilIface) 45)]
@[go_sem] def c1z : List AO := [oo 50 (.build 26 [.sl 0 [], .lit (.bool false)] []),
 om 51 13,
 ov (.store 26 2 (.t 6) (.t 50)),
 oo 7 (.asg (.t 51))]
@[go_sem] def c3h : List AO := [oo 52 (.bin .add 3 0 (.t 42) (.n 1) 3),
 om 42 52]
def a4s : IC := (.seq (.reg c8i) (.seq (.cond (.t 43) .skip (.exit 0)) (.seq (.block 1 (.seq (.reg c8e) (.seq (.reg c8p) (.seq (.reg c0e) (.cond (.t 49) (.seq (.reg c1z) .ret) .skip))))) (.reg c3h))))
@[go_sem] def c06 : List AO := [om 53 2,
 oo 54 (.iaddr 34 2 (.t 53) (.n 0)),
 oo 55 (.load 26 (some 2) (.t 54)),
 oo 14 (.alloc 26 [.own 1 0 [], .lit (.bool false)]),
 ov (.store 26 2 (.t 14) (.t 55))]
@[go_sem] def c1n : List AO := [om 56 8,
 oo 57 (.bin .eql 3 0 (.t 56) (.n 2) 3),
 om 58 57,
 og 59 (.load 26 (some 2) (.t 14)) 2 58 true,
 og 60 (.mv (.t 2)) 2 58 true,
 og 61 (.iaddr 34 2 (.t 60) (.n 1)) 2 58 true,
 og 62 (.load 26 (some 2) (.t 61)) 2 58 true,
 ⟨(some 63), .call 85 [(false, (.t 59)), (false, (.t 62))] [26, 26], (some (2, 58, true))⟩,
 og 64 (.un .not 4 (.t 63)) 2 58 true,
 oo 65 (.pick (.t 58) (.t 64) (.c (.bool false))),
 om 66 65,
 og 67 (.mv (.t 0)) 10 66 false,
 og 68 (.bin .eql 3 0 (.t 67) (.n 10) 3) 10 66 false,
 og 69 (.mv (.t 68)) 10 66 false,
 og 70 (.faddr 26 1 (.t 14) 1) 13 69 true,
 og 71 (.load 4 none (.t 70)) 13 69 true,
 og 72 (.un .not 4 (.t 71)) 13 69 true,
 og 73 (.pick (.t 69) (.t 72) (.c (.bool false))) 10 66 false,
 oo 74 (.pick (.t 66) (.c (.bool true)) (.t 73)),
 om 75 74,
 og 76 (.mv (.t 0)) 19 75 false,
 og 77 (.bin .eql 3 0 (.t 76) (.n 11) 3) 19 75 false,
 og 78 (.mv (.t 77)) 19 75 false,
 og 79 (.faddr 26 1 (.t 14) 1) 22 78 true,
 og 80 (.load 4 none (.t 79)) 22 78 true,
 og 81 (.pick (.t 78) (.t 80) (.c (.bool false))) 19 75 false,
 oo 82 (.pick (.t 75) (.c (.bool true)) (.t 81))]
@[go_sem] def b93 : List AO := [oo 83 (.build 26 [.sl 0 [], .lit (.bool false)] []),
 oo 84 (.load 45 none (.g 7)),
 ov (.store 26 2 (.t 6) (.t 83)),
 oo 7 (.asg (.t 84))]
@[go_sem] def c2t : List AO := [oo 85 (.faddr 26 1 (.t 14) 1),
 oo 86 (.load 4 none (.t 85)),
 oo 15 (.asg (.c (.bool true))),
 oo 16 (.asg (.t 86))]
@[go_sem] def c17 : List AO := [om 87 0]
@[go_sem] def c2n : List AO := [oo 89 (.bin .eql 3 0 (.t 87) (.n 9) 3),
 oo 88 (.asg (.t 89))]
@[go_sem] def b9w : List AO := [om 90 1,
 oo 91 (.iaddr 24 1 (.t 90) (.n 0)),
 oo 92 (.load 3 none (.t 91)),
 om 93 1,
 oo 94 (.iaddr 24 1 (.t 93) (.n 1)),
 oo 95 (.load 3 none (.t 94)),
 oo 96 (.bin .leq 3 0 (.t 92) (.t 95) 3),
 om 97 96,
 og 98 (.mv (.t 1)) 7 97 true,
 og 99 (.iaddr 24 1 (.t 98) (.n 0)) 7 97 true,
 og 100 (.load 3 none (.t 99)) 7 97 true,
 og 101 (.faddr 26 1 (.t 14) 1) 7 97 true,
 og 102 (.load 4 none (.t 101)) 7 97 true,
 ⟨(some 103), .call 117 [(false, (.t 100)), (false, (.t 102))] [3, 4], (some (7, 97, true))⟩,
 oo 104 (.pick (.t 97) (.t 103) (.c (.bool false))),
 om 105 104,
 og 106 (.mv (.t 1)) 15 105 true,
 og 107 (.iaddr 24 1 (.t 106) (.n 1)) 15 105 true,
 og 108 (.load 3 none (.t 107)) 15 105 true,
 og 109 (.faddr 26 1 (.t 14) 1) 15 105 true,
 og 110 (.load 4 none (.t 109)) 15 105 true,
 ⟨(some 111), .call 117 [(false, (.t 108)), (false, (.t 110))] [3, 4], (some (15, 105, true))⟩,
 oo 112 (.pick (.t 105) (.t 111) (.c (.bool false))),
 oo 15 (.asg (.t 112))]
@[go_sem] def c24 : List AO := [oo 114 (.bin .eql 3 0 (.t 87) (.n 10) 3),
 oo 113 (.asg (.t 114))]
@[go_sem] def c3n : List AO := [om 115 1,
 oo 116 (.iaddr 24 1 (.t 115) (.n 0)),
 oo 117 (.load 3 none (.t 116)),
 oc 118 118 [(false, (.t 117)), (false, (.n 0)), (false, (.n 2147483647))] [3, 3, 3],
 om 119 118,
 og 120 (.mv (.t 1)) 4 119 true,
 og 121 (.iaddr 24 1 (.t 120) (.n 1)) 4 119 true,
 og 122 (.load 3 none (.t 121)) 4 119 true,
 ⟨(some 123), .call 118 [(false, (.t 122)), (false, (.n 0)), (false, (.n 62))] [3, 3, 3], (some (4, 119, true))⟩,
 oo 124 (.pick (.t 119) (.t 123) (.c (.bool false))),
 om 125 124,
 og 126 (.mv (.t 1)) 10 125 true,
 og 127 (.iaddr 24 1 (.t 126) (.n 2)) 10 125 true,
 og 128 (.load 3 none (.t 127)) 10 125 true,
 ⟨(some 129), .call 117 [(false, (.t 128)), (false, (.c (.bool false)))] [3, 4], (some (10, 125, true))⟩,
 oo 130 (.pick (.t 125) (.t 129) (.c (.bool false))),
 oo 15 (.asg (.t 130)),
 oo 16 (.asg (.c (.bool false)))]
@[go_sem] def c0a : List AO := [oo 132 (.bin .eql 3 0 (.t 87) (.n 11) 3),
 oo 131 (.asg (.t 132))]
@[go_sem] def c0j : List AO := [om 133 1,
 oo 134 (.iaddr 24 1 (.t 133) (.n 0)),
 oo 135 (.load 3 none (.t 134)),
 oc 136 117 [(false, (.t 135)), (false, (.c (.bool false)))] [3, 4],
 oo 15 (.asg (.t 136)),
 oo 16 (.asg (.c (.bool true)))]
@[go_sem] def c16 : List AO := [om 137 15,
 oo 138 (.un .not 4 (.t 137))]
@[go_sem] def c2q : List AO := [oo 139 (.build 26 [.sl 0 [], .lit (.bool false)] []),
 oo 140 (.load 45 none (.g 3)),
 ov (.store 26 2 (.t 6) (.t 139)),
 oo 7 (.asg (.t 140))]
@[go_sem] def c0x : List AO := [oo 141 (.load 26 (some 2) (.t 14)),
 oc 142 71 [(false, (.t 141))] [26],
 oo 17 (.alloc 26 [.own 1 0 [], .lit (.bool false)]),
 ov (.store 26 2 (.t 17) (.t 142))]
@[go_sem] def b9u : List AO := [om 143 16,
 oo 144 (.faddr 26 1 (.t 17) 1),
 ov (.store 4 1 (.t 144) (.t 143))]
@[go_sem] def c0w : List AO := [oo 145 (.load 26 (some 2) (.t 17)),
 ov (.store 26 2 (.t 6) (.t 145)),
 oo 7 (.asg (.c .nilIface))]
def a11 : IC := (.seq (.reg c61) (.seq (.reg c6n) (.seq (.seq (.reg c8h) (.cond (.t 25) (.seq (.draw c8x [[], [], [0, 0], [1, 2, 0, 1, 2]]) .ret) .skip)) (.seq (.seq (.reg c8u) (.cond (.t 37) (.seq (.draw c6x [[], [], [0, 0], [1, 2, 0, 1, 2]]) .ret) .skip)) (.seq (.seq (.reg c86) (.block 0 (.loop a4s))) (.seq (.reg c06) (.seq (.seq (.draw c1n [[], [0], [1], [2], [2], [4, 2], [5, 2], [3, 6, 2, 2], [7, 2], [2, 8], [9, 7], [10], [11, 10], [12, 10, 10], [13], [14, 13], [15, 13], [13, 16, 10], [10, 17], [18, 13], [19], [20, 19], [21, 19, 19], [22], [23, 22], [22, 24, 19], [19, 25]]) (.cond (.t 82) (.seq (.draw b93 [[], [], [0, 0], [1, 2, 0, 1, 2]]) .ret) .skip)) (.seq (.draw c2t [[], [0], [], [1, 2, 0, 1, 2]]) (.seq (.seq (.reg c17) (.block 2 (.seq (.reg c2n) (.cond (.t 88) (.draw b9w [[], [0], [1], [], [3], [4], [2, 5], [6], [7], [8, 7], [9, 7], [7], [11, 7], [10, 12, 7, 7], [7, 13], [14, 13], [15], [16, 15], [17, 15], [15], [19, 15], [18, 20, 15, 15], [15, 21], [22, 21, 0, 1, 2, 3, 4, 5, 6, 7, 8, 9, 10, 11, 12, 13, 14, 15, 16, 17, 18, 19, 20, 21, 22]]) (.seq (.reg c24) (.cond (.t 113) (.reg c3n) (.seq (.reg c0a) (.cond (.t 131) (.reg c0j) .skip)))))))) (.seq (.seq (.reg c16) (.cond (.t 138) (.seq (.draw c2q [[], [], [0, 0], [1, 2, 0, 1, 2]]) .ret) .skip)) (.seq (.reg c0x) (.seq (.reg b9u) (.seq (.reg c0w) .ret)))))))))))))
abbrev a10 : Nat := 97
theorem a1k : fnC pg 97 146 [(.cells 6 2), (.tmp 7)] a11 := a0x Go.Proofs.Tryd.f97 [(.cell 6 26), (.tmp 7)] (by kernel_rfl)
@[go_sem] theorem e2l : fnB pg 97 = true := by kernel_rfl
@[go_sem] def a8l : List AO := [oo 4 (.asg (.c (.bool false)))]
@[go_sem] def a8a : List AO := [oc 11 11 [] [],
 oo 5 (.asg (.t 11))]
@[go_sem] def a8o : List AO := [om 12 5,
 oo 13 (.un .not 4 (.t 12))]
@[go_sem] def a72 : List AO := [oo 4 (.asg (.c (.bool false)))]
@[go_sem] def a79 : List AO := [om 14 0,
 oc 15 12 [(false, (.t 14)), (false, (.n 30))] [3, 3],
 oo 16 (.bin .add 3 0 (.t 15) (.n 1) 3),
 oo 0 (.asg (.t 16))]
@[go_sem] def a8i : List AO := [oc 17 15 [(false, (.n 1))] [3],
 oo 6 (.alloc 37 [.lit (.int .i64 0), .own 3 0 [], .own 3 0 [], .own 2 0 [], .own 6 0 [], .lit (.int .i64 0), .lit (.int .i64 0)]),
 ov (.store 37 7 (.t 6) (.t 17))]
@[go_sem] def a76 : List AO := [oo 18 (.faddr 37 4 (.t 6) 4),
 oo 19 (.load 35 none (.t 18)),
 oo 20 (.iaddr 35 6 (.t 19) (.n 0)),
 oo 21 (.load 40 (some 6) (.t 20)),
 oo 7 (.alloc 40 [.lit (.int .i64 0), .lit (.int .i64 0), .own 1 0 [], .own 1 0 [], .lit (.int .i64 0), .lit (.int .i64 0)]),
 ov (.store 40 6 (.t 7) (.t 21))]
@[go_sem] def a8p : List AO := [oo 22 (.faddr 37 4 (.t 6) 4),
 oo 23 (.load 35 none (.t 22)),
 oo 24 (.len 35 false (.t 23)),
 om 25 0,
 oo 26 (.bin .lss 3 0 (.t 24) (.t 25) 3)]
@[go_sem] def a8b : List AO := [oo 27 (.faddr 37 4 (.t 6) 4),
 oo 28 (.load 35 none (.t 27)),
 oo 29 (.load 40 (some 6) (.t 7)),
 oc 30 16 [(false, (.t 29))] [40],
 oo 31 (.bslice 35 40 6 1 [.lit (.int .i64 0), .lit (.int .i64 0), .own 1 0 [], .own 1 0 [], .lit (.int .i64 0), .lit (.int .i64 0)] [(0, (.t 30))]),
 oo 32 (.app 35 40 6 80 (.t 28) (.t 31)),
 oo 33 (.faddr 37 4 (.t 6) 4),
 ov (.store 35 1 (.t 33) (.t 32))]
def a1o : IC := (.seq (.seq (.reg a8p) (.cond (.t 26) .skip (.exit 0))) (.block 1 (.draw a8b [[], [0], [], [2], [3], [1, 4, 3], [0, 1, 2, 3, 4, 5], [6, 5, 5, 0, 1, 2, 3, 4, 5]])))
@[go_sem] def a8s : List AO := [om 34 0,
 oo 35 (.bin .sub 3 0 (.t 34) (.n 1) 3),
 oo 8 (.asg (.t 35))]
@[go_sem] def a6e : List AO := [oo 36 (.faddr 37 4 (.t 6) 4),
 oo 37 (.load 35 none (.t 36)),
 om 38 8,
 oo 39 (.iaddr 35 6 (.t 37) (.t 38)),
 oo 9 (.asg (.t 39))]
@[go_sem] def a7l : List AO := [oo 10 (.asg (.n 102))]
@[go_sem] def a7d : List AO := [om 40 1,
 oc 41 12 [(false, (.t 40)), (false, (.n 9))] [3, 3]]
@[go_sem] def a6y : List AO := [oo 46 (.bin .eql 3 0 (.t 41) (.n 0) 3),
 oo 45 (.asg (.t 46))]
@[go_sem] def a6m : List AO := [om 47 9,
 oo 48 (.nilck (.t 47)),
 oo 49 (.faddr 40 0 (.t 48) 0),
 ov (.store 3 1 (.t 49) (.n 1))]
@[go_sem] def a66 : List AO := [oo 10 (.asg (.n 103))]
@[go_sem] def a6d : List AO := [oo 51 (.bin .eql 3 0 (.t 41) (.n 1) 3),
 oo 50 (.asg (.t 51))]
@[go_sem] def a6l : List AO := [om 52 9,
 oo 53 (.nilck (.t 52)),
 oo 54 (.faddr 40 1 (.t 53) 1),
 ov (.store 3 1 (.t 54) (.n 2))]
@[go_sem] def a62 : List AO := [oo 10 (.asg (.n 107))]
@[go_sem] def a6f : List AO := [oo 56 (.bin .eql 3 0 (.t 41) (.n 2) 3),
 oo 55 (.asg (.t 56))]
@[go_sem] def a6s : List AO := [om 57 9,
 oo 58 (.bslice 24 3 1 1 [.lit (.int .i64 0)] [(0, (.n 0))]),
 oo 59 (.nilck (.t 57)),
 oo 60 (.faddr 40 2 (.t 59) 2),
 ov (.store 24 1 (.t 60) (.t 58))]
@[go_sem] def a6v : List AO := [oo 10 (.asg (.n 101))]
@[go_sem] def a7k : List AO := [oo 62 (.bin .eql 3 0 (.t 41) (.n 3) 3),
 oo 61 (.asg (.t 62))]
@[go_sem] def a6b : List AO := [om 63 9,
 oo 64 (.bslice 24 3 1 2 [.lit (.int .i64 0)] [(0, (.n 0)), (1, (.n (-1)))]),
 oo 65 (.nilck (.t 63)),
 oo 66 (.faddr 40 2 (.t 65) 2),
 ov (.store 24 1 (.t 66) (.t 64))]
@[go_sem] def a7g : List AO := [oo 10 (.asg (.n 107))]
@[go_sem] def a61 : List AO := [oo 68 (.bin .eql 3 0 (.t 41) (.n 4) 3),
 oo 67 (.asg (.t 68))]
@[go_sem] def a69 : List AO := [om 69 9,
 oo 70 (.nilck (.t 69)),
 oo 71 (.faddr 40 5 (.t 70) 5),
 ov (.store 3 1 (.t 71) (.n 3))]
@[go_sem] def a6i : List AO := [oo 73 (.bin .eql 3 0 (.t 41) (.n 5) 3),
 oo 72 (.asg (.t 73))]
@[go_sem] def a6g : List AO := [om 74 9,
 oo 75 (.nilck (.t 74)),
 oo 76 (.faddr 40 4 (.t 75) 4),
 ov (.store 3 1 (.t 76) (.n (-1)))]
@[go_sem] def a6k : List AO := [oo 78 (.bin .eql 3 0 (.t 41) (.n 6) 3),
 oo 77 (.asg (.t 78))]
@[go_sem] def a60 : List AO := [om 79 9,
 om 80 0,
 oo 81 (.bin .add 3 0 (.t 80) (.n 1) 3),
 oo 82 (.bslice 24 3 1 1 [.lit (.int .i64 0)] [(0, (.t 81))]),
 oo 83 (.build 40 [.lit (.int .i64 0), .lit (.int .i64 0), .own 1 0 [], .own 1 0 [], .lit (.int .i64 0), .lit (.int .i64 0)] [(0, 0, 1, (.n 22)), (3, 3, 1, (.t 82))]),
 oo 84 (.nilck (.t 79)),
 ov (.store 40 6 (.t 84) (.t 83))]
@[go_sem] def a65 : List AO := [oo 10 (.asg (.n 110))]
@[go_sem] def a6j : List AO := [oo 86 (.bin .eql 3 0 (.t 41) (.n 7) 3),
 oo 85 (.asg (.t 86))]
@[go_sem] def a6z : List AO := [om 87 9,
 oo 88 (.bslice 24 3 1 1 [.lit (.int .i64 0)] [(0, (.n 0))]),
 oo 89 (.build 40 [.lit (.int .i64 0), .lit (.int .i64 0), .own 1 0 [], .own 1 0 [], .lit (.int .i64 0), .lit (.int .i64 0)] [(0, 0, 1, (.n 2)), (1, 1, 1, (.n 1)), (3, 3, 1, (.t 88))]),
 oo 90 (.nilck (.t 87)),
 ov (.store 40 6 (.t 90) (.t 89))]
@[go_sem] def a6q : List AO := [oo 10 (.asg (.n 107))]
@[go_sem] def a64 : List AO := [om 42 9,
 oo 43 (.build 40 [.lit (.int .i64 0), .lit (.int .i64 0), .own 1 0 [], .own 1 0 [], .lit (.int .i64 0), .lit (.int .i64 0)] [(0, 0, 1, (.n 24)), (1, 1, 1, (.n 1))]),
 oo 44 (.nilck (.t 42)),
 ov (.store 40 6 (.t 44) (.t 43))]
@[go_sem] def a67 : List AO := [om 91 5,
 om 92 91,
 og 93 (.load 37 (some 7) (.t 6)) 1 92 true,
 ⟨(some 94), .call 18 [(false, (.t 93))] [37], (some (1, 92, true))⟩,
 og 95 (.mv (.t 10)) 1 92 true,
 og 96 (.mv (.t 8)) 1 92 true,
 ⟨(some 97), .call 19 [(false, (.t 95)), (false, (.t 96))] [3, 3], (some (1, 92, true))⟩,
 ⟨(some 98), .call 17 [(false, (.t 94)), (false, (.t 97))] [45, 48], (some (1, 92, true))⟩,
 oo 99 (.pick (.t 92) (.t 98) (.c (.bool false))),
 oo 4 (.asg (.t 99))]
def a33 : IC := (.seq (.reg a8l) (.seq (.reg a8a) (.seq (.seq (.reg a8o) (.cond (.t 13) (.seq (.reg a72) .ret) .skip)) (.seq (.reg a79) (.seq (.reg a8i) (.seq (.reg a76) (.seq (.block 0 (.loop a1o)) (.seq (.reg a8s) (.seq (.reg a6e) (.seq (.reg a7l) (.seq (.seq (.reg a7d) (.block 2 (.seq (.reg a6y) (.cond (.t 45) (.seq (.reg a6m) (.reg a66)) (.seq (.reg a6d) (.cond (.t 50) (.seq (.reg a6l) (.reg a62)) (.seq (.reg a6f) (.cond (.t 55) (.seq (.reg a6s) (.reg a6v)) (.seq (.reg a7k) (.cond (.t 61) (.seq (.reg a6b) (.reg a7g)) (.seq (.reg a61) (.cond (.t 67) (.reg a69) (.seq (.reg a6i) (.cond (.t 72) (.reg a6g) (.seq (.reg a6k) (.cond (.t 77) (.seq (.reg a60) (.reg a65)) (.seq (.reg a6j) (.cond (.t 85) (.seq (.reg a6z) (.reg a6q)) (.reg a64))))))))))))))))))) (.seq (.reg a67) .ret))))))))))))
abbrev a92 : Nat := 4
theorem a54 : fnC pg 4 100 [(.tmp 4)] a33 := a0x Go.Proofs.Tryd.f4 [(.tmp 4)] (by kernel_rfl)
@[go_sem] theorem c4c : fnB pg 4 = true := by kernel_rfl
@[go_sem] def a8r : List AO := [oo 1 (.box 37 7 (.t 0)),
 oo 2 (.asg (.c (.bool false)))]
@[go_sem] def a82 : List AO := [oc 14 11 [] [],
 oo 3 (.asg (.t 14))]
@[go_sem] def a8t : List AO := [om 15 3,
 oo 16 (.un .not 4 (.t 15))]
@[go_sem] def a75 : List AO := [oo 2 (.asg (.c (.bool false)))]
@[go_sem] def a8h : List AO := [oo 17 (.load 37 (some 7) (.t 1)),
 oc 18 20 [(false, (.t 17))] [37],
 oo 19 (.un .not 4 (.t 18)),
 om 20 19,
 og 21 (.mv (.t 3)) 3 20 false,
 og 22 (.un .not 4 (.t 21)) 3 20 false,
 oo 23 (.pick (.t 20) (.c (.bool true)) (.t 22)),
 om 24 23,
 og 25 (.load 37 (some 7) (.t 1)) 7 24 false,
 ⟨(some 26), .call 18 [(false, (.t 25))] [37], (some (7, 24, false))⟩,
 og 27 (.bin .neq 45 2 (.t 26) (.c .nilIface) 45) 7 24 false,
 oo 28 (.pick (.t 24) (.c (.bool true)) (.t 27))]
@[go_sem] def a77 : List AO := [om 29 3,
 oo 2 (.asg (.t 29))]
@[go_sem] def a8g : List AO := [oo 4 (.asg (.n 0))]
@[go_sem] def a73 : List AO := [om 30 4,
 oo 31 (.faddr 37 1 (.t 1) 1),
 oo 32 (.load 32 none (.t 31)),
 oo 33 (.len 32 false (.t 32)),
 oo 34 (.bin .lss 3 0 (.t 30) (.t 33) 3)]
@[go_sem] def a8d : List AO := [oo 37 (.faddr 37 1 (.t 1) 1),
 oo 38 (.load 32 none (.t 37)),
 om 39 4,
 oo 40 (.iaddr 32 3 (.t 38) (.t 39)),
 oo 41 (.load 28 (some 3) (.t 40)),
 oo 5 (.alloc 28 [.lit (.int .i64 0), .own 1 0 [], .lit (.bool false)]),
 ov (.store 28 3 (.t 5) (.t 41))]
@[go_sem] def a7b : List AO := [oo 42 (.faddr 28 0 (.t 5) 0),
 oo 43 (.load 3 none (.t 42)),
 oo 44 (.bin .lss 3 0 (.t 43) (.n 0) 3),
 om 45 44,
 og 46 (.faddr 28 0 (.t 5) 0) 3 45 false,
 og 47 (.load 3 none (.t 46)) 3 45 false,
 og 48 (.faddr 28 1 (.t 5) 1) 3 45 false,
 og 49 (.load 26 (some 2) (.t 48)) 3 45 false,
 ⟨(some 50), .call 13 [(false, (.t 49))] [26], (some (3, 45, false))⟩,
 og 51 (.bin .add 3 0 (.t 47) (.t 50) 3) 3 45 false,
 og 52 (.faddr 37 0 (.t 1) 0) 3 45 false,
 og 53 (.load 3 none (.t 52)) 3 45 false,
 og 54 (.bin .gtr 3 0 (.t 51) (.t 53) 3) 3 45 false,
 oo 55 (.pick (.t 45) (.c (.bool true)) (.t 54))]
@[go_sem] def a7n : List AO := [oo 2 (.asg (.c (.bool false)))]
@[go_sem] def a80 : List AO := [om 35 4,
 oo 36 (.bin .add 3 0 (.t 35) (.n 1) 3),
 oo 4 (.asg (.t 36))]
def a1r : IC := (.seq (.seq (.reg a73) (.cond (.t 34) .skip (.exit 0))) (.seq (.block 1 (.seq (.reg a8d) (.seq (.draw a7b [[], [0], [1], [2], [3], [4, 3], [3], [6, 3], [7, 3, 3], [5, 8, 3], [3], [10, 3], [9, 11, 3], [3, 12]]) (.cond (.t 55) (.seq (.reg a7n) .ret) .skip)))) (.reg a80)))
@[go_sem] def a6p : List AO := [oo 6 (.asg (.n 0))]
@[go_sem] def a7f : List AO := [oo 7 (.asg (.n 0))]
@[go_sem] def a7e : List AO := [om 56 7,
 oo 57 (.faddr 37 4 (.t 1) 4),
 oo 58 (.load 35 none (.t 57)),
 oo 59 (.len 35 false (.t 58)),
 oo 60 (.bin .lss 3 0 (.t 56) (.t 59) 3)]
@[go_sem] def a6u : List AO := [oo 63 (.faddr 37 4 (.t 1) 4),
 oo 64 (.load 35 none (.t 63)),
 om 65 7,
 oo 66 (.iaddr 35 6 (.t 64) (.t 65)),
 oo 67 (.load 40 (some 6) (.t 66)),
 oo 8 (.alloc 40 [.lit (.int .i64 0), .lit (.int .i64 0), .own 1 0 [], .own 1 0 [], .lit (.int .i64 0), .lit (.int .i64 0)]),
 ov (.store 40 6 (.t 8) (.t 67))]
@[go_sem] def a7a : List AO := [oo 69 (.load 37 (some 7) (.t 1)),
 om 70 7,
 oc 71 21 [(false, (.t 69)), (false, (.t 70))] [37, 3],
 oo 68 (.mva (.t 71)),
 oo 72 (.ext (.t 68) 0),
 oo 73 (.ext (.t 68) 1),
 oo 9 (.asg (.t 72)),
 oo 10 (.asg (.t 73))]
@[go_sem] def a7h : List AO := [om 74 10,
 oo 75 (.bin .neq 45 2 (.t 74) (.c .nilIface) 45),
 om 76 75,
 og 77 (.mv (.t 9)) 2 76 false,
 og 78 (.bin .lss 3 0 (.t 77) (.n 1) 3) 2 76 false,
 oo 79 (.pick (.t 76) (.c (.bool true)) (.t 78)),
 om 80 79,
 og 81 (.mv (.t 9)) 6 80 false,
 og 82 (.bin .gtr 3 0 (.t 81) (.n 1024) 3) 6 80 false,
 oo 83 (.pick (.t 80) (.c (.bool true)) (.t 82))]
@[go_sem] def a68 : List AO := [oo 2 (.asg (.c (.bool false)))]
@[go_sem] def a7m : List AO := [om 84 6,
 om 85 9,
 oo 86 (.bin .add 3 0 (.t 84) (.t 85) 3),
 oo 6 (.asg (.t 86))]
@[go_sem] def a7i : List AO := [oo 87 (.faddr 40 0 (.t 8) 0),
 oo 88 (.load 3 none (.t 87)),
 oo 89 (.bin .eql 3 0 (.t 88) (.n 22) 3),
 om 90 89,
 og 91 (.faddr 40 0 (.t 8) 0) 3 90 false,
 og 92 (.load 3 none (.t 91)) 3 90 false,
 og 93 (.bin .eql 3 0 (.t 92) (.n 23) 3) 3 90 false,
 oo 94 (.pick (.t 90) (.c (.bool true)) (.t 93))]
@[go_sem] def a6n : List AO := [oo 95 (.faddr 40 3 (.t 8) 3),
 oo 96 (.load 24 none (.t 95)),
 oo 97 (.iaddr 24 1 (.t 96) (.n 0)),
 oo 98 (.load 3 none (.t 97)),
 oo 99 (.bin .lss 3 0 (.t 98) (.n 0) 3),
 om 100 99,
 og 101 (.faddr 40 3 (.t 8) 3) 5 100 false,
 og 102 (.load 24 none (.t 101)) 5 100 false,
 og 103 (.iaddr 24 1 (.t 102) (.n 0)) 5 100 false,
 og 104 (.load 3 none (.t 103)) 5 100 false,
 og 105 (.faddr 37 4 (.t 1) 4) 5 100 false,
 og 106 (.load 35 none (.t 105)) 5 100 false,
 og 107 (.len 35 false (.t 106)) 5 100 false,
 og 108 (.bin .gtr 3 0 (.t 104) (.t 107) 3) 5 100 false,
 oo 109 (.pick (.t 100) (.c (.bool true)) (.t 108))]
@[go_sem] def a6c : List AO := [oo 2 (.asg (.c (.bool false)))]
@[go_sem] def a7j : List AO := [oo 11 (.asg (.n 0))]
@[go_sem] def a6w : List AO := [om 110 11,
 oo 111 (.faddr 40 2 (.t 8) 2),
 oo 112 (.load 24 none (.t 111)),
 oo 113 (.len 24 false (.t 112)),
 oo 114 (.bin .lss 3 0 (.t 110) (.t 113) 3)]
@[go_sem] def a6t : List AO := [oo 117 (.faddr 37 1 (.t 1) 1),
 oo 118 (.load 32 none (.t 117)),
 oo 119 (.faddr 40 1 (.t 8) 1),
 oo 120 (.load 3 none (.t 119)),
 oo 121 (.iaddr 32 3 (.t 118) (.t 120)),
 oo 122 (.load 28 (some 3) (.t 121)),
 oo 123 (.faddr 37 1 (.t 1) 1),
 oo 124 (.load 32 none (.t 123)),
 oo 125 (.faddr 40 2 (.t 8) 2),
 oo 126 (.load 24 none (.t 125)),
 om 127 11,
 oo 128 (.iaddr 24 1 (.t 126) (.t 127)),
 oo 129 (.load 3 none (.t 128)),
 oo 130 (.iaddr 32 3 (.t 124) (.t 129)),
 oo 131 (.load 28 (some 3) (.t 130)),
 oc 132 14 [(false, (.t 122)), (false, (.t 131))] [28, 28],
 oo 133 (.un .not 4 (.t 132))]
@[go_sem] def a6o : List AO := [oo 2 (.asg (.c (.bool false)))]
@[go_sem] def a7o : List AO := [om 115 11,
 oo 116 (.bin .add 3 0 (.t 115) (.n 1) 3),
 oo 11 (.asg (.t 116))]
def a1s : IC := (.seq (.seq (.reg a6w) (.cond (.t 114) .skip (.exit 4))) (.seq (.block 5 (.seq (.draw a6t [[], [0], [], [2], [1, 3], [4], [], [6], [], [8], [], [9, 10], [11], [7, 12], [13], [5, 14], [15]]) (.cond (.t 133) (.seq (.reg a6o) .ret) .skip))) (.reg a7o)))
@[go_sem] def a63 : List AO := [om 61 7,
 oo 62 (.bin .add 3 0 (.t 61) (.n 1) 3),
 oo 7 (.asg (.t 62))]
def a1q : IC := (.seq (.seq (.reg a7e) (.cond (.t 60) .skip (.exit 2))) (.seq (.block 3 (.seq (.reg a6u) (.seq (.reg a7a) (.seq (.seq (.reg a7h) (.cond (.t 83) (.seq (.reg a68) .ret) .skip)) (.seq (.reg a7m) (.seq (.seq (.reg a7i) (.cond (.t 94) (.seq (.seq (.draw a6n [[], [0], [1], [2], [3], [4], [5], [6, 5], [7, 5], [8, 5], [5], [10, 5], [11, 5], [9, 12, 5], [5, 13]]) (.cond (.t 109) (.seq (.reg a6c) .ret) .skip)) (.exit 3)) .skip)) (.seq (.reg a7j) (.block 4 (.loop a1s))))))))) (.reg a63)))
@[go_sem] def a6x : List AO := [oo 135 (.load 37 (some 7) (.t 1)),
 oc 136 22 [(false, (.t 135))] [37],
 oo 134 (.mva (.t 136)),
 oo 137 (.ext (.t 134) 0),
 oo 138 (.ext (.t 134) 1),
 oo 12 (.asg (.t 137)),
 oo 13 (.asg (.t 138))]
@[go_sem] def a6r : List AO := [om 139 13,
 oo 140 (.bin .eql 45 2 (.t 139) (.c .nilIface) 45),
 om 141 140,
 og 142 (.mv (.t 12)) 2 141 true,
 og 143 (.mv (.t 6)) 2 141 true,
 og 144 (.bin .eql 3 0 (.t 142) (.t 143) 3) 2 141 true,
 oo 145 (.pick (.t 141) (.t 144) (.c (.bool false))),
 om 146 145,
 og 147 (.faddr 37 0 (.t 1) 0) 7 146 true,
 og 148 (.load 3 none (.t 147)) 7 146 true,
 og 149 (.bin .geq 3 0 (.t 148) (.n 0) 3) 7 146 true,
 oo 150 (.pick (.t 146) (.t 149) (.c (.bool false))),
 om 151 150,
 og 152 (.faddr 37 0 (.t 1) 0) 12 151 true,
 og 153 (.load 3 none (.t 152)) 12 151 true,
 og 154 (.bin .leq 3 0 (.t 153) (.n 65536) 3) 12 151 true,
 oo 155 (.pick (.t 151) (.t 154) (.c (.bool false))),
 oo 2 (.asg (.t 155))]
def a34 : IC := (.seq (.reg a8r) (.seq (.reg a82) (.seq (.seq (.reg a8t) (.cond (.t 16) (.seq (.reg a75) .ret) .skip)) (.seq (.seq (.reg a8h) (.cond (.t 28) (.seq (.reg a77) .ret) .skip)) (.seq (.seq (.reg a8g) (.block 0 (.loop a1r))) (.seq (.reg a6p) (.seq (.seq (.reg a7f) (.block 2 (.loop a1q))) (.seq (.reg a6x) (.seq (.reg a6r) .ret)))))))))
abbrev a93 : Nat := 5
theorem a51 : fnC pg 5 156 [(.tmp 2)] a34 := a0x Go.Proofs.Tryd.f5 [(.tmp 2)] (by kernel_rfl)
@[go_sem] theorem c4d : fnB pg 5 = true := by kernel_rfl
@[go_sem] def a9n : List AO := [oo 8 (.asg (.c (.bool false)))]
@[go_sem] def a89 : List AO := [oc 18 11 [] [],
 oo 9 (.asg (.t 18))]
@[go_sem] def a9i : List AO := [om 19 9,
 oo 20 (.un .not 4 (.t 19))]
@[go_sem] def a9m : List AO := [oo 8 (.asg (.c (.bool false)))]
@[go_sem] def a9v : List AO := [om 21 0,
 oc 22 12 [(false, (.t 21)), (false, (.n 60))] [3, 3],
 oo 23 (.bin .add 3 0 (.t 22) (.n 1) 3),
 oo 0 (.asg (.t 23))]
@[go_sem] def a9c : List AO := [om 24 1,
 oc 25 12 [(false, (.t 24)), (false, (.n 60))] [3, 3],
 oo 26 (.bin .add 3 0 (.t 25) (.n 1) 3),
 oo 1 (.asg (.t 26))]
@[go_sem] def a9g : List AO := [om 27 0,
 om 28 1,
 oo 29 (.bslice 24 3 1 2 [.lit (.int .i64 0)] [(0, (.t 27)), (1, (.t 28))]),
 oo 30 (.build 26 [.own 1 0 [], .lit (.bool false)] [(0, 0, 1, (.t 29))]),
 oo 10 (.alloc 26 [.own 1 0 [], .lit (.bool false)]),
 ov (.store 26 2 (.t 10) (.t 30))]
@[go_sem] def a9e : List AO := [om 31 1,
 oo 32 (.bslice 24 3 1 2 [.lit (.int .i64 0)] [(0, (.t 31)), (1, (.n 1))]),
 oo 33 (.build 26 [.own 1 0 [], .lit (.bool false)] [(0, 0, 1, (.t 32))]),
 oo 11 (.alloc 26 [.own 1 0 [], .lit (.bool false)]),
 ov (.store 26 2 (.t 11) (.t 33))]
@[go_sem] def a9z : List AO := [om 34 0,
 oo 35 (.bslice 24 3 1 2 [.lit (.int .i64 0)] [(0, (.t 34)), (1, (.n 1))]),
 oo 36 (.build 26 [.own 1 0 [], .lit (.bool false)] [(0, 0, 1, (.t 35)), (1, 1, 1, (.c (.bool true)))]),
 oo 12 (.alloc 26 [.own 1 0 [], .lit (.bool false)]),
 ov (.store 26 2 (.t 12) (.t 36))]
@[go_sem] def a94 : List AO := [om 37 2,
 om 38 0,
 oo 39 (.bin .add 3 0 (.t 38) (.n 1) 3),
 oc 40 12 [(false, (.t 37)), (false, (.t 39))] [3, 3],
 oo 2 (.asg (.t 40))]
@[go_sem] def a78 : List AO := [om 41 2,
 om 42 3,
 om 43 0,
 oo 44 (.bin .add 3 0 (.t 43) (.n 1) 3),
 om 45 2,
 oo 46 (.bin .sub 3 0 (.t 44) (.t 45) 3),
 oc 47 12 [(false, (.t 42)), (false, (.t 46))] [3, 3],
 oo 48 (.bin .add 3 0 (.t 41) (.t 47) 3),
 oo 3 (.asg (.t 48))]
@[go_sem] def a81 : List AO := [oo 49 (.load 26 (some 2) (.t 10)),
 oo 50 (.build 28 [.lit (.int .i64 0), .own 1 0 [], .lit (.bool false)] [(1, 1, 2, (.t 49))]),
 oo 51 (.load 26 (some 2) (.t 11)),
 oo 52 (.build 28 [.lit (.int .i64 0), .own 1 0 [], .lit (.bool false)] [(0, 0, 1, (.n 5000)), (1, 1, 2, (.t 51))]),
 oo 53 (.load 26 (some 2) (.t 12)),
 oo 54 (.build 28 [.lit (.int .i64 0), .own 1 0 [], .lit (.bool false)] [(0, 0, 1, (.n 8000)), (1, 1, 2, (.t 53))]),
 oo 55 (.bslice 32 28 3 3 [.lit (.int .i64 0), .own 1 0 [], .lit (.bool false)] [(0, (.t 50)), (1, (.t 52)), (2, (.t 54))]),
 oo 56 (.bslice 24 3 1 2 [.lit (.int .i64 0)] [(0, (.n 0)), (1, (.n 1))]),
 oo 57 (.bslice 24 3 1 2 [.lit (.int .i64 0)] [(0, (.n 0)), (1, (.n 0))]),
 om 58 2,
 om 59 3,
 oo 60 (.build 40 [.lit (.int .i64 0), .lit (.int .i64 0), .own 1 0 [], .own 1 0 [], .lit (.int .i64 0), .lit (.int .i64 0)] [(0, 0, 1, (.n 12)), (1, 1, 1, (.n 2)), (2, 2, 1, (.t 56)), (3, 3, 1, (.t 57)), (4, 4, 1, (.t 58)), (5, 5, 1, (.t 59))]),
 oo 61 (.bslice 35 40 6 1 [.lit (.int .i64 0), .lit (.int .i64 0), .own 1 0 [], .own 1 0 [], .lit (.int .i64 0), .lit (.int .i64 0)] [(0, (.t 60))]),
 oo 62 (.build 37 [.lit (.int .i64 0), .own 3 0 [], .own 3 0 [], .own 2 0 [], .own 6 0 [], .lit (.int .i64 0), .lit (.int .i64 0)] [(0, 0, 1, (.n 20000)), (1, 1, 1, (.t 55)), (4, 4, 1, (.t 61))]),
 oo 13 (.alloc 37 [.lit (.int .i64 0), .own 3 0 [], .own 3 0 [], .own 2 0 [], .own 6 0 [], .lit (.int .i64 0), .lit (.int .i64 0)]),
 ov (.store 37 7 (.t 13) (.t 62))]
@[go_sem] def a8q : List AO := [oo 64 (.load 37 (some 7) (.t 13)),
 oc 65 21 [(false, (.t 64)), (false, (.n 0))] [37, 3],
 oo 63 (.mva (.t 65)),
 oo 66 (.ext (.t 63) 0),
 oo 67 (.ext (.t 63) 1),
 oo 14 (.asg (.t 66)),
 oo 15 (.asg (.t 67))]
@[go_sem] def a8z : List AO := [om 68 3,
 om 69 2,
 oo 70 (.bin .sub 3 0 (.t 68) (.t 69) 3),
 om 71 1,
 oo 72 (.bin .mul 3 0 (.t 70) (.t 71) 3),
 oo 73 (.bin .gtr 3 0 (.t 72) (.n 1024) 3)]
@[go_sem] def a8w : List AO := [om 74 9,
 om 75 74,
 og 76 (.mv (.t 14)) 1 75 true,
 og 77 (.bin .eql 3 0 (.t 76) (.n 0) 3) 1 75 true,
 oo 78 (.pick (.t 75) (.t 77) (.c (.bool false))),
 om 79 78,
 og 80 (.mv (.t 15)) 5 79 true,
 ⟨(some 81), .call 23 [(false, (.t 80)), (false, (.n 109))] [45, 3], (some (5, 79, true))⟩,
 oo 82 (.pick (.t 79) (.t 81) (.c (.bool false))),
 om 83 82,
 og 84 (.load 37 (some 7) (.t 13)) 9 83 true,
 ⟨(some 85), .call 18 [(false, (.t 84))] [37], (some (9, 83, true))⟩,
 ⟨(some 86), .call 19 [(false, (.n 109)), (false, (.n 0))] [3, 3], (some (9, 83, true))⟩,
 ⟨(some 87), .call 17 [(false, (.t 85)), (false, (.t 86))] [45, 48], (some (9, 83, true))⟩,
 oo 88 (.pick (.t 83) (.t 87) (.c (.bool false))),
 oo 8 (.asg (.t 88))]
@[go_sem] def a8e : List AO := [oo 90 (.load 37 (some 7) (.t 13)),
 oc 91 22 [(false, (.t 90))] [37],
 oo 89 (.mva (.t 91)),
 oo 92 (.ext (.t 89) 0),
 oo 93 (.ext (.t 89) 1),
 oo 16 (.asg (.t 92)),
 oo 17 (.asg (.t 93))]
@[go_sem] def a8n : List AO := [om 94 9,
 om 95 94,
 og 96 (.mv (.t 15)) 1 95 true,
 og 97 (.bin .eql 45 2 (.t 96) (.c .nilIface) 45) 1 95 true,
 oo 98 (.pick (.t 95) (.t 97) (.c (.bool false))),
 om 99 98,
 og 100 (.mv (.t 17)) 5 99 true,
 og 101 (.bin .eql 45 2 (.t 100) (.c .nilIface) 45) 5 99 true,
 oo 102 (.pick (.t 99) (.t 101) (.c (.bool false))),
 om 103 102,
 og 104 (.mv (.t 14)) 9 103 true,
 og 105 (.mv (.t 3)) 9 103 true,
 og 106 (.mv (.t 2)) 9 103 true,
 og 107 (.bin .sub 3 0 (.t 105) (.t 106) 3) 9 103 true,
 og 108 (.mv (.t 1)) 9 103 true,
 og 109 (.bin .mul 3 0 (.t 107) (.t 108) 3) 9 103 true,
 og 110 (.mm true [3, 3] [(.n 1), (.t 109)]) 9 103 true,
 og 111 (.bin .eql 3 0 (.t 104) (.t 110) 3) 9 103 true,
 oo 112 (.pick (.t 103) (.t 111) (.c (.bool false))),
 om 113 112,
 og 114 (.mv (.t 16)) 19 113 true,
 og 115 (.mv (.t 14)) 19 113 true,
 og 116 (.bin .eql 3 0 (.t 114) (.t 115) 3) 19 113 true,
 oo 117 (.pick (.t 113) (.t 116) (.c (.bool false))),
 oo 8 (.asg (.t 117))]
def a39 : IC := (.seq (.reg a9n) (.seq (.reg a89) (.seq (.seq (.reg a9i) (.cond (.t 20) (.seq (.reg a9m) .ret) .skip)) (.seq (.reg a9v) (.seq (.reg a9c) (.seq (.reg a9g) (.seq (.reg a9e) (.seq (.reg a9z) (.seq (.reg a94) (.seq (.reg a78) (.seq (.reg a81) (.seq (.reg a8q) (.seq (.seq (.reg a8z) (.cond (.t 73) (.seq (.reg a8w) .ret) .skip)) (.seq (.reg a8e) (.seq (.reg a8n) .ret)))))))))))))))
abbrev b0n : Nat := 6
theorem a6h : fnC pg 6 118 [(.tmp 8)] a39 := a0x Go.Proofs.Tryd.f6 [(.tmp 8)] (by kernel_rfl)
@[go_sem] theorem c7a : fnB pg 6 = true := by kernel_rfl
@[go_sem] def b7q : List AO := [oo 1 (.box 40 6 (.t 0)),
 oo 2 (.alloc 40 [.lit (.int .i64 0), .lit (.int .i64 0), .own 1 0 [], .own 1 0 [], .lit (.int .i64 0), .lit (.int .i64 0)])]
@[go_sem] def b6y : List AO := [oo 3 (.faddr 40 0 (.t 1) 0),
 oo 4 (.load 3 none (.t 3)),
 oo 5 (.faddr 40 1 (.t 1) 1),
 oo 6 (.load 3 none (.t 5)),
 oo 7 (.faddr 40 2 (.t 1) 2),
 oo 8 (.load 24 none (.t 7)),
 oc 9 34 [(false, (.t 8))] [24],
 oo 10 (.faddr 40 3 (.t 1) 3),
 oo 11 (.load 24 none (.t 10)),
 oc 12 34 [(false, (.t 11))] [24],
 oo 13 (.faddr 40 4 (.t 1) 4),
 oo 14 (.load 3 none (.t 13)),
 oo 15 (.faddr 40 5 (.t 1) 5),
 oo 16 (.load 3 none (.t 15)),
 oo 17 (.build 40 [.lit (.int .i64 0), .lit (.int .i64 0), .own 1 0 [], .own 1 0 [], .lit (.int .i64 0), .lit (.int .i64 0)] [(0, 0, 1, (.t 4)), (1, 1, 1, (.t 6)), (2, 2, 1, (.t 9)), (3, 3, 1, (.t 12)), (4, 4, 1, (.t 14)), (5, 5, 1, (.t 16))]),
 ov (.store 40 6 (.t 2) (.t 17))]
def b0v : IC := (.seq (.reg b7q) (.seq (.draw b6y [[], [0], [], [2], [], [4], [5], [], [7], [8, 6], [], [10], [], [12], [1, 3, 6, 9, 11, 13], [14, 9, 0, 1, 2, 3, 4, 5, 6, 7, 8, 9, 10, 11, 12, 13, 14]]) .ret))
abbrev b80 : Nat := 16
theorem b3c : fnC pg 16 18 [(.cells 2 6)] b0v := a0x Go.Proofs.Tryd.f16 [(.cell 2 40)] (by kernel_rfl)
@[go_sem] theorem d9r : fnB pg 16 = true := by kernel_rfl
@[go_sem] def d2v : List AO := [oo 2 (.asg (.c (.bool false)))]
@[go_sem] def d0m : List AO := [om 3 0,
 oc 4 114 [(false, (.t 3))] [3],
 om 5 0,
 oo 6 (.bin .eql 3 0 (.t 4) (.t 5) 3),
 oo 2 (.asg (.t 6))]
def b8e : IC := (.seq (.reg d2v) (.seq (.reg d0m) .ret))
abbrev d4y : Nat := 113
theorem c38 : fnC pg 113 7 [(.tmp 2)] b8e := a0x Go.Proofs.Tryd.f113 [(.tmp 2)] (by kernel_rfl)
@[go_sem] theorem e5w : fnB pg 113 = true := by kernel_rfl
@[go_sem] def c53 : List AO := [oo 2 (.asg (.n 0))]
@[go_sem] def c76 : List AO := [om 3 0,
 oo 4 (.mm false [3, 3] [(.t 3), (.n 127)]),
 oo 5 (.mm true [3, 3] [(.n (-128)), (.t 4)]),
 oo 2 (.asg (.t 5))]
def b5f : IC := (.seq (.reg c53) (.seq (.reg c76) .ret))
abbrev d3i : Nat := 114
theorem b8s : fnC pg 114 6 [(.tmp 2)] b5f := a0x Go.Proofs.Tryd.f114 [(.tmp 2)] (by kernel_rfl)
@[go_sem] theorem e4f : fnB pg 114 = true := by kernel_rfl
@[go_sem] def d0h : List AO := [oo 4 (.alloc 26 [.own 1 0 [], .lit (.bool false)]),
 oo 5 (.asg (.c (.bool false)))]
@[go_sem] def d31 : List AO := [om 9 1,
 oo 10 (.iaddr 34 2 (.t 9) (.n 0)),
 oo 11 (.load 26 (some 2) (.t 10)),
 oo 6 (.alloc 26 [.own 1 0 [], .lit (.bool false)]),
 ov (.store 26 2 (.t 6) (.t 11))]
@[go_sem] def d1t : List AO := [oo 12 (.faddr 26 0 (.t 6) 0),
 oo 13 (.load 24 none (.t 12)),
 oo 14 (.len 24 false (.t 13)),
 oo 7 (.asg (.t 14))]
@[go_sem] def d2r : List AO := [om 15 0]
@[go_sem] def d23 : List AO := [oo 17 (.bin .eql 3 0 (.t 15) (.n 16) 3),
 oo 16 (.asg (.t 17))]
@[go_sem] def d3u : List AO := [oo 18 (.load 26 (some 2) (.t 6)),
 oc 19 71 [(false, (.t 18))] [26],
 om 20 7,
 oo 21 (.bin .gtr 3 0 (.t 20) (.n 0) 3),
 om 22 21,
 og 23 (.faddr 26 1 (.t 6) 1) 4 22 true,
 og 24 (.load 4 none (.t 23)) 4 22 true,
 og 25 (.un .not 4 (.t 24)) 4 22 true,
 oo 26 (.pick (.t 22) (.t 25) (.c (.bool false))),
 om 27 26,
 og 28 (.mv (.t 1)) 9 27 true,
 og 29 (.iaddr 34 2 (.t 28) (.n 1)) 9 27 true,
 og 30 (.load 26 (some 2) (.t 29)) 9 27 true,
 og 31 (.bslice 24 3 1 1 [.lit (.int .i64 0)] [(0, (.n 256))]) 9 27 true,
 og 32 (.build 26 [.own 1 0 [], .lit (.bool false)] [(0, 0, 1, (.t 31)), (1, 1, 1, (.c (.bool true)))]) 9 27 true,
 ⟨(some 33), .call 85 [(false, (.t 30)), (false, (.t 32))] [26, 26], (some (9, 27, true))⟩,
 oo 34 (.pick (.t 27) (.t 33) (.c (.bool false))),
 ov (.store 26 2 (.t 4) (.t 19)),
 oo 5 (.asg (.t 34))]
@[go_sem] def d21 : List AO := [oo 36 (.bin .eql 3 0 (.t 15) (.n 17) 3),
 oo 35 (.asg (.t 36))]
@[go_sem] def d0u : List AO := [om 37 1,
 oo 38 (.iaddr 34 2 (.t 37) (.n 1)),
 oo 39 (.load 26 (some 2) (.t 38)),
 oo 8 (.alloc 26 [.own 1 0 [], .lit (.bool false)]),
 ov (.store 26 2 (.t 8) (.t 39))]
@[go_sem] def d3h : List AO := [om 40 7,
 oo 41 (.bin .neq 3 0 (.t 40) (.n 2) 3),
 om 42 41,
 og 43 (.faddr 26 0 (.t 8) 0) 2 42 false,
 og 44 (.load 24 none (.t 43)) 2 42 false,
 og 45 (.len 24 false (.t 44)) 2 42 false,
 og 46 (.bin .neq 3 0 (.t 45) (.n 1) 3) 2 42 false,
 oo 47 (.pick (.t 42) (.c (.bool true)) (.t 46)),
 om 48 47,
 og 49 (.faddr 26 1 (.t 8) 1) 8 48 false,
 og 50 (.load 4 none (.t 49)) 8 48 false,
 og 51 (.un .not 4 (.t 50)) 8 48 false,
 oo 52 (.pick (.t 48) (.c (.bool true)) (.t 51))]
@[go_sem] def d3r : List AO := [oo 53 (.build 26 [.sl 0 [], .lit (.bool false)] []),
 ov (.store 26 2 (.t 4) (.t 53)),
 oo 5 (.asg (.c (.bool false)))]
@[go_sem] def c70 : List AO := [oo 54 (.faddr 26 0 (.t 8) 0),
 oo 55 (.load 24 none (.t 54)),
 oo 56 (.iaddr 24 1 (.t 55) (.n 0)),
 oo 57 (.load 3 none (.t 56)),
 oo 58 (.faddr 26 0 (.t 6) 0),
 oo 59 (.load 24 none (.t 58)),
 oo 60 (.iaddr 24 1 (.t 59) (.n 1)),
 oo 61 (.load 3 none (.t 60)),
 oo 62 (.bslice 24 3 1 2 [.lit (.int .i64 0)] [(0, (.t 57)), (1, (.t 61))]),
 oo 63 (.faddr 26 1 (.t 6) 1),
 oo 64 (.load 4 none (.t 63)),
 oo 65 (.build 26 [.own 1 0 [], .lit (.bool false)] [(0, 0, 1, (.t 62)), (1, 1, 1, (.t 64))]),
 ov (.store 26 2 (.t 4) (.t 65)),
 oo 5 (.asg (.c (.bool true)))]
@[go_sem] def c6y : List AO := [om 66 7,
 oo 67 (.bin .eql 3 0 (.t 66) (.n 0) 3)]
@[go_sem] def c8l : List AO := [oo 68 (.build 26 [.sl 0 [], .lit (.bool false)] []),
 ov (.store 26 2 (.t 4) (.t 68)),
 oo 5 (.asg (.c (.bool false)))]
@[go_sem] def c58 : List AO := [oo 69 (.faddr 26 0 (.t 6) 0),
 oo 70 (.load 24 none (.t 69)),
 om 71 7,
 oo 72 (.bin .sub 3 0 (.t 71) (.n 1) 3),
 oo 73 (.slice 24 1 (.t 70) none (some (.t 72)) none),
 oc 74 99 [(false, (.t 73))] [24],
 oo 75 (.build 26 [.own 1 0 [], .lit (.bool false)] [(0, 0, 1, (.t 74)), (1, 1, 1, (.c (.bool true)))]),
 ov (.store 26 2 (.t 4) (.t 75)),
 oo 5 (.asg (.c (.bool true)))]
def a2o : IC := (.seq (.reg d0h) (.seq (.reg d31) (.seq (.reg d1t) (.seq (.seq (.reg d2r) (.block 0 (.seq (.reg d23) (.cond (.t 16) (.seq (.reg d3u) .ret) (.seq (.reg d21) (.cond (.t 35) (.seq (.reg d0u) (.seq (.seq (.reg d3h) (.cond (.t 52) (.seq (.reg d3r) .ret) .skip)) (.seq (.draw c70 [[], [0], [1], [2], [], [4], [5], [6], [3, 7], [], [9], [8, 10], [11, 0, 1, 2, 3, 4, 5, 6, 7, 8, 9, 10, 11], [12, 0, 1, 2, 3, 4, 5, 6, 7, 8, 9, 10, 11, 12]]) .ret))) .skip)))))) (.seq (.seq (.reg c6y) (.cond (.t 67) (.seq (.reg c8l) .ret) .skip)) (.seq (.reg c58) .ret))))))
abbrev a7s : Nat := 115
theorem a17 : fnC pg 115 76 [(.cells 4 2), (.tmp 5)] a2o := a0x Go.Proofs.Tryd.f115 [(.cell 4 26), (.tmp 5)] (by kernel_rfl)
@[go_sem] theorem e51 : fnB pg 115 = true := by kernel_rfl
@[go_sem] def c7l : List AO := [oo 2 (.asg (.n 0)),
 oo 3 (.asg (.n 0)),
 oo 4 (.asg (.c (.bool false)))]
@[go_sem] def c5e : List AO := [om 5 0]
@[go_sem] def c4r : List AO := [oo 7 (.bin .eql 3 0 (.t 5) (.n 4) 3),
 oo 6 (.asg (.t 7))]
@[go_sem] def c5v : List AO := [oo 8 (.bin .eql 3 0 (.t 5) (.n 5) 3),
 oo 6 (.asg (.t 8))]
@[go_sem] def c7w : List AO := [oo 9 (.bin .eql 3 0 (.t 5) (.n 6) 3),
 oo 6 (.asg (.t 9))]
@[go_sem] def c5p : List AO := [oo 10 (.bin .eql 3 0 (.t 5) (.n 7) 3),
 oo 6 (.asg (.t 10))]
@[go_sem] def c5o : List AO := [oo 2 (.asg (.n 2)),
 oo 3 (.asg (.n 0)),
 oo 4 (.asg (.c (.bool true)))]
@[go_sem] def c5w : List AO := [oo 12 (.bin .eql 3 0 (.t 5) (.n 8) 3),
 oo 11 (.asg (.t 12))]
@[go_sem] def c7y : List AO := [oo 2 (.asg (.n 1)),
 oo 3 (.asg (.n 0)),
 oo 4 (.asg (.c (.bool true)))]
@[go_sem] def c7e : List AO := [oo 14 (.bin .eql 3 0 (.t 5) (.n 9) 3),
 oo 13 (.asg (.t 14))]
@[go_sem] def c19 : List AO := [oo 2 (.asg (.n 1)),
 oo 3 (.asg (.n 2)),
 oo 4 (.asg (.c (.bool true)))]
@[go_sem] def c3o : List AO := [oo 16 (.bin .eql 3 0 (.t 5) (.n 10) 3),
 oo 15 (.asg (.t 16))]
@[go_sem] def c14 : List AO := [oo 2 (.asg (.n 1)),
 oo 3 (.asg (.n 3)),
 oo 4 (.asg (.c (.bool true)))]
@[go_sem] def c1v : List AO := [oo 18 (.bin .eql 3 0 (.t 5) (.n 11) 3),
 oo 17 (.asg (.t 18))]
@[go_sem] def c1q : List AO := [oo 2 (.asg (.n 1)),
 oo 3 (.asg (.n 1)),
 oo 4 (.asg (.c (.bool true)))]
@[go_sem] def c1y : List AO := [oo 2 (.asg (.n 0)),
 oo 3 (.asg (.n 0)),
 oo 4 (.asg (.c (.bool false)))]
def b58 : IC := (.seq (.reg c7l) (.seq (.seq (.reg c5e) (.block 0 (.seq (.seq (.reg c4r) (.cond (.t 6) .skip (.seq (.reg c5v) (.cond (.t 6) .skip (.seq (.reg c7w) (.cond (.t 6) .skip (.reg c5p))))))) (.cond (.t 6) (.seq (.reg c5o) .ret) (.seq (.reg c5w) (.cond (.t 11) (.seq (.reg c7y) .ret) (.seq (.reg c7e) (.cond (.t 13) (.seq (.reg c19) .ret) (.seq (.reg c3o) (.cond (.t 15) (.seq (.reg c14) .ret) (.seq (.reg c1v) (.cond (.t 17) (.seq (.reg c1q) .ret) .skip)))))))))))) (.seq (.reg c1y) .ret)))
abbrev d1o : Nat := 116
theorem b9h : fnC pg 116 19 [(.tmp 2), (.tmp 3), (.tmp 4)] b58 := a0x Go.Proofs.Tryd.f116 [(.tmp 2), (.tmp 3), (.tmp 4)] (by kernel_rfl)
@[go_sem] theorem e5e : fnB pg 116 = true := by kernel_rfl
@[go_sem] def e1e : List AO := [oo 4 (.asg (.c (.bool false)))]
@[go_sem] def e1v : List AO := [om 5 1]
@[go_sem] def e16 : List AO := [om 6 0,
 oc 7 118 [(false, (.t 6)), (false, (.n (-2147483648))), (false, (.n 2147483647))] [3, 3, 3],
 oo 4 (.asg (.t 7))]
@[go_sem] def e03 : List AO := [om 8 0,
 oc 9 118 [(false, (.t 8)), (false, (.n (-128))), (false, (.n 127))] [3, 3, 3],
 oo 4 (.asg (.t 9))]
def c0g : IC := (.seq (.reg e1e) (.seq (.seq (.reg e1v) (.cond (.t 5) (.seq (.reg e16) .ret) .skip)) (.seq (.reg e03) .ret)))
abbrev e3c : Nat := 117
theorem d6a : fnC pg 117 10 [(.tmp 4)] c0g := a0x Go.Proofs.Tryd.f117 [(.tmp 4)] (by kernel_rfl)
@[go_sem] theorem f05 : fnB pg 117 = true := by kernel_rfl
@[go_sem] def e1u : List AO := [oo 6 (.asg (.c (.bool false)))]
@[go_sem] def d9v : List AO := [om 7 0,
 om 8 1,
 oo 9 (.bin .geq 3 0 (.t 7) (.t 8) 3),
 om 10 9,
 og 11 (.mv (.t 0)) 3 10 true,
 og 12 (.mv (.t 2)) 3 10 true,
 og 13 (.bin .leq 3 0 (.t 11) (.t 12) 3) 3 10 true,
 oo 14 (.pick (.t 10) (.t 13) (.c (.bool false))),
 oo 6 (.asg (.t 14))]
def d5d : IC := (.seq (.reg e1u) (.seq (.reg d9v) .ret))
abbrev e3a : Nat := 118
theorem d5w : fnC pg 118 15 [(.tmp 6)] d5d := a0x Go.Proofs.Tryd.f118 [(.tmp 6)] (by kernel_rfl)
@[go_sem] theorem f1s : fnB pg 118 = true := by kernel_rfl
end Go.Ideal.Tryd
end
