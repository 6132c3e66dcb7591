/- Part Pq of the proof: a machine with trees for values, its soundness, and walks on it. -/
import Derived.Test.YtfdhkijgolgnfaaDoorPk
section
set_option linter.unusedVariables false
set_option maxRecDepth 10000
namespace Go.Ideal.Tryd
@[go_sem] def a7v : List AO := [oo 2 (.asg (.c (.bool false)))]
@[go_sem] def a79 : List AO := [oc 8 32 [] [],
 oo 3 (.asg (.t 8))]
@[go_sem] def a7y : List AO := [om 9 3,
 oo 10 (.un .not 4 (.t 9))]
@[go_sem] def a7x : List AO := [oo 2 (.asg (.c (.bool false)))]
@[go_sem] def a8g : List AO := [om 11 0,
 oo 12 (.len 44 false (.t 11)),
 oo 13 (.bin .gtr 3 0 (.t 12) (.n 2000) 3),
 om 14 13,
 og 15 (.mv (.t 3)) 3 14 false,
 og 16 (.un .not 4 (.t 15)) 3 14 false,
 oo 17 (.pick (.t 14) (.c (.bool true)) (.t 16))]
@[go_sem] def a8f : List AO := [om 18 3,
 oo 2 (.asg (.t 18))]
@[go_sem] def a8j : List AO := [om 20 0,
 oc 21 42 [(false, (.t 20))] [44],
 oo 19 (.mva (.t 21)),
 oo 22 (.ext (.t 19) 0),
 oo 23 (.ext (.t 19) 1),
 oo 4 (.alloc 65 [.lit (.int .i64 0), .own 3 0 [], .own 3 0 [], .own 2 0 [], .own 6 0 [], .lit (.int .i64 0), .lit (.int .i64 0)]),
 ov (.store 65 7 (.t 4) (.t 22)),
 oo 5 (.asg (.t 23))]
@[go_sem] def a8e : List AO := [om 24 5,
 oo 25 (.bin .neq 26 2 (.t 24) (.c .nilIface) 26)]
@[go_sem] def a7r : List AO := [oo 26 (.faddr 65 1 (.t 4) 1),
 oo 27 (.load 60 none (.t 26)),
 oo 28 (.len 60 false (.t 27)),
 oo 29 (.bin .eql 3 0 (.t 28) (.n 0) 3),
 om 30 29,
 og 31 (.faddr 65 4 (.t 4) 4) 4 30 true,
 og 32 (.load 63 none (.t 31)) 4 30 true,
 og 33 (.len 63 false (.t 32)) 4 30 true,
 og 34 (.bin .eql 3 0 (.t 33) (.n 0) 3) 4 30 true,
 oo 35 (.pick (.t 30) (.t 34) (.c (.bool false))),
 oo 2 (.asg (.t 35))]
@[go_sem] def a8i : List AO := [oo 37 (.load 65 (some 7) (.t 4)),
 oc 38 43 [(false, (.t 37))] [65],
 oo 36 (.mva (.t 38)),
 oo 39 (.ext (.t 36) 0),
 oo 40 (.ext (.t 36) 1),
 oo 6 (.asg (.t 39)),
 oo 7 (.asg (.t 40))]
@[go_sem] def a63 : List AO := [om 41 7,
 oo 42 (.bin .eql 26 2 (.t 41) (.c .nilIface) 26),
 om 43 42,
 og 44 (.mv (.t 0)) 2 43 true,
 og 45 (.mv (.t 6)) 2 43 true,
 ⟨(some 46), .call 29 [(false, (.t 44)), (false, (.t 45))] [44, 44], (some (2, 43, true))⟩,
 oo 47 (.pick (.t 43) (.t 46) (.c (.bool false))),
 oo 2 (.asg (.t 47))]
def a3x : IC := (.seq (.reg a7v) (.seq (.reg a79) (.seq (.seq (.reg a7y) (.cond (.t 10) (.seq (.reg a7x) .ret) .skip)) (.seq (.seq (.reg a8g) (.cond (.t 17) (.seq (.reg a8f) .ret) .skip)) (.seq (.reg a8j) (.seq (.seq (.reg a8e) (.cond (.t 25) (.seq (.reg a7r) .ret) .skip)) (.seq (.reg a8i) (.seq (.reg a63) .ret))))))))
abbrev a8u : Nat := 10
theorem a6l : fnC pg 10 48 [(.tmp 2)] a3x := a1k Go.Proofs.Tryd.f10 [(.tmp 2)] (by kernel_rfl)
@[go_sem] theorem c1e : fnB pg 10 = true := by kernel_rfl
@[go_sem] def c73 : List AO := [oo 2 (.alloc 65 [.lit (.int .i64 0), .own 3 0 [], .own 3 0 [], .own 2 0 [], .own 6 0 [], .lit (.int .i64 0), .lit (.int .i64 0)]),
 oo 3 (.asg (.c .nilIface))]
@[go_sem] def c8h : List AO := [om 13 0,
 oo 14 (.build 130 [.own 1 0 [], .lit (.int .i64 0), .lit .nilIface] [(0, 0, 1, (.t 13))]),
 oo 15 (.box 130 3 (.t 14)),
 oo 4 (.asg (.t 15))]
@[go_sem] def c7e : List AO := [om 16 4,
 ⟨(some 17), .callx (.f 81) [(false, (.c (.string ⟨#[76,80]⟩)))] [.x (.t 16), .p 0] [128, 9], none⟩]
@[go_sem] def c6z : List AO := [om 18 4,
 ⟨(some 19), .callx (.f 86) [] [.x (.t 18)] [128], none⟩,
 oo 20 (.build 65 [.lit (.int .i64 0), .own 3 0 [], .own 3 0 [], .own 2 0 [], .own 6 0 [], .lit (.int .i64 0), .lit (.int .i64 0)] [(0, 0, 1, (.t 19))]),
 oo 5 (.alloc 65 [.lit (.int .i64 0), .own 3 0 [], .own 3 0 [], .own 2 0 [], .own 6 0 [], .lit (.int .i64 0), .lit (.int .i64 0)]),
 ov (.store 65 7 (.t 5) (.t 20))]
@[go_sem] def c5y : List AO := [om 21 4,
 om 22 4,
 oo 23 (.mkf 83 [(.t 22)] []),
 ⟨(some 24), .callx (.f 82) [(false, (.n 128))] [.x (.t 21), .p 0, .x (.t 23)] [128, 3, 133], none⟩,
 oo 6 (.asg (.t 24))]
@[go_sem] def c7t : List AO := [om 25 6,
 oo 26 (.bin .gtr 3 0 (.t 25) (.n 0) 3),
 om 27 26,
 og 28 (.mv (.t 4)) 2 27 true,
 og 29 (.nilck (.t 28)) 2 27 true,
 og 30 (.faddr 130 2 (.t 29) 2) 2 27 true,
 og 31 (.load 26 none (.t 30)) 2 27 true,
 og 32 (.bin .eql 26 2 (.t 31) (.c .nilIface) 26) 2 27 true,
 oo 33 (.pick (.t 27) (.t 32) (.c (.bool false)))]
@[go_sem] def c8o : List AO := [om 36 4,
 ⟨(some 37), .callx (.f 86) [] [.x (.t 36)] [128], none⟩,
 oo 7 (.asg (.t 37))]
@[go_sem] def c5q : List AO := [oo 38 (.faddr 65 1 (.t 5) 1),
 oo 39 (.load 60 none (.t 38)),
 om 40 7,
 om 41 4,
 ⟨(some 42), .callx (.f 92) [] [.x (.t 41)] [128], none⟩,
 oo 43 (.build 74 [.lit (.int .i64 0), .own 1 0 [], .lit (.bool false)] [(0, 0, 1, (.t 40)), (1, 1, 2, (.t 42))]),
 oo 44 (.bslice 60 74 3 1 [.lit (.int .i64 0), .own 1 0 [], .lit (.bool false)] [(0, (.t 43))]),
 oo 45 (.app 60 74 3 40 (.t 39) (.t 44)),
 oo 46 (.faddr 65 1 (.t 5) 1),
 ov (.store 60 1 (.t 46) (.t 45))]
@[go_sem] def c6a : List AO := [om 34 6,
 oo 35 (.bin .sub 3 0 (.t 34) (.n 1) 3),
 oo 6 (.asg (.t 35))]
def a4h : IC := (.seq (.seq (.reg c7t) (.cond (.t 33) .skip (.exit 0))) (.seq (.block 1 (.seq (.reg c8o) (.draw c5q [[], [0], [], [], [3], [2, 4], [5], [1, 6, 4], [0, 1, 2, 3, 4, 5, 6, 7], [8, 7, 7, 0, 1, 2, 3, 4, 5, 6, 7]]))) (.reg c6a)))
@[go_sem] def c8s : List AO := [om 47 4,
 om 48 4,
 oo 49 (.mkf 83 [(.t 48)] []),
 ⟨(some 50), .callx (.f 82) [(false, (.n 64))] [.x (.t 47), .p 0, .x (.t 49)] [128, 3, 133], none⟩,
 oo 8 (.asg (.n 0)),
 oo 9 (.asg (.t 50))]
@[go_sem] def c3y : List AO := [om 51 8,
 om 52 9,
 oo 53 (.bin .lss 3 0 (.t 51) (.t 52) 3),
 om 54 53,
 og 55 (.mv (.t 4)) 3 54 true,
 og 56 (.nilck (.t 55)) 3 54 true,
 og 57 (.faddr 130 2 (.t 56) 2) 3 54 true,
 og 58 (.load 26 none (.t 57)) 3 54 true,
 og 59 (.bin .eql 26 2 (.t 58) (.c .nilIface) 26) 3 54 true,
 oo 60 (.pick (.t 54) (.t 59) (.c (.bool false)))]
@[go_sem] def c46 : List AO := [oo 63 (.faddr 65 2 (.t 5) 2),
 oo 64 (.load 61 none (.t 63)),
 om 65 4,
 om 66 8,
 ⟨(some 67), .callx (.f 87) [(false, (.t 66))] [.x (.t 65), .p 0] [128, 3], none⟩,
 oo 68 (.bslice 61 56 3 1 [.own 1 0 [], .lit (.bool false), .own 1 0 []] [(0, (.t 67))]),
 oo 69 (.app 61 56 3 56 (.t 64) (.t 68)),
 oo 70 (.faddr 65 2 (.t 5) 2),
 ov (.store 61 1 (.t 70) (.t 69))]
@[go_sem] def c3v : List AO := [om 61 8,
 oo 62 (.bin .add 3 0 (.t 61) (.n 1) 3),
 oo 8 (.asg (.t 62))]
def a4j : IC := (.seq (.seq (.reg c3y) (.cond (.t 60) .skip (.exit 2))) (.seq (.block 3 (.draw c46 [[], [0], [], [], [2, 3], [4], [1, 5, 4], [0, 1, 2, 3, 4, 5, 6], [7, 6, 6, 0, 1, 2, 3, 4, 5, 6]])) (.reg c3v)))
@[go_sem] def c17 : List AO := [om 71 4,
 om 72 4,
 oo 73 (.mkf 83 [(.t 72)] []),
 ⟨(some 74), .callx (.f 82) [(false, (.n 8))] [.x (.t 71), .p 0, .x (.t 73)] [128, 3, 133], none⟩,
 oo 10 (.asg (.t 74))]
@[go_sem] def c2d : List AO := [om 75 10,
 oo 76 (.bin .gtr 3 0 (.t 75) (.n 0) 3),
 om 77 76,
 og 78 (.mv (.t 4)) 2 77 true,
 og 79 (.nilck (.t 78)) 2 77 true,
 og 80 (.faddr 130 2 (.t 79) 2) 2 77 true,
 og 81 (.load 26 none (.t 80)) 2 77 true,
 og 82 (.bin .eql 26 2 (.t 81) (.c .nilIface) 26) 2 77 true,
 oo 83 (.pick (.t 77) (.t 82) (.c (.bool false)))]
@[go_sem] def c5l : List AO := [oo 86 (.faddr 65 3 (.t 5) 3),
 oo 87 (.load 62 none (.t 86)),
 om 88 4,
 ⟨(some 89), .callx (.f 92) [] [.x (.t 88)] [128], none⟩,
 oo 90 (.bslice 62 54 2 1 [.own 1 0 [], .lit (.bool false)] [(0, (.t 89))]),
 oo 91 (.app 62 54 2 32 (.t 87) (.t 90)),
 oo 92 (.faddr 65 3 (.t 5) 3),
 ov (.store 62 1 (.t 92) (.t 91))]
@[go_sem] def c2k : List AO := [om 84 10,
 oo 85 (.bin .sub 3 0 (.t 84) (.n 1) 3),
 oo 10 (.asg (.t 85))]
def a4g : IC := (.seq (.seq (.reg c2d) (.cond (.t 83) .skip (.exit 4))) (.seq (.block 5 (.draw c5l [[], [0], [], [2], [3], [1, 4, 3], [0, 1, 2, 3, 4, 5], [6, 5, 5, 0, 1, 2, 3, 4, 5]])) (.reg c2k)))
@[go_sem] def c4f : List AO := [om 93 4,
 om 94 4,
 oo 95 (.mkf 83 [(.t 94)] []),
 ⟨(some 96), .callx (.f 82) [(false, (.n 2048))] [.x (.t 93), .p 0, .x (.t 95)] [128, 3, 133], none⟩,
 oo 11 (.asg (.t 96))]
@[go_sem] def c2r : List AO := [om 97 11,
 oo 98 (.bin .gtr 3 0 (.t 97) (.n 0) 3),
 om 99 98,
 og 100 (.mv (.t 4)) 2 99 true,
 og 101 (.nilck (.t 100)) 2 99 true,
 og 102 (.faddr 130 2 (.t 101) 2) 2 99 true,
 og 103 (.load 26 none (.t 102)) 2 99 true,
 og 104 (.bin .eql 26 2 (.t 103) (.c .nilIface) 26) 2 99 true,
 oo 105 (.pick (.t 99) (.t 104) (.c (.bool false)))]
@[go_sem] def c3h : List AO := [oo 108 (.faddr 65 4 (.t 5) 4),
 oo 109 (.load 63 none (.t 108)),
 om 110 4,
 ⟨(some 111), .callx (.f 93) [] [.x (.t 110)] [128], none⟩,
 oo 112 (.bslice 63 71 6 1 [.lit (.int .i64 0), .lit (.int .i64 0), .own 1 0 [], .own 1 0 [], .lit (.int .i64 0), .lit (.int .i64 0)] [(0, (.t 111))]),
 oo 113 (.app 63 71 6 80 (.t 109) (.t 112)),
 oo 114 (.faddr 65 4 (.t 5) 4),
 ov (.store 63 1 (.t 114) (.t 113))]
@[go_sem] def c42 : List AO := [om 106 11,
 oo 107 (.bin .sub 3 0 (.t 106) (.n 1) 3),
 oo 11 (.asg (.t 107))]
def a4e : IC := (.seq (.seq (.reg c2r) (.cond (.t 105) .skip (.exit 6))) (.seq (.block 7 (.draw c3h [[], [0], [], [2], [3], [1, 4, 3], [0, 1, 2, 3, 4, 5], [6, 5, 5, 0, 1, 2, 3, 4, 5]])) (.reg c42)))
@[go_sem] def c5k : List AO := [om 115 4,
 ⟨(some 116), .callx (.f 86) [] [.x (.t 115)] [128], none⟩,
 om 117 4,
 ⟨(some 118), .callx (.f 86) [] [.x (.t 117)] [128], none⟩,
 oo 119 (.faddr 65 5 (.t 5) 5),
 ov (.store 3 1 (.t 119) (.t 116)),
 oo 120 (.faddr 65 6 (.t 5) 6),
 ov (.store 3 1 (.t 120) (.t 118))]
@[go_sem] def c5e : List AO := [om 121 4,
 ⟨(some 122), .callx (.f 88) [] [.x (.t 121)] [128], none⟩,
 oo 12 (.asg (.t 122))]
@[go_sem] def c3s : List AO := [om 123 12,
 oo 124 (.bin .neq 26 2 (.t 123) (.c .nilIface) 26)]
@[go_sem] def c4a : List AO := [oo 125 (.build 65 [.lit (.int .i64 0), .sl 0 [], .sl 0 [], .sl 0 [], .sl 0 [], .lit (.int .i64 0), .lit (.int .i64 0)] []),
 om 126 12,
 ov (.store 65 7 (.t 2) (.t 125)),
 oo 3 (.asg (.t 126))]
@[go_sem] def c3x : List AO := [oo 127 (.load 65 (some 7) (.t 5)),
 ov (.store 65 7 (.t 2) (.t 127)),
 oo 3 (.asg (.c .nilIface))]
def b7i : IC := (.seq (.reg c73) (.seq (.reg c8h) (.seq (.reg c7e) (.seq (.reg c6z) (.seq (.seq (.reg c5y) (.block 0 (.loop a4h))) (.seq (.seq (.reg c8s) (.block 2 (.loop a4j))) (.seq (.seq (.reg c17) (.block 4 (.loop a4g))) (.seq (.seq (.reg c4f) (.block 6 (.loop a4e))) (.seq (.reg c5k) (.seq (.seq (.reg c5e) (.seq (.reg c3s) (.cond (.t 124) (.seq (.reg c4a) .ret) .skip))) (.seq (.reg c3x) .ret)))))))))))
abbrev c9v : Nat := 42
theorem c0r : fnC pg 42 128 [(.cells 2 7), (.tmp 3)] b7i := a1k Go.Proofs.Tryd.f42 [(.cell 2 65), (.tmp 3)] (by kernel_rfl)
@[go_sem] theorem d58 : fnB pg 42 = true := by kernel_rfl
@[go_sem] def c4u : List AO := [oo 1 (.box 65 7 (.t 0)),
 oo 2 (.asg (.nl 1)),
 oo 3 (.asg (.c .nilIface))]
@[go_sem] def c4e : List AO := [oo 14 (.load 65 (some 7) (.t 1)),
 oc 15 94 [(false, (.t 14))] [65],
 oo 4 (.asg (.t 15))]
@[go_sem] def c2q : List AO := [om 16 4,
 oo 17 (.bin .neq 26 2 (.t 16) (.c .nilIface) 26)]
@[go_sem] def c3b : List AO := [om 18 4,
 oo 2 (.asg (.nl 1)),
 oo 3 (.asg (.t 18))]
@[go_sem] def c3p : List AO := [oo 19 (.bslice 44 5 1 2 [.lit (.int .u8 0)] [(0, (.c (.int .u8 (76)))), (1, (.c (.int .u8 (80))))]),
 oo 20 (.conv 44 44 .keep (.t 19)),
 oo 21 (.build 105 [.own 1 0 []] [(0, 0, 1, (.t 20))]),
 oo 22 (.box 105 1 (.t 21)),
 oo 5 (.asg (.t 22))]
@[go_sem] def c2j : List AO := [om 23 5,
 oo 24 (.faddr 65 0 (.t 1) 0),
 oo 25 (.load 3 none (.t 24)),
 ⟨(some 26), .callx (.f 55) [(false, (.t 25))] [.x (.t 23), .p 0] [103, 3], none⟩]
@[go_sem] def c49 : List AO := [om 27 5,
 oo 28 (.faddr 65 1 (.t 1) 1),
 oo 29 (.load 60 none (.t 28)),
 oo 30 (.len 60 false (.t 29)),
 ⟨(some 31), .callx (.f 53) [(false, (.t 30))] [.x (.t 27), .p 0] [103, 3], none⟩]
@[go_sem] def c3w : List AO := [oo 32 (.faddr 65 1 (.t 1) 1),
 oo 33 (.load 60 none (.t 32)),
 oo 34 (.len 60 false (.t 33)),
 oo 35 (.mv (.n 0))]
@[go_sem] def c5f : List AO := [oo 36 (.bin .lss 3 0 (.t 35) (.t 34) 3)]
@[go_sem] def c18 : List AO := [oo 37 (.iaddr 60 3 (.t 33) (.t 35)),
 oo 38 (.load 74 (some 3) (.t 37)),
 oo 7 (.alloc 74 [.lit (.int .i64 0), .own 1 0 [], .lit (.bool false)]),
 ov (.store 74 3 (.t 7) (.t 38))]
@[go_sem] def c03 : List AO := [om 39 5,
 oo 40 (.faddr 74 0 (.t 7) 0),
 oo 41 (.load 3 none (.t 40)),
 ⟨(some 42), .callx (.f 55) [(false, (.t 41))] [.x (.t 39), .p 0] [103, 3], none⟩]
@[go_sem] def b9j : List AO := [om 43 5,
 oo 44 (.faddr 74 1 (.t 7) 1),
 oo 45 (.load 54 (some 2) (.t 44)),
 ⟨(some 46), .callx (.f 95) [(false, (.t 45))] [.x (.t 43), .p 0] [103, 54], none⟩]
@[go_sem] def c0v : List AO := [oo 47 (.bin .add 3 0 (.t 35) (.n 1) 3),
 om 35 47]
def a44 : IC := (.seq (.reg c5f) (.seq (.cond (.t 36) .skip (.exit 0)) (.seq (.block 1 (.seq (.reg c18) (.seq (.reg c03) (.reg b9j)))) (.reg c0v))))
@[go_sem] def b9y : List AO := [om 48 5,
 oo 49 (.faddr 65 2 (.t 1) 2),
 oo 50 (.load 61 none (.t 49)),
 oo 51 (.len 61 false (.t 50)),
 ⟨(some 52), .callx (.f 53) [(false, (.t 51))] [.x (.t 48), .p 0] [103, 3], none⟩]
@[go_sem] def c0j : List AO := [oo 53 (.faddr 65 2 (.t 1) 2),
 oo 54 (.load 61 none (.t 53)),
 oo 55 (.len 61 false (.t 54)),
 oo 56 (.mv (.n 0))]
@[go_sem] def c0b : List AO := [oo 57 (.bin .lss 3 0 (.t 56) (.t 55) 3)]
@[go_sem] def c0d : List AO := [oo 58 (.iaddr 61 3 (.t 54) (.t 56)),
 oo 59 (.load 56 (some 3) (.t 58)),
 oo 9 (.alloc 56 [.own 1 0 [], .lit (.bool false), .own 1 0 []]),
 ov (.store 56 3 (.t 9) (.t 59))]
@[go_sem] def b99 : List AO := [om 60 5,
 om 61 5,
 oo 62 (.nilck (.t 61)),
 oo 63 (.faddr 105 0 (.t 62) 0),
 oo 64 (.load 44 none (.t 63)),
 oo 65 (.load 56 (some 3) (.t 9)),
 oc 66 56 [(false, (.t 65))] [56],
 oo 67 (.app 44 5 1 1 (.t 64) (.t 66)),
 oo 68 (.nilck (.t 60)),
 oo 69 (.faddr 105 0 (.t 68) 0),
 ov (.store 44 1 (.t 69) (.t 67))]
@[go_sem] def c0z : List AO := [oo 70 (.bin .add 3 0 (.t 56) (.n 1) 3),
 om 56 70]
def a46 : IC := (.seq (.reg c0b) (.seq (.cond (.t 57) .skip (.exit 2)) (.seq (.block 3 (.seq (.reg c0d) (.draw b99 [[], [], [1], [2], [3], [], [5], [4, 6, 6], [0, 0, 1, 2, 3, 4, 5, 6, 7], [8, 0, 1, 2, 3, 4, 5, 6, 7], [9, 7, 7, 0, 1, 2, 3, 4, 5, 6, 7]]))) (.reg c0z))))
@[go_sem] def c0e : List AO := [om 71 5,
 oo 72 (.faddr 65 3 (.t 1) 3),
 oo 73 (.load 62 none (.t 72)),
 oo 74 (.len 62 false (.t 73)),
 ⟨(some 75), .callx (.f 53) [(false, (.t 74))] [.x (.t 71), .p 0] [103, 3], none⟩]
@[go_sem] def b92 : List AO := [oo 76 (.faddr 65 3 (.t 1) 3),
 oo 77 (.load 62 none (.t 76)),
 oo 78 (.len 62 false (.t 77)),
 oo 79 (.mv (.n 0))]
@[go_sem] def b9t : List AO := [oo 80 (.bin .lss 3 0 (.t 79) (.t 78) 3)]
@[go_sem] def c0a : List AO := [oo 81 (.iaddr 62 2 (.t 77) (.t 79)),
 oo 82 (.load 54 (some 2) (.t 81)),
 oo 11 (.alloc 54 [.own 1 0 [], .lit (.bool false)]),
 ov (.store 54 2 (.t 11) (.t 82))]
@[go_sem] def c06 : List AO := [om 83 5,
 oo 84 (.load 54 (some 2) (.t 11)),
 ⟨(some 85), .callx (.f 95) [(false, (.t 84))] [.x (.t 83), .p 0] [103, 54], none⟩]
@[go_sem] def b91 : List AO := [oo 86 (.bin .add 3 0 (.t 79) (.n 1) 3),
 om 79 86]
def a48 : IC := (.seq (.reg b9t) (.seq (.cond (.t 80) .skip (.exit 4)) (.seq (.block 5 (.seq (.reg c0a) (.reg c06))) (.reg b91))))
@[go_sem] def c0o : List AO := [om 87 5,
 oo 88 (.faddr 65 4 (.t 1) 4),
 oo 89 (.load 63 none (.t 88)),
 oo 90 (.len 63 false (.t 89)),
 ⟨(some 91), .callx (.f 53) [(false, (.t 90))] [.x (.t 87), .p 0] [103, 3], none⟩]
@[go_sem] def b9v : List AO := [oo 92 (.faddr 65 4 (.t 1) 4),
 oo 93 (.load 63 none (.t 92)),
 oo 94 (.len 63 false (.t 93)),
 oo 95 (.mv (.n 0))]
@[go_sem] def b8y : List AO := [oo 96 (.bin .lss 3 0 (.t 95) (.t 94) 3)]
@[go_sem] def c0q : List AO := [oo 97 (.iaddr 63 6 (.t 93) (.t 95)),
 oo 98 (.load 71 (some 6) (.t 97)),
 oo 13 (.alloc 71 [.lit (.int .i64 0), .lit (.int .i64 0), .own 1 0 [], .own 1 0 [], .lit (.int .i64 0), .lit (.int .i64 0)]),
 ov (.store 71 6 (.t 13) (.t 98))]
@[go_sem] def b96 : List AO := [om 99 5,
 oo 100 (.load 71 (some 6) (.t 13)),
 ⟨(some 101), .callx (.f 96) [(false, (.t 100))] [.x (.t 99), .p 0] [103, 71], none⟩]
@[go_sem] def b9s : List AO := [oo 102 (.bin .add 3 0 (.t 95) (.n 1) 3),
 om 95 102]
def a42 : IC := (.seq (.reg b8y) (.seq (.cond (.t 96) .skip (.exit 6)) (.seq (.block 7 (.seq (.reg c0q) (.reg b96))) (.reg b9s))))
@[go_sem] def b9b : List AO := [om 103 5,
 oo 104 (.faddr 65 5 (.t 1) 5),
 oo 105 (.load 3 none (.t 104)),
 ⟨(some 106), .callx (.f 55) [(false, (.t 105))] [.x (.t 103), .p 0] [103, 3], none⟩]
@[go_sem] def c04 : List AO := [om 107 5,
 oo 108 (.faddr 65 6 (.t 1) 6),
 oo 109 (.load 3 none (.t 108)),
 ⟨(some 110), .callx (.f 55) [(false, (.t 109))] [.x (.t 107), .p 0] [103, 3], none⟩]
@[go_sem] def b9i : List AO := [om 111 5,
 oo 112 (.nilck (.t 111)),
 oo 113 (.faddr 105 0 (.t 112) 0),
 oo 114 (.load 44 none (.t 113)),
 oo 2 (.asg (.t 114)),
 oo 3 (.asg (.c .nilIface))]
def b5r : IC := (.seq (.reg c4u) (.seq (.seq (.reg c4e) (.seq (.reg c2q) (.cond (.t 17) (.seq (.reg c3b) .ret) .skip))) (.seq (.reg c3p) (.seq (.reg c2j) (.seq (.reg c49) (.seq (.seq (.reg c3w) (.block 0 (.loop a44))) (.seq (.reg b9y) (.seq (.seq (.reg c0j) (.block 2 (.loop a46))) (.seq (.reg c0e) (.seq (.seq (.reg b92) (.block 4 (.loop a48))) (.seq (.reg c0o) (.seq (.seq (.reg b9v) (.block 6 (.loop a42))) (.seq (.reg b9b) (.seq (.reg c04) (.seq (.reg b9i) .ret)))))))))))))))
abbrev c7l : Nat := 43
theorem b8k : fnC pg 43 115 [(.tmp 2), (.tmp 3)] b5r := a1k Go.Proofs.Tryd.f43 [(.tmp 2), (.tmp 3)] (by kernel_rfl)
@[go_sem] theorem d5w : fnB pg 43 = true := by kernel_rfl
@[go_sem] def b3g : List AO := [oo 2 (.alloc 54 [.own 1 0 [], .lit (.bool false)])]
@[go_sem] def b16 : List AO := [om 7 0,
 oo 8 (.nilck (.t 7)),
 oo 9 (.faddr 130 1 (.t 8) 1),
 oo 10 (.load 3 none (.t 9)),
 oo 3 (.asg (.t 10))]
@[go_sem] def b22 : List AO := [om 11 0,
 ⟨(some 12), .callx (.f 84) [] [.x (.t 11)] [128], none⟩,
 oo 4 (.asg (.t 12))]
@[go_sem] def b26 : List AO := [om 13 0,
 oo 14 (.nilck (.t 13)),
 oo 15 (.faddr 130 2 (.t 14) 2),
 oo 16 (.load 26 none (.t 15)),
 oo 17 (.bin .eql 26 2 (.t 16) (.c .nilIface) 26),
 om 18 17,
 og 19 (.mv (.t 4)) 5 18 true,
 og 20 (.bin .geq 3 0 (.t 19) (.n 16) 3) 5 18 true,
 oo 21 (.pick (.t 18) (.t 20) (.c (.bool false)))]
@[go_sem] def b2b : List AO := [om 22 0,
 om 23 3,
 oo 24 (.load 26 none (.g 5)),
 ⟨(some 25), .callx (.f 121) [(false, (.t 23)), (false, (.t 24))] [.x (.t 22), .p 0, .p 1] [128, 3, 26], none⟩]
@[go_sem] def b3h : List AO := [om 26 4,
 oo 27 (.bin .and 3 0 (.t 26) (.n 8) 3),
 oo 28 (.bin .neq 3 0 (.t 27) (.n 0) 3),
 oo 29 (.build 54 [.own 1 0 [], .lit (.bool false)] [(1, 1, 1, (.t 28))]),
 oo 5 (.alloc 54 [.own 1 0 [], .lit (.bool false)]),
 ov (.store 54 2 (.t 5) (.t 29))]
@[go_sem] def b3e : List AO := [om 30 4,
 oo 31 (.bin .andNot 3 0 (.t 30) (.n 8) 3),
 oo 6 (.asg (.t 31))]
@[go_sem] def b3j : List AO := [om 32 6,
 oo 33 (.bin .gtr 3 0 (.t 32) (.n 0) 3),
 om 34 33,
 og 35 (.mv (.t 0)) 2 34 true,
 og 36 (.nilck (.t 35)) 2 34 true,
 og 37 (.faddr 130 2 (.t 36) 2) 2 34 true,
 og 38 (.load 26 none (.t 37)) 2 34 true,
 og 39 (.bin .eql 26 2 (.t 38) (.c .nilIface) 26) 2 34 true,
 oo 40 (.pick (.t 34) (.t 39) (.c (.bool false)))]
@[go_sem] def b3b : List AO := [oo 43 (.faddr 54 0 (.t 5) 0),
 oo 44 (.load 24 none (.t 43)),
 om 45 0,
 ⟨(some 46), .callx (.f 83) [] [.x (.t 45)] [128], none⟩,
 oo 47 (.bslice 24 3 1 1 [.lit (.int .i64 0)] [(0, (.t 46))]),
 oo 48 (.app 24 3 1 8 (.t 44) (.t 47)),
 oo 49 (.faddr 54 0 (.t 5) 0),
 ov (.store 24 1 (.t 49) (.t 48))]
@[go_sem] def b2q : List AO := [om 41 6,
 oo 42 (.bin .sub 3 0 (.t 41) (.n 1) 3),
 oo 6 (.asg (.t 42))]
def a1h : IC := (.seq (.seq (.reg b3j) (.cond (.t 40) .skip (.exit 0))) (.seq (.block 1 (.draw b3b [[], [0], [], [2], [3], [1, 4, 3], [0, 1, 2, 3, 4, 5], [6, 5, 5, 0, 1, 2, 3, 4, 5]])) (.reg b2q)))
@[go_sem] def b1p : List AO := [oo 50 (.load 54 (some 2) (.t 5)),
 ov (.store 54 2 (.t 2) (.t 50))]
def a6b : IC := (.seq (.reg b3g) (.seq (.reg b16) (.seq (.reg b22) (.seq (.seq (.reg b26) (.cond (.t 21) (.reg b2b) .skip)) (.seq (.reg b3h) (.seq (.seq (.reg b3e) (.block 0 (.loop a1h))) (.seq (.reg b1p) .ret)))))))
abbrev b39 : Nat := 92
@[go_sem] theorem c82 : fnB pg 92 = true := by kernel_rfl
theorem a85 : fnX pg 92 51 [(.cells 2 2)] [(.cell 2 54)] a6b := a23 Go.Proofs.Tryd.f92 (by kernel_rfl)
@[go_sem] def b0z : List AO := [oo 2 (.alloc 71 [.lit (.int .i64 0), .lit (.int .i64 0), .own 1 0 [], .own 1 0 [], .lit (.int .i64 0), .lit (.int .i64 0)])]
@[go_sem] def b1f : List AO := [om 4 0,
 ⟨(some 5), .callx (.f 84) [] [.x (.t 4)] [128], none⟩,
 om 6 0,
 ⟨(some 7), .callx (.f 86) [] [.x (.t 6)] [128], none⟩,
 oo 8 (.build 71 [.lit (.int .i64 0), .lit (.int .i64 0), .own 1 0 [], .own 1 0 [], .lit (.int .i64 0), .lit (.int .i64 0)] [(0, 0, 1, (.t 5)), (1, 1, 1, (.t 7))]),
 oo 3 (.alloc 71 [.lit (.int .i64 0), .lit (.int .i64 0), .own 1 0 [], .own 1 0 [], .lit (.int .i64 0), .lit (.int .i64 0)]),
 ov (.store 71 6 (.t 3) (.t 8))]
@[go_sem] def b1l : List AO := [om 9 0,
 om 10 0,
 oo 11 (.mkf 86 [(.t 10)] []),
 ⟨(some 12), .callx (.f 85) [] [.x (.t 9), .x (.t 11)] [128, 133], none⟩,
 om 13 0,
 om 14 0,
 oo 15 (.mkf 86 [(.t 14)] []),
 ⟨(some 16), .callx (.f 85) [] [.x (.t 13), .x (.t 15)] [128, 133], none⟩,
 oo 17 (.faddr 71 2 (.t 3) 2),
 ov (.store 24 1 (.t 17) (.t 12)),
 oo 18 (.faddr 71 3 (.t 3) 3),
 ov (.store 24 1 (.t 18) (.t 16))]
@[go_sem] def b02 : List AO := [om 19 0,
 ⟨(some 20), .callx (.f 86) [] [.x (.t 19)] [128], none⟩,
 om 21 0,
 ⟨(some 22), .callx (.f 86) [] [.x (.t 21)] [128], none⟩,
 oo 23 (.faddr 71 4 (.t 3) 4),
 ov (.store 3 1 (.t 23) (.t 20)),
 oo 24 (.faddr 71 5 (.t 3) 5),
 ov (.store 3 1 (.t 24) (.t 22))]
@[go_sem] def b1g : List AO := [oo 25 (.load 71 (some 6) (.t 3)),
 ov (.store 71 6 (.t 2) (.t 25))]
def a5c : IC := (.seq (.reg b0z) (.seq (.reg b1f) (.seq (.reg b1l) (.seq (.reg b02) (.seq (.reg b1g) .ret)))))
abbrev b14 : Nat := 93
@[go_sem] theorem c6x : fnB pg 93 = true := by kernel_rfl
theorem a8k : fnX pg 93 26 [(.cells 2 6)] [(.cell 2 71)] a5c := a23 Go.Proofs.Tryd.f93 (by kernel_rfl)
@[go_sem] def c6g : List AO := [oo 1 (.box 65 7 (.t 0)),
 oo 2 (.asg (.c .nilIface))]
@[go_sem] def c7b : List AO := [oo 12 (.faddr 65 1 (.t 1) 1),
 oo 13 (.load 60 none (.t 12)),
 oo 14 (.len 60 false (.t 13)),
 oo 15 (.bin .gtr 3 0 (.t 14) (.n 128) 3),
 om 16 15,
 og 17 (.faddr 65 2 (.t 1) 2) 4 16 false,
 og 18 (.load 61 none (.t 17)) 4 16 false,
 og 19 (.len 61 false (.t 18)) 4 16 false,
 og 20 (.bin .gtr 3 0 (.t 19) (.n 64) 3) 4 16 false,
 oo 21 (.pick (.t 16) (.c (.bool true)) (.t 20)),
 om 22 21,
 og 23 (.faddr 65 3 (.t 1) 3) 10 22 false,
 og 24 (.load 62 none (.t 23)) 10 22 false,
 og 25 (.len 62 false (.t 24)) 10 22 false,
 og 26 (.bin .gtr 3 0 (.t 25) (.n 8) 3) 10 22 false,
 oo 27 (.pick (.t 22) (.c (.bool true)) (.t 26)),
 om 28 27,
 og 29 (.faddr 65 4 (.t 1) 4) 16 28 false,
 og 30 (.load 63 none (.t 29)) 16 28 false,
 og 31 (.len 63 false (.t 30)) 16 28 false,
 og 32 (.bin .gtr 3 0 (.t 31) (.n 2048) 3) 16 28 false,
 oo 33 (.pick (.t 28) (.c (.bool true)) (.t 32)),
 om 34 33,
 og 35 (.faddr 65 4 (.t 1) 4) 22 34 false,
 og 36 (.load 63 none (.t 35)) 22 34 false,
 ⟨(some 37), .callx (.f 125) [(false, (.t 36))] [.p 0, .x (.f 126)] [63, 168], (some (22, 34, false))⟩,
 oo 38 (.pick (.t 34) (.c (.bool true)) (.t 37))]
@[go_sem] def c8t : List AO := [oo 39 (.load 26 none (.g 2)),
 oo 2 (.asg (.t 39))]
@[go_sem] def c8i : List AO := [oo 40 (.load 65 (some 7) (.t 1)),
 oc 41 127 [(false, (.t 40))] [65],
 oo 3 (.asg (.t 41))]
@[go_sem] def c7a : List AO := [om 42 3,
 ⟨(some 43), .callx (.f 128) [(false, (.t 42))] [.p 0, .x (.f 129)] [62, 114], none⟩]
@[go_sem] def c6t : List AO := [oo 44 (.load 26 none (.g 2)),
 oo 2 (.asg (.t 44))]
@[go_sem] def c58 : List AO := [oo 45 (.faddr 65 0 (.t 1) 0),
 oo 46 (.load 3 none (.t 45)),
 oo 47 (.faddr 65 5 (.t 1) 5),
 oo 48 (.load 3 none (.t 47)),
 oo 49 (.faddr 65 6 (.t 1) 6),
 oo 50 (.load 3 none (.t 49)),
 oo 51 (.bslice 24 3 1 3 [.lit (.int .i64 0)] [(0, (.t 46)), (1, (.t 48)), (2, (.t 50))]),
 oo 4 (.asg (.t 51))]
@[go_sem] def c61 : List AO := [oo 52 (.faddr 65 1 (.t 1) 1),
 oo 53 (.load 60 none (.t 52)),
 oo 54 (.len 60 false (.t 53)),
 oo 55 (.mv (.n 0))]
@[go_sem] def c6c : List AO := [oo 56 (.bin .lss 3 0 (.t 55) (.t 54) 3)]
@[go_sem] def c6e : List AO := [oo 57 (.iaddr 60 3 (.t 53) (.t 55)),
 oo 58 (.load 74 (some 3) (.t 57)),
 oo 6 (.alloc 74 [.lit (.int .i64 0), .own 1 0 [], .lit (.bool false)]),
 ov (.store 74 3 (.t 6) (.t 58))]
@[go_sem] def c47 : List AO := [om 59 4,
 oo 60 (.faddr 74 0 (.t 6) 0),
 oo 61 (.load 3 none (.t 60)),
 oo 62 (.bslice 24 3 1 1 [.lit (.int .i64 0)] [(0, (.t 61))]),
 oo 63 (.app 24 3 1 8 (.t 59) (.t 62)),
 oo 4 (.asg (.t 63))]
@[go_sem] def c2i : List AO := [oo 64 (.bin .add 3 0 (.t 55) (.n 1) 3),
 om 55 64]
def a53 : IC := (.seq (.reg c6c) (.seq (.cond (.t 56) .skip (.exit 0)) (.seq (.block 1 (.seq (.reg c6e) (.reg c47))) (.reg c2i))))
@[go_sem] def c3q : List AO := [om 65 3,
 oo 66 (.len 62 false (.t 65)),
 oo 67 (.mv (.n 0))]
@[go_sem] def c37 : List AO := [oo 68 (.bin .lss 3 0 (.t 67) (.t 66) 3)]
@[go_sem] def c3m : List AO := [oo 69 (.iaddr 62 2 (.t 65) (.t 67)),
 oo 70 (.load 54 (some 2) (.t 69)),
 oo 8 (.alloc 54 [.own 1 0 [], .lit (.bool false)]),
 ov (.store 54 2 (.t 8) (.t 70))]
@[go_sem] def c39 : List AO := [oo 71 (.faddr 54 0 (.t 8) 0),
 oo 72 (.load 24 none (.t 71)),
 ⟨(some 73), .callx (.f 105) [(false, (.t 72))] [.p 0, .x (.f 130)] [24, 109], none⟩]
@[go_sem] def c35 : List AO := [oo 74 (.load 26 none (.g 3)),
 oo 2 (.asg (.t 74))]
@[go_sem] def c4p : List AO := [oo 75 (.bin .add 3 0 (.t 67) (.n 1) 3),
 om 67 75]
def a59 : IC := (.seq (.reg c37) (.seq (.cond (.t 68) .skip (.exit 2)) (.seq (.block 3 (.seq (.reg c3m) (.seq (.reg c39) (.cond (.t 73) (.seq (.reg c35) .ret) .skip)))) (.reg c4p))))
@[go_sem] def c3a : List AO := [om 76 4,
 ⟨(some 77), .callx (.f 105) [(false, (.t 76))] [.p 0, .x (.f 131)] [24, 109], none⟩,
 om 78 77,
 og 79 (.faddr 65 4 (.t 1) 4) 2 78 false,
 og 80 (.load 63 none (.t 79)) 2 78 false,
 ⟨(some 81), .callx (.f 125) [(false, (.t 80))] [.p 0, .x (.f 132)] [63, 168], (some (2, 78, false))⟩,
 oo 82 (.pick (.t 78) (.c (.bool true)) (.t 81))]
@[go_sem] def c4j : List AO := [oo 83 (.load 26 none (.g 3)),
 oo 2 (.asg (.t 83))]
@[go_sem] def c4x : List AO := [oo 84 (.faddr 65 2 (.t 1) 2),
 oo 85 (.load 61 none (.t 84)),
 oo 86 (.len 61 false (.t 85)),
 oo 87 (.mv (.n 0))]
@[go_sem] def c3t : List AO := [oo 88 (.bin .lss 3 0 (.t 87) (.t 86) 3)]
@[go_sem] def c48 : List AO := [oo 89 (.iaddr 61 3 (.t 85) (.t 87)),
 oo 90 (.load 56 (some 3) (.t 89)),
 oo 10 (.alloc 56 [.own 1 0 [], .lit (.bool false), .own 1 0 []]),
 ov (.store 56 3 (.t 10) (.t 90))]
@[go_sem] def c3e : List AO := [oo 91 (.load 56 (some 3) (.t 10)),
 oc 92 108 [(false, (.t 91))] [56],
 oo 11 (.asg (.t 92))]
@[go_sem] def c2f : List AO := [om 93 11,
 oo 94 (.bin .neq 26 2 (.t 93) (.c .nilIface) 26)]
@[go_sem] def c4r : List AO := [om 95 11,
 oo 2 (.asg (.t 95))]
@[go_sem] def c2g : List AO := [oo 96 (.bin .add 3 0 (.t 87) (.n 1) 3),
 om 87 96]
def a57 : IC := (.seq (.reg c3t) (.seq (.cond (.t 88) .skip (.exit 4)) (.seq (.block 5 (.seq (.reg c48) (.seq (.reg c3e) (.seq (.reg c2f) (.cond (.t 94) (.seq (.reg c4r) .ret) .skip))))) (.reg c2g))))
@[go_sem] def c5b : List AO := [oo 2 (.asg (.c .nilIface))]
def a36 : IC := (.seq (.reg c6g) (.seq (.seq (.reg c7b) (.cond (.t 38) (.seq (.reg c8t) .ret) .skip)) (.seq (.reg c8i) (.seq (.seq (.reg c7a) (.cond (.t 43) (.seq (.reg c6t) .ret) .skip)) (.seq (.reg c58) (.seq (.seq (.reg c61) (.block 0 (.loop a53))) (.seq (.seq (.reg c3q) (.block 2 (.loop a59))) (.seq (.seq (.reg c3a) (.cond (.t 82) (.seq (.reg c4j) .ret) .skip)) (.seq (.seq (.reg c4x) (.block 4 (.loop a57))) (.seq (.reg c5b) .ret))))))))))
abbrev d0z : Nat := 94
theorem c05 : fnC pg 94 97 [(.tmp 2)] a36 := a1k Go.Proofs.Tryd.f94 [(.tmp 2)] (by kernel_rfl)
@[go_sem] theorem d70 : fnB pg 94 = true := by kernel_rfl
@[go_sem] def b29 : List AO := [oo 3 (.box 54 2 (.t 1))]
@[go_sem] def b20 : List AO := [oo 7 (.faddr 54 0 (.t 3) 0),
 oo 8 (.load 24 none (.t 7)),
 oo 9 (.len 24 false (.t 8)),
 oo 4 (.asg (.t 9))]
@[go_sem] def b2n : List AO := [oo 10 (.faddr 54 1 (.t 3) 1),
 oo 11 (.load 4 none (.t 10))]
@[go_sem] def b2o : List AO := [om 12 4,
 oo 13 (.bin .add 3 0 (.t 12) (.n 8) 3),
 oo 4 (.asg (.t 13))]
@[go_sem] def b28 : List AO := [om 14 0,
 om 15 4,
 ⟨(some 16), .callx (.f 54) [(false, (.t 15))] [.x (.t 14), .p 0] [103, 3], none⟩]
@[go_sem] def b3n : List AO := [oo 17 (.faddr 54 0 (.t 3) 0),
 oo 18 (.load 24 none (.t 17)),
 oo 19 (.len 24 false (.t 18)),
 oo 20 (.mv (.n 0))]
@[go_sem] def b18 : List AO := [oo 21 (.bin .lss 3 0 (.t 20) (.t 19) 3)]
@[go_sem] def b2k : List AO := [oo 22 (.iaddr 24 1 (.t 18) (.t 20)),
 oo 23 (.load 3 none (.t 22)),
 oo 6 (.asg (.t 23))]
@[go_sem] def b21 : List AO := [om 24 0,
 om 25 6,
 ⟨(some 26), .callx (.f 53) [(false, (.t 25))] [.x (.t 24), .p 0] [103, 3], none⟩]
@[go_sem] def b2l : List AO := [oo 27 (.bin .add 3 0 (.t 20) (.n 1) 3),
 om 20 27]
def a18 : IC := (.seq (.reg b18) (.seq (.cond (.t 21) .skip (.exit 0)) (.seq (.block 1 (.seq (.reg b2k) (.reg b21))) (.reg b2l))))
def a3n : IC := (.seq (.reg b29) (.seq (.reg b20) (.seq (.seq (.reg b2n) (.cond (.t 11) (.reg b2o) .skip)) (.seq (.reg b28) (.seq (.reg b3n) (.block 0 (.loop a18)))))))
abbrev b4q : Nat := 95
@[go_sem] theorem c80 : fnB pg 95 = true := by kernel_rfl
theorem a8s : fnX pg 95 28 [] [] a3n := a23 Go.Proofs.Tryd.f95 (by kernel_rfl)
@[go_sem] def b1m : List AO := [oo 3 (.box 71 6 (.t 1))]
@[go_sem] def b1u : List AO := [om 8 0,
 oo 9 (.faddr 71 0 (.t 3) 0),
 oo 10 (.load 3 none (.t 9)),
 ⟨(some 11), .callx (.f 54) [(false, (.t 10))] [.x (.t 8), .p 0] [103, 3], none⟩]
@[go_sem] def b1j : List AO := [om 12 0,
 oo 13 (.faddr 71 1 (.t 3) 1),
 oo 14 (.load 3 none (.t 13)),
 ⟨(some 15), .callx (.f 55) [(false, (.t 14))] [.x (.t 12), .p 0] [103, 3], none⟩]
@[go_sem] def b1d : List AO := [oo 16 (.faddr 71 2 (.t 3) 2),
 oo 17 (.load 24 none (.t 16)),
 oo 18 (.faddr 71 3 (.t 3) 3),
 oo 19 (.load 24 none (.t 18)),
 oo 20 (.bslice 22 24 1 2 [.own 1 0 []] [(0, (.t 17)), (1, (.t 19))]),
 oo 21 (.len 22 false (.t 20)),
 oo 22 (.mv (.n 0))]
@[go_sem] def b1o : List AO := [oo 23 (.bin .lss 3 0 (.t 22) (.t 21) 3)]
@[go_sem] def b1a : List AO := [oo 24 (.iaddr 22 1 (.t 20) (.t 22)),
 oo 25 (.load 24 none (.t 24)),
 oo 5 (.asg (.t 25))]
@[go_sem] def b10 : List AO := [om 26 0,
 om 27 5,
 oo 28 (.len 24 false (.t 27)),
 ⟨(some 29), .callx (.f 54) [(false, (.t 28))] [.x (.t 26), .p 0] [103, 3], none⟩]
@[go_sem] def b1y : List AO := [om 30 5,
 oo 31 (.len 24 false (.t 30)),
 oo 32 (.mv (.n 0))]
@[go_sem] def b07 : List AO := [oo 33 (.bin .lss 3 0 (.t 32) (.t 31) 3)]
@[go_sem] def b1q : List AO := [oo 34 (.iaddr 24 1 (.t 30) (.t 32)),
 oo 35 (.load 3 none (.t 34)),
 oo 7 (.asg (.t 35))]
@[go_sem] def a9o : List AO := [om 36 0,
 om 37 7,
 ⟨(some 38), .callx (.f 55) [(false, (.t 37))] [.x (.t 36), .p 0] [103, 3], none⟩]
@[go_sem] def a9m : List AO := [oo 39 (.bin .add 3 0 (.t 32) (.n 1) 3),
 om 32 39]
def a1v : IC := (.seq (.reg b07) (.seq (.cond (.t 33) .skip (.exit 2)) (.seq (.block 3 (.seq (.reg b1q) (.reg a9o))) (.reg a9m))))
@[go_sem] def a9q : List AO := [oo 40 (.bin .add 3 0 (.t 22) (.n 1) 3),
 om 22 40]
def a1c : IC := (.seq (.reg b1o) (.seq (.cond (.t 23) .skip (.exit 0)) (.seq (.block 1 (.seq (.reg b1a) (.seq (.reg b10) (.seq (.reg b1y) (.block 2 (.loop a1v)))))) (.reg a9q))))
@[go_sem] def a9g : List AO := [om 41 0,
 oo 42 (.faddr 71 4 (.t 3) 4),
 oo 43 (.load 3 none (.t 42)),
 ⟨(some 44), .callx (.f 55) [(false, (.t 43))] [.x (.t 41), .p 0] [103, 3], none⟩]
@[go_sem] def a94 : List AO := [om 45 0,
 oo 46 (.faddr 71 5 (.t 3) 5),
 oo 47 (.load 3 none (.t 46)),
 ⟨(some 48), .callx (.f 55) [(false, (.t 47))] [.x (.t 45), .p 0] [103, 3], none⟩]
def a5l : IC := (.seq (.reg b1m) (.seq (.reg b1u) (.seq (.reg b1j) (.seq (.seq (.reg b1d) (.block 0 (.loop a1c))) (.seq (.reg a9g) (.reg a94))))))
abbrev b3l : Nat := 96
@[go_sem] theorem c56 : fnB pg 96 = true := by kernel_rfl
theorem a75 : fnX pg 96 49 [] [] a5l := a23 Go.Proofs.Tryd.f96 (by kernel_rfl)
@[go_sem] def a41 : List AO := [oo 4 (.asg (.c (.bool false)))]
@[go_sem] def a40 : List AO := [om 5 0,
 om 6 1,
 ⟨(some 7), .callx (.f 152) [(false, (.t 5))] [.p 0, .x (.t 6)] [63, 168], none⟩,
 oo 8 (.bin .geq 3 0 (.t 7) (.n 0) 3),
 oo 4 (.asg (.t 8))]
def a2o : IC := (.seq (.reg a41) (.seq (.reg a40) .ret))
abbrev a5j : Nat := 125
@[go_sem] theorem b58 : fnB pg 125 = true := by kernel_rfl
theorem a3z : fnX pg 125 9 [(.tmp 4)] [(.tmp 4)] a2o := a23 Go.Proofs.Tryd.f125 (by kernel_rfl)
@[go_sem] def c6u : List AO := [oo 1 (.box 71 6 (.t 0)),
 oo 2 (.asg (.c (.bool false)))]
@[go_sem] def c72 : List AO := [oo 3 (.faddr 71 2 (.t 1) 2),
 oo 4 (.load 24 none (.t 3)),
 oo 5 (.len 24 false (.t 4)),
 oo 6 (.bin .gtr 3 0 (.t 5) (.n 8) 3),
 om 7 6,
 og 8 (.faddr 71 3 (.t 1) 3) 4 7 false,
 og 9 (.load 24 none (.t 8)) 4 7 false,
 og 10 (.len 24 false (.t 9)) 4 7 false,
 og 11 (.bin .gtr 3 0 (.t 10) (.n 8) 3) 4 7 false,
 oo 12 (.pick (.t 7) (.c (.bool true)) (.t 11)),
 oo 2 (.asg (.t 12))]
def a73 : IC := (.seq (.reg c6u) (.seq (.reg c72) .ret))
abbrev c99 : Nat := 126
theorem c02 : fnC pg 126 13 [(.tmp 2)] a73 := a1k Go.Proofs.Tryd.f126 [(.tmp 2)] (by kernel_rfl)
@[go_sem] theorem c3i : fnB pg 126 = true := by kernel_rfl
@[go_sem] def c5g : List AO := [oo 1 (.box 65 7 (.t 0)),
 oo 2 (.asg (.nl 2))]
@[go_sem] def c36 : List AO := [oo 3 (.asg (.nl 2))]
@[go_sem] def c2o : List AO := [oo 6 (.faddr 65 1 (.t 1) 1),
 oo 7 (.load 60 none (.t 6)),
 oo 8 (.len 60 false (.t 7)),
 oo 9 (.mv (.n 0))]
@[go_sem] def c3z : List AO := [oo 10 (.bin .lss 3 0 (.t 9) (.t 8) 3)]
@[go_sem] def c28 : List AO := [oo 11 (.iaddr 60 3 (.t 7) (.t 9)),
 oo 12 (.load 74 (some 3) (.t 11)),
 oo 5 (.alloc 74 [.lit (.int .i64 0), .own 1 0 [], .lit (.bool false)]),
 ov (.store 74 3 (.t 5) (.t 12))]
@[go_sem] def c4i : List AO := [om 13 3,
 oo 14 (.faddr 74 1 (.t 5) 1),
 oo 15 (.load 54 (some 2) (.t 14)),
 oo 16 (.bslice 62 54 2 1 [.own 1 0 [], .lit (.bool false)] [(0, (.t 15))]),
 oo 17 (.app 62 54 2 32 (.t 13) (.t 16)),
 oo 3 (.asg (.t 17))]
@[go_sem] def c22 : List AO := [oo 18 (.bin .add 3 0 (.t 9) (.n 1) 3),
 om 9 18]
def a8d : IC := (.seq (.reg c3z) (.seq (.cond (.t 10) .skip (.exit 0)) (.seq (.block 1 (.seq (.reg c28) (.reg c4i))) (.reg c22))))
@[go_sem] def c2z : List AO := [om 19 3,
 oo 20 (.faddr 65 3 (.t 1) 3),
 oo 21 (.load 62 none (.t 20)),
 oo 22 (.app 62 54 2 32 (.t 19) (.t 21)),
 oo 2 (.asg (.t 22))]
def b5w : IC := (.seq (.reg c5g) (.seq (.reg c36) (.seq (.seq (.reg c2o) (.block 0 (.loop a8d))) (.seq (.reg c2z) .ret))))
abbrev c52 : Nat := 127
theorem b8t : fnC pg 127 23 [(.tmp 2)] b5w := a1k Go.Proofs.Tryd.f127 [(.tmp 2)] (by kernel_rfl)
@[go_sem] theorem d5u : fnB pg 127 = true := by kernel_rfl
@[go_sem] def a5i : List AO := [oo 4 (.asg (.c (.bool false)))]
@[go_sem] def a5m : List AO := [om 5 0,
 om 6 1,
 ⟨(some 7), .callx (.f 153) [(false, (.t 5))] [.p 0, .x (.t 6)] [62, 114], none⟩,
 oo 8 (.bin .geq 3 0 (.t 7) (.n 0) 3),
 oo 4 (.asg (.t 8))]
def a24 : IC := (.seq (.reg a5i) (.seq (.reg a5m) .ret))
abbrev a5w : Nat := 128
@[go_sem] theorem b6m : fnB pg 128 = true := by kernel_rfl
theorem a4k : fnX pg 128 9 [(.tmp 4)] [(.tmp 4)] a24 := a23 Go.Proofs.Tryd.f128 (by kernel_rfl)
@[go_sem] def c0k : List AO := [oo 1 (.box 54 2 (.t 0)),
 oo 2 (.asg (.c (.bool false)))]
@[go_sem] def b9c : List AO := [oo 3 (.faddr 54 0 (.t 1) 0),
 oo 4 (.load 24 none (.t 3)),
 oo 5 (.len 24 false (.t 4)),
 oo 6 (.bin .gtr 3 0 (.t 5) (.n 7) 3),
 oo 2 (.asg (.t 6))]
def a7w : IC := (.seq (.reg c0k) (.seq (.reg b9c) .ret))
theorem b6b : fnC pg 129 7 [(.tmp 2)] a7w := a1k Go.Proofs.Tryd.f129 [(.tmp 2)] (by kernel_rfl)
@[go_sem] theorem b76 : fnB pg 129 = true := by kernel_rfl
@[go_sem] def b94 : List AO := [oo 2 (.asg (.c (.bool false)))]
@[go_sem] def b8x : List AO := [om 3 0,
 oo 4 (.bin .lss 3 0 (.t 3) (.n 0) 3),
 om 5 4,
 og 6 (.mv (.t 0)) 2 5 false,
 og 7 (.bin .gtr 3 0 (.t 6) (.n 65535) 3) 2 5 false,
 oo 8 (.pick (.t 5) (.c (.bool true)) (.t 7)),
 oo 2 (.asg (.t 8))]
def a45 : IC := (.seq (.reg b94) (.seq (.reg b8x) .ret))
theorem b6j : fnC pg 130 9 [(.tmp 2)] a45 := a1k Go.Proofs.Tryd.f130 [(.tmp 2)] (by kernel_rfl)
@[go_sem] theorem b7p : fnB pg 130 = true := by kernel_rfl
@[go_sem] def b9z : List AO := [oo 2 (.asg (.c (.bool false)))]
@[go_sem] def c0t : List AO := [om 3 0,
 oc 4 107 [(false, (.t 3))] [3],
 oo 5 (.un .not 4 (.t 4)),
 oo 2 (.asg (.t 5))]
def b4u : IC := (.seq (.reg b9z) (.seq (.reg c0t) .ret))
theorem b6g : fnC pg 131 6 [(.tmp 2)] b4u := a1k Go.Proofs.Tryd.f131 [(.tmp 2)] (by kernel_rfl)
@[go_sem] theorem b8l : fnB pg 131 = true := by kernel_rfl
@[go_sem] def b95 : List AO := [oo 1 (.box 71 6 (.t 0)),
 oo 2 (.asg (.c (.bool false)))]
@[go_sem] def b9d : List AO := [oo 3 (.load 71 (some 6) (.t 1)),
 oc 4 133 [(false, (.t 3))] [71],
 oo 5 (.un .not 4 (.t 4)),
 oo 2 (.asg (.t 5))]
def b4d : IC := (.seq (.reg b95) (.seq (.reg b9d) .ret))
theorem b6k : fnC pg 132 6 [(.tmp 2)] b4d := a1k Go.Proofs.Tryd.f132 [(.tmp 2)] (by kernel_rfl)
@[go_sem] theorem b78 : fnB pg 132 = true := by kernel_rfl
@[go_sem] def c68 : List AO := [oo 1 (.box 71 6 (.t 0)),
 oo 2 (.asg (.c (.bool false)))]
@[go_sem] def c69 : List AO := [oo 5 (.faddr 71 1 (.t 1) 1),
 oo 6 (.load 3 none (.t 5)),
 oo 7 (.faddr 71 4 (.t 1) 4),
 oo 8 (.load 3 none (.t 7)),
 oo 9 (.faddr 71 5 (.t 1) 5),
 oo 10 (.load 3 none (.t 9)),
 oo 11 (.bslice 24 3 1 3 [.lit (.int .i64 0)] [(0, (.t 6)), (1, (.t 8)), (2, (.t 10))]),
 oo 12 (.faddr 71 2 (.t 1) 2),
 oo 13 (.load 24 none (.t 12)),
 oo 14 (.faddr 71 3 (.t 1) 3),
 oo 15 (.load 24 none (.t 14)),
 oo 16 (.bslice 22 24 1 3 [.own 1 0 []] [(0, (.t 11)), (1, (.t 13)), (2, (.t 15))]),
 oc 17 154 [(false, (.t 16))] [22],
 oo 18 (.len 24 false (.t 17)),
 oo 19 (.mv (.n 0))]
@[go_sem] def c7k : List AO := [oo 20 (.bin .lss 3 0 (.t 19) (.t 18) 3)]
@[go_sem] def c8m : List AO := [oo 21 (.iaddr 24 1 (.t 17) (.t 19)),
 oo 22 (.load 3 none (.t 21)),
 oo 4 (.asg (.t 22))]
@[go_sem] def c51 : List AO := [om 23 4,
 oc 24 107 [(false, (.t 23))] [3],
 oo 25 (.un .not 4 (.t 24))]
@[go_sem] def c8n : List AO := [oo 2 (.asg (.c (.bool false)))]
@[go_sem] def c5r : List AO := [oo 26 (.bin .add 3 0 (.t 19) (.n 1) 3),
 om 19 26]
def a52 : IC := (.seq (.reg c7k) (.seq (.cond (.t 20) .skip (.exit 0)) (.seq (.block 1 (.seq (.reg c8m) (.seq (.reg c51) (.cond (.t 25) (.seq (.reg c8n) .ret) .skip)))) (.reg c5r))))
@[go_sem] def c8d : List AO := [oo 27 (.faddr 71 0 (.t 1) 0),
 oo 28 (.load 3 none (.t 27)),
 oo 29 (.bin .geq 3 0 (.t 28) (.n 0) 3),
 om 30 29,
 og 31 (.faddr 71 0 (.t 1) 0) 3 30 true,
 og 32 (.load 3 none (.t 31)) 3 30 true,
 og 33 (.bin .leq 3 0 (.t 32) (.n 255) 3) 3 30 true,
 oo 34 (.pick (.t 30) (.t 33) (.c (.bool false))),
 oo 2 (.asg (.t 34))]
def b8j : IC := (.seq (.reg c68) (.seq (.seq (.reg c69) (.block 0 (.loop a52))) (.seq (.reg c8d) .ret)))
abbrev c9d : Nat := 133
theorem c0g : fnC pg 133 35 [(.tmp 2)] b8j := a1k Go.Proofs.Tryd.f133 [(.tmp 2)] (by kernel_rfl)
@[go_sem] theorem d7p : fnB pg 133 = true := by kernel_rfl
@[go_sem] def a6r : List AO := [oo 4 (.asg (.n 0))]
@[go_sem] def a6s : List AO := [om 6 0,
 oo 7 (.len 63 false (.t 6)),
 oo 8 (.mv (.n 0))]
@[go_sem] def a6m : List AO := [oo 9 (.bin .lss 3 0 (.t 8) (.t 7) 3)]
@[go_sem] def a6f : List AO := [om 10 8,
 oo 5 (.asg (.t 10))]
@[go_sem] def a6o : List AO := [om 11 1,
 om 12 0,
 om 13 5,
 oo 14 (.iaddr 63 6 (.t 12) (.t 13)),
 oo 15 (.load 71 (some 6) (.t 14)),
 ⟨(some 16), .callx (.t 11) [(false, (.t 15))] [.p 0] [71], none⟩]
@[go_sem] def a6q : List AO := [om 17 5,
 oo 4 (.asg (.t 17))]
@[go_sem] def a6j : List AO := [oo 18 (.bin .add 3 0 (.t 8) (.n 1) 3),
 om 8 18]
def a1t : IC := (.seq (.reg a6m) (.seq (.cond (.t 9) .skip (.exit 0)) (.seq (.block 1 (.seq (.reg a6f) (.seq (.reg a6o) (.cond (.t 16) (.seq (.reg a6q) .ret) .skip)))) (.reg a6j))))
@[go_sem] def a6t : List AO := [oo 4 (.asg (.n (-1)))]
def a3i : IC := (.seq (.reg a6r) (.seq (.seq (.reg a6s) (.block 0 (.loop a1t))) (.seq (.reg a6t) .ret)))
abbrev a7p : Nat := 152
@[go_sem] theorem b8w : fnB pg 152 = true := by kernel_rfl
theorem a43 : fnX pg 152 19 [(.tmp 4)] [(.tmp 4)] a3i := a23 Go.Proofs.Tryd.f152 (by kernel_rfl)
@[go_sem] def a7o : List AO := [oo 4 (.asg (.n 0))]
@[go_sem] def a7m : List AO := [om 6 0,
 oo 7 (.len 62 false (.t 6)),
 oo 8 (.mv (.n 0))]
@[go_sem] def a7c : List AO := [oo 9 (.bin .lss 3 0 (.t 8) (.t 7) 3)]
@[go_sem] def a7e : List AO := [om 10 8,
 oo 5 (.asg (.t 10))]
@[go_sem] def a62 : List AO := [om 11 1,
 om 12 0,
 om 13 5,
 oo 14 (.iaddr 62 2 (.t 12) (.t 13)),
 oo 15 (.load 54 (some 2) (.t 14)),
 ⟨(some 16), .callx (.t 11) [(false, (.t 15))] [.p 0] [54], none⟩]
@[go_sem] def a7f : List AO := [om 17 5,
 oo 4 (.asg (.t 17))]
@[go_sem] def a7a : List AO := [oo 18 (.bin .add 3 0 (.t 8) (.n 1) 3),
 om 8 18]
def a1x : IC := (.seq (.reg a7c) (.seq (.cond (.t 9) .skip (.exit 0)) (.seq (.block 1 (.seq (.reg a7e) (.seq (.reg a62) (.cond (.t 16) (.seq (.reg a7f) .ret) .skip)))) (.reg a7a))))
@[go_sem] def a67 : List AO := [oo 4 (.asg (.n (-1)))]
def a3m : IC := (.seq (.reg a7o) (.seq (.seq (.reg a7m) (.block 0 (.loop a1x))) (.seq (.reg a67) .ret)))
abbrev a8n : Nat := 153
@[go_sem] theorem b9a : fnB pg 153 = true := by kernel_rfl
theorem a5f : fnX pg 153 19 [(.tmp 4)] [(.tmp 4)] a3m := a23 Go.Proofs.Tryd.f153 (by kernel_rfl)
@[go_sem] def b1r : List AO := [oo 2 (.asg (.nl 1))]
@[go_sem] def b1x : List AO := [oo 3 (.asg (.n 0))]
@[go_sem] def b01 : List AO := [om 9 0,
 oo 10 (.len 22 false (.t 9)),
 oo 11 (.mv (.n 0))]
@[go_sem] def b1v : List AO := [oo 12 (.bin .lss 3 0 (.t 11) (.t 10) 3)]
@[go_sem] def b03 : List AO := [oo 13 (.iaddr 22 1 (.t 9) (.t 11)),
 oo 14 (.load 24 none (.t 13)),
 oo 5 (.asg (.t 14))]
@[go_sem] def b00 : List AO := [om 15 3,
 om 16 5,
 oo 17 (.len 24 false (.t 16)),
 oo 18 (.bin .add 3 0 (.t 15) (.t 17) 3),
 oo 3 (.asg (.t 18))]
@[go_sem] def b09 : List AO := [om 19 3,
 oo 20 (.bin .lss 3 0 (.t 19) (.n 0) 3)]
@[go_sem] def b04 : List AO := [oo 21 (.mki 9 (.c (.string ⟨#[108,101,110,32,111,117,116,32,111,102,32,114,97,110,103,101]⟩))),
 ⟨none, .bad (.panic (.tmp 21)), none⟩]
@[go_sem] def b1k : List AO := [oo 22 (.bin .add 3 0 (.t 11) (.n 1) 3),
 om 11 22]
def a1u : IC := (.seq (.reg b1v) (.seq (.cond (.t 12) .skip (.exit 0)) (.seq (.block 1 (.seq (.reg b03) (.seq (.reg b00) (.seq (.reg b09) (.cond (.t 20) (.reg b04) .skip))))) (.reg b1k))))
@[go_sem] def b05 : List AO := [om 23 3,
 oc 24 170 [(false, (.c (.slice none 0 0))), (false, (.t 23))] [24, 3],
 oo 6 (.asg (.t 24))]
@[go_sem] def b0f : List AO := [om 25 0,
 oo 26 (.len 22 false (.t 25)),
 oo 27 (.mv (.n 0))]
@[go_sem] def b0h : List AO := [oo 28 (.bin .lss 3 0 (.t 27) (.t 26) 3)]
@[go_sem] def b0e : List AO := [oo 29 (.iaddr 22 1 (.t 25) (.t 27)),
 oo 30 (.load 24 none (.t 29)),
 oo 8 (.asg (.t 30))]
@[go_sem] def a9j : List AO := [om 31 6,
 om 32 8,
 oo 33 (.app 24 3 1 8 (.t 31) (.t 32)),
 oo 6 (.asg (.t 33))]
@[go_sem] def a9w : List AO := [oo 34 (.bin .add 3 0 (.t 27) (.n 1) 3),
 om 27 34]
def a1w : IC := (.seq (.reg b0h) (.seq (.cond (.t 28) .skip (.exit 2)) (.seq (.block 3 (.seq (.reg b0e) (.reg a9j))) (.reg a9w))))
@[go_sem] def b0j : List AO := [om 35 6,
 oo 2 (.asg (.t 35))]
def a5q : IC := (.seq (.reg b1r) (.seq (.reg b1x) (.seq (.seq (.reg b01) (.block 0 (.loop a1u))) (.seq (.reg b05) (.seq (.seq (.reg b0f) (.block 2 (.loop a1w))) (.seq (.reg b0j) .ret))))))
abbrev b2z : Nat := 154
theorem a8x : fnC pg 154 36 [(.tmp 2)] a5q := a1k Go.Proofs.Tryd.f154 [(.tmp 2)] (by kernel_rfl)
@[go_sem] theorem c62 : fnB pg 154 = true := by kernel_rfl
end Go.Ideal.Tryd
end
