/- Part Pq of the proof: a machine with trees for values, its soundness, and walks on it. -/
import Derived.Test.YtfdhkijgolgnfaaGreatDoorPk
section
set_option linter.unusedVariables false
set_option maxRecDepth 10000
namespace Go.Ideal.Tryz
@[go_sem] def d7c : List AO := [oo 2 (.alloc 27 [.lit (.int .i64 0), .own 3 0 [], .own 3 0 [], .own 2 0 [], .own 6 0 [], .lit (.int .i64 0), .lit (.int .i64 0)]),
 oo 3 (.asg (.c .nilIface))]
@[go_sem] def d4n : List AO := [om 13 0,
 oo 14 (.build 71 [.own 1 0 [], .lit (.int .i64 0), .lit .nilIface] [(0, 0, 1, (.t 13))]),
 oo 15 (.box 71 3 (.t 14)),
 oo 4 (.asg (.t 15))]
@[go_sem] def d4p : List AO := [om 16 4,
 ⟨(some 17), .callx (.f 25) [(false, (.c (.string ⟨#[76,80]⟩)))] [.x (.t 16), .p 0] [69, 9], none⟩]
@[go_sem] def d55 : List AO := [om 18 4,
 ⟨(some 19), .callx (.f 26) [] [.x (.t 18)] [69], none⟩,
 oo 20 (.build 27 [.lit (.int .i64 0), .own 3 0 [], .own 3 0 [], .own 2 0 [], .own 6 0 [], .lit (.int .i64 0), .lit (.int .i64 0)] [(0, 0, 1, (.t 19))]),
 oo 5 (.alloc 27 [.lit (.int .i64 0), .own 3 0 [], .own 3 0 [], .own 2 0 [], .own 6 0 [], .lit (.int .i64 0), .lit (.int .i64 0)]),
 ov (.store 27 7 (.t 5) (.t 20))]
@[go_sem] def d7l : List AO := [om 21 4,
 om 22 4,
 oo 23 (.mkf 28 [(.t 22)] []),
 ⟨(some 24), .callx (.f 27) [(false, (.n 128))] [.x (.t 21), .p 0, .x (.t 23)] [69, 3, 73], none⟩,
 oo 6 (.asg (.t 24))]
@[go_sem] def d4k : List AO := [om 25 6,
 oo 26 (.bin .gtr 3 0 (.t 25) (.n 0) 3),
 om 27 26,
 og 28 (.mv (.t 4)) 2 27 true,
 og 29 (.nilck (.t 28)) 2 27 true,
 og 30 (.faddr 71 2 (.t 29) 2) 2 27 true,
 og 31 (.load 32 none (.t 30)) 2 27 true,
 og 32 (.bin .eql 32 2 (.t 31) (.c .nilIface) 32) 2 27 true,
 oo 33 (.pick (.t 27) (.t 32) (.c (.bool false)))]
@[go_sem] def d4u : List AO := [om 36 4,
 ⟨(some 37), .callx (.f 26) [] [.x (.t 36)] [69], none⟩,
 oo 7 (.asg (.t 37))]
@[go_sem] def d4c : List AO := [oo 38 (.faddr 27 1 (.t 5) 1),
 oo 39 (.load 22 none (.t 38)),
 om 40 7,
 om 41 4,
 ⟨(some 42), .callx (.f 29) [] [.x (.t 41)] [69], none⟩,
 oo 43 (.build 58 [.lit (.int .i64 0), .own 1 0 [], .lit (.bool false)] [(0, 0, 1, (.t 40)), (1, 1, 2, (.t 42))]),
 oo 44 (.bslice 22 58 3 1 [.lit (.int .i64 0), .own 1 0 [], .lit (.bool false)] [(0, (.t 43))]),
 oo 45 (.app 22 58 3 40 (.t 39) (.t 44)),
 oo 46 (.faddr 27 1 (.t 5) 1),
 ov (.store 22 1 (.t 46) (.t 45))]
@[go_sem] def d6q : List AO := [om 34 6,
 oo 35 (.bin .sub 3 0 (.t 34) (.n 1) 3),
 oo 6 (.asg (.t 35))]
def a5j : IC := (.seq (.seq (.reg d4k) (.cond (.t 33) .skip (.exit 0))) (.seq (.block 1 (.seq (.reg d4u) (.draw d4c [[], [0], [], [], [3], [2, 4], [5], [1, 6, 4], [0, 1, 2, 3, 4, 5, 6, 7], [8, 7, 7, 0, 1, 2, 3, 4, 5, 6, 7]]))) (.reg d6q)))
@[go_sem] def d5w : List AO := [om 47 4,
 om 48 4,
 oo 49 (.mkf 28 [(.t 48)] []),
 ⟨(some 50), .callx (.f 27) [(false, (.n 64))] [.x (.t 47), .p 0, .x (.t 49)] [69, 3, 73], none⟩,
 oo 8 (.asg (.n 0)),
 oo 9 (.asg (.t 50))]
@[go_sem] def d3r : List AO := [om 51 8,
 om 52 9,
 oo 53 (.bin .lss 3 0 (.t 51) (.t 52) 3),
 om 54 53,
 og 55 (.mv (.t 4)) 3 54 true,
 og 56 (.nilck (.t 55)) 3 54 true,
 og 57 (.faddr 71 2 (.t 56) 2) 3 54 true,
 og 58 (.load 32 none (.t 57)) 3 54 true,
 og 59 (.bin .eql 32 2 (.t 58) (.c .nilIface) 32) 3 54 true,
 oo 60 (.pick (.t 54) (.t 59) (.c (.bool false)))]
@[go_sem] def d07 : List AO := [oo 63 (.faddr 27 2 (.t 5) 2),
 oo 64 (.load 23 none (.t 63)),
 om 65 4,
 om 66 8,
 ⟨(some 67), .callx (.f 30) [(false, (.t 66))] [.x (.t 65), .p 0] [69, 3], none⟩,
 oo 68 (.bslice 23 66 3 1 [.own 1 0 [], .lit (.bool false), .own 1 0 []] [(0, (.t 67))]),
 oo 69 (.app 23 66 3 56 (.t 64) (.t 68)),
 oo 70 (.faddr 27 2 (.t 5) 2),
 ov (.store 23 1 (.t 70) (.t 69))]
@[go_sem] def d1s : List AO := [om 61 8,
 oo 62 (.bin .add 3 0 (.t 61) (.n 1) 3),
 oo 8 (.asg (.t 62))]
def a5e : IC := (.seq (.seq (.reg d3r) (.cond (.t 60) .skip (.exit 2))) (.seq (.block 3 (.draw d07 [[], [0], [], [], [2, 3], [4], [1, 5, 4], [0, 1, 2, 3, 4, 5, 6], [7, 6, 6, 0, 1, 2, 3, 4, 5, 6]])) (.reg d1s)))
@[go_sem] def d18 : List AO := [om 71 4,
 om 72 4,
 oo 73 (.mkf 28 [(.t 72)] []),
 ⟨(some 74), .callx (.f 27) [(false, (.n 8))] [.x (.t 71), .p 0, .x (.t 73)] [69, 3, 73], none⟩,
 oo 10 (.asg (.t 74))]
@[go_sem] def d0e : List AO := [om 75 10,
 oo 76 (.bin .gtr 3 0 (.t 75) (.n 0) 3),
 om 77 76,
 og 78 (.mv (.t 4)) 2 77 true,
 og 79 (.nilck (.t 78)) 2 77 true,
 og 80 (.faddr 71 2 (.t 79) 2) 2 77 true,
 og 81 (.load 32 none (.t 80)) 2 77 true,
 og 82 (.bin .eql 32 2 (.t 81) (.c .nilIface) 32) 2 77 true,
 oo 83 (.pick (.t 77) (.t 82) (.c (.bool false)))]
@[go_sem] def c96 : List AO := [oo 86 (.faddr 27 3 (.t 5) 3),
 oo 87 (.load 24 none (.t 86)),
 om 88 4,
 ⟨(some 89), .callx (.f 29) [] [.x (.t 88)] [69], none⟩,
 oo 90 (.bslice 24 56 2 1 [.own 1 0 [], .lit (.bool false)] [(0, (.t 89))]),
 oo 91 (.app 24 56 2 32 (.t 87) (.t 90)),
 oo 92 (.faddr 27 3 (.t 5) 3),
 ov (.store 24 1 (.t 92) (.t 91))]
@[go_sem] def d0t : List AO := [om 84 10,
 oo 85 (.bin .sub 3 0 (.t 84) (.n 1) 3),
 oo 10 (.asg (.t 85))]
def a5d : IC := (.seq (.seq (.reg d0e) (.cond (.t 83) .skip (.exit 4))) (.seq (.block 5 (.draw c96 [[], [0], [], [2], [3], [1, 4, 3], [0, 1, 2, 3, 4, 5], [6, 5, 5, 0, 1, 2, 3, 4, 5]])) (.reg d0t)))
@[go_sem] def d2k : List AO := [om 93 4,
 om 94 4,
 oo 95 (.mkf 28 [(.t 94)] []),
 ⟨(some 96), .callx (.f 27) [(false, (.n 2048))] [.x (.t 93), .p 0, .x (.t 95)] [69, 3, 73], none⟩,
 oo 11 (.asg (.t 96))]
@[go_sem] def d3i : List AO := [om 97 11,
 oo 98 (.bin .gtr 3 0 (.t 97) (.n 0) 3),
 om 99 98,
 og 100 (.mv (.t 4)) 2 99 true,
 og 101 (.nilck (.t 100)) 2 99 true,
 og 102 (.faddr 71 2 (.t 101) 2) 2 99 true,
 og 103 (.load 32 none (.t 102)) 2 99 true,
 og 104 (.bin .eql 32 2 (.t 103) (.c .nilIface) 32) 2 99 true,
 oo 105 (.pick (.t 99) (.t 104) (.c (.bool false)))]
@[go_sem] def d0s : List AO := [oo 108 (.faddr 27 4 (.t 5) 4),
 oo 109 (.load 25 none (.t 108)),
 om 110 4,
 ⟨(some 111), .callx (.f 31) [] [.x (.t 110)] [69], none⟩,
 oo 112 (.bslice 25 48 6 1 [.lit (.int .i64 0), .lit (.int .i64 0), .own 1 0 [], .own 1 0 [], .lit (.int .i64 0), .lit (.int .i64 0)] [(0, (.t 111))]),
 oo 113 (.app 25 48 6 80 (.t 109) (.t 112)),
 oo 114 (.faddr 27 4 (.t 5) 4),
 ov (.store 25 1 (.t 114) (.t 113))]
@[go_sem] def d17 : List AO := [om 106 11,
 oo 107 (.bin .sub 3 0 (.t 106) (.n 1) 3),
 oo 11 (.asg (.t 107))]
def a5c : IC := (.seq (.seq (.reg d3i) (.cond (.t 105) .skip (.exit 6))) (.seq (.block 7 (.draw d0s [[], [0], [], [2], [3], [1, 4, 3], [0, 1, 2, 3, 4, 5], [6, 5, 5, 0, 1, 2, 3, 4, 5]])) (.reg d17)))
@[go_sem] def c98 : List AO := [om 115 4,
 ⟨(some 116), .callx (.f 26) [] [.x (.t 115)] [69], none⟩,
 om 117 4,
 ⟨(some 118), .callx (.f 26) [] [.x (.t 117)] [69], none⟩,
 oo 119 (.faddr 27 5 (.t 5) 5),
 ov (.store 3 1 (.t 119) (.t 116)),
 oo 120 (.faddr 27 6 (.t 5) 6),
 ov (.store 3 1 (.t 120) (.t 118))]
@[go_sem] def d29 : List AO := [om 121 4,
 ⟨(some 122), .callx (.f 32) [] [.x (.t 121)] [69], none⟩,
 oo 12 (.asg (.t 122))]
@[go_sem] def d01 : List AO := [om 123 12,
 oo 124 (.bin .neq 32 2 (.t 123) (.c .nilIface) 32)]
@[go_sem] def d1t : List AO := [oo 125 (.build 27 [.lit (.int .i64 0), .sl 0 [], .sl 0 [], .sl 0 [], .sl 0 [], .lit (.int .i64 0), .lit (.int .i64 0)] []),
 om 126 12,
 ov (.store 27 7 (.t 2) (.t 125)),
 oo 3 (.asg (.t 126))]
@[go_sem] def d3h : List AO := [oo 127 (.load 27 (some 7) (.t 5)),
 ov (.store 27 7 (.t 2) (.t 127)),
 oo 3 (.asg (.c .nilIface))]
def c37 : IC := (.seq (.reg d7c) (.seq (.reg d4n) (.seq (.reg d4p) (.seq (.reg d55) (.seq (.seq (.reg d7l) (.block 0 (.loop a5j))) (.seq (.seq (.reg d5w) (.block 2 (.loop a5e))) (.seq (.seq (.reg d18) (.block 4 (.loop a5d))) (.seq (.seq (.reg d2k) (.block 6 (.loop a5c))) (.seq (.reg c98) (.seq (.seq (.reg d29) (.seq (.reg d01) (.cond (.t 124) (.seq (.reg d1t) .ret) .skip))) (.seq (.reg d3h) .ret)))))))))))
abbrev d8r : Nat := 7
theorem c75 : fnC pg 7 128 [(.cells 2 7), (.tmp 3)] c37 := a0v Go.Proofs.Tryz.f7 [(.cell 2 27), (.tmp 3)] (by kernel_rfl)
@[go_sem] theorem e6g : fnB pg 7 = true := by kernel_rfl
@[go_sem] def d13 : List AO := [oo 1 (.box 27 7 (.t 0)),
 oo 2 (.asg (.nl 1)),
 oo 3 (.asg (.c .nilIface))]
@[go_sem] def c94 : List AO := [oo 14 (.load 27 (some 7) (.t 1)),
 oc 15 19 [(false, (.t 14))] [27],
 oo 4 (.asg (.t 15))]
@[go_sem] def d1b : List AO := [om 16 4,
 oo 17 (.bin .neq 32 2 (.t 16) (.c .nilIface) 32)]
@[go_sem] def d2s : List AO := [om 18 4,
 oo 2 (.asg (.nl 1)),
 oo 3 (.asg (.t 18))]
@[go_sem] def d16 : List AO := [oo 19 (.bslice 30 5 1 2 [.lit (.int .u8 0)] [(0, (.c (.int .u8 (76)))), (1, (.c (.int .u8 (80))))]),
 oo 20 (.conv 30 30 .keep (.t 19)),
 oo 21 (.build 62 [.own 1 0 []] [(0, 0, 1, (.t 20))]),
 oo 22 (.box 62 1 (.t 21)),
 oo 5 (.asg (.t 22))]
@[go_sem] def d08 : List AO := [om 23 5,
 oo 24 (.faddr 27 0 (.t 1) 0),
 oo 25 (.load 3 none (.t 24)),
 ⟨(some 26), .callx (.f 20) [(false, (.t 25))] [.x (.t 23), .p 0] [60, 3], none⟩]
@[go_sem] def d1q : List AO := [om 27 5,
 oo 28 (.faddr 27 1 (.t 1) 1),
 oo 29 (.load 22 none (.t 28)),
 oo 30 (.len 22 false (.t 29)),
 ⟨(some 31), .callx (.f 21) [(false, (.t 30))] [.x (.t 27), .p 0] [60, 3], none⟩]
@[go_sem] def d12 : List AO := [oo 32 (.faddr 27 1 (.t 1) 1),
 oo 33 (.load 22 none (.t 32)),
 oo 34 (.len 22 false (.t 33)),
 oo 35 (.mv (.n 0))]
@[go_sem] def c97 : List AO := [oo 36 (.bin .lss 3 0 (.t 35) (.t 34) 3)]
@[go_sem] def d2v : List AO := [oo 37 (.iaddr 22 3 (.t 33) (.t 35)),
 oo 38 (.load 58 (some 3) (.t 37)),
 oo 7 (.alloc 58 [.lit (.int .i64 0), .own 1 0 [], .lit (.bool false)]),
 ov (.store 58 3 (.t 7) (.t 38))]
@[go_sem] def c68 : List AO := [om 39 5,
 oo 40 (.faddr 58 0 (.t 7) 0),
 oo 41 (.load 3 none (.t 40)),
 ⟨(some 42), .callx (.f 20) [(false, (.t 41))] [.x (.t 39), .p 0] [60, 3], none⟩]
@[go_sem] def c8a : List AO := [om 43 5,
 oo 44 (.faddr 58 1 (.t 7) 1),
 oo 45 (.load 56 (some 2) (.t 44)),
 ⟨(some 46), .callx (.f 22) [(false, (.t 45))] [.x (.t 43), .p 0] [60, 56], none⟩]
@[go_sem] def c6w : List AO := [oo 47 (.bin .add 3 0 (.t 35) (.n 1) 3),
 om 35 47]
def a58 : IC := (.seq (.reg c97) (.seq (.cond (.t 36) .skip (.exit 0)) (.seq (.block 1 (.seq (.reg d2v) (.seq (.reg c68) (.reg c8a)))) (.reg c6w))))
@[go_sem] def c8j : List AO := [om 48 5,
 oo 49 (.faddr 27 2 (.t 1) 2),
 oo 50 (.load 23 none (.t 49)),
 oo 51 (.len 23 false (.t 50)),
 ⟨(some 52), .callx (.f 21) [(false, (.t 51))] [.x (.t 48), .p 0] [60, 3], none⟩]
@[go_sem] def c7s : List AO := [oo 53 (.faddr 27 2 (.t 1) 2),
 oo 54 (.load 23 none (.t 53)),
 oo 55 (.len 23 false (.t 54)),
 oo 56 (.mv (.n 0))]
@[go_sem] def c8v : List AO := [oo 57 (.bin .lss 3 0 (.t 56) (.t 55) 3)]
@[go_sem] def c8h : List AO := [oo 58 (.iaddr 23 3 (.t 54) (.t 56)),
 oo 59 (.load 66 (some 3) (.t 58)),
 oo 9 (.alloc 66 [.own 1 0 [], .lit (.bool false), .own 1 0 []]),
 ov (.store 66 3 (.t 9) (.t 59))]
@[go_sem] def c7d : List AO := [om 60 5,
 om 61 5,
 oo 62 (.nilck (.t 61)),
 oo 63 (.faddr 62 0 (.t 62) 0),
 oo 64 (.load 30 none (.t 63)),
 oo 65 (.load 66 (some 3) (.t 9)),
 oc 66 23 [(false, (.t 65))] [66],
 oo 67 (.app 30 5 1 1 (.t 64) (.t 66)),
 oo 68 (.nilck (.t 60)),
 oo 69 (.faddr 62 0 (.t 68) 0),
 ov (.store 30 1 (.t 69) (.t 67))]
@[go_sem] def c8r : List AO := [oo 70 (.bin .add 3 0 (.t 56) (.n 1) 3),
 om 56 70]
def a50 : IC := (.seq (.reg c8v) (.seq (.cond (.t 57) .skip (.exit 2)) (.seq (.block 3 (.seq (.reg c8h) (.draw c7d [[], [], [1], [2], [3], [], [5], [4, 6, 6], [0, 0, 1, 2, 3, 4, 5, 6, 7], [8, 0, 1, 2, 3, 4, 5, 6, 7], [9, 7, 7, 0, 1, 2, 3, 4, 5, 6, 7]]))) (.reg c8r))))
@[go_sem] def c8x : List AO := [om 71 5,
 oo 72 (.faddr 27 3 (.t 1) 3),
 oo 73 (.load 24 none (.t 72)),
 oo 74 (.len 24 false (.t 73)),
 ⟨(some 75), .callx (.f 21) [(false, (.t 74))] [.x (.t 71), .p 0] [60, 3], none⟩]
@[go_sem] def c7k : List AO := [oo 76 (.faddr 27 3 (.t 1) 3),
 oo 77 (.load 24 none (.t 76)),
 oo 78 (.len 24 false (.t 77)),
 oo 79 (.mv (.n 0))]
@[go_sem] def c6y : List AO := [oo 80 (.bin .lss 3 0 (.t 79) (.t 78) 3)]
@[go_sem] def c6m : List AO := [oo 81 (.iaddr 24 2 (.t 77) (.t 79)),
 oo 82 (.load 56 (some 2) (.t 81)),
 oo 11 (.alloc 56 [.own 1 0 [], .lit (.bool false)]),
 ov (.store 56 2 (.t 11) (.t 82))]
@[go_sem] def c7t : List AO := [om 83 5,
 oo 84 (.load 56 (some 2) (.t 11)),
 ⟨(some 85), .callx (.f 22) [(false, (.t 84))] [.x (.t 83), .p 0] [60, 56], none⟩]
@[go_sem] def c7x : List AO := [oo 86 (.bin .add 3 0 (.t 79) (.n 1) 3),
 om 79 86]
def a5z : IC := (.seq (.reg c6y) (.seq (.cond (.t 80) .skip (.exit 4)) (.seq (.block 5 (.seq (.reg c6m) (.reg c7t))) (.reg c7x))))
@[go_sem] def c8c : List AO := [om 87 5,
 oo 88 (.faddr 27 4 (.t 1) 4),
 oo 89 (.load 25 none (.t 88)),
 oo 90 (.len 25 false (.t 89)),
 ⟨(some 91), .callx (.f 21) [(false, (.t 90))] [.x (.t 87), .p 0] [60, 3], none⟩]
@[go_sem] def c7h : List AO := [oo 92 (.faddr 27 4 (.t 1) 4),
 oo 93 (.load 25 none (.t 92)),
 oo 94 (.len 25 false (.t 93)),
 oo 95 (.mv (.n 0))]
@[go_sem] def c84 : List AO := [oo 96 (.bin .lss 3 0 (.t 95) (.t 94) 3)]
@[go_sem] def c7g : List AO := [oo 97 (.iaddr 25 6 (.t 93) (.t 95)),
 oo 98 (.load 48 (some 6) (.t 97)),
 oo 13 (.alloc 48 [.lit (.int .i64 0), .lit (.int .i64 0), .own 1 0 [], .own 1 0 [], .lit (.int .i64 0), .lit (.int .i64 0)]),
 ov (.store 48 6 (.t 13) (.t 98))]
@[go_sem] def c7o : List AO := [om 99 5,
 oo 100 (.load 48 (some 6) (.t 13)),
 ⟨(some 101), .callx (.f 24) [(false, (.t 100))] [.x (.t 99), .p 0] [60, 48], none⟩]
@[go_sem] def c6l : List AO := [oo 102 (.bin .add 3 0 (.t 95) (.n 1) 3),
 om 95 102]
def a54 : IC := (.seq (.reg c84) (.seq (.cond (.t 96) .skip (.exit 6)) (.seq (.block 7 (.seq (.reg c7g) (.reg c7o))) (.reg c6l))))
@[go_sem] def c8l : List AO := [om 103 5,
 oo 104 (.faddr 27 5 (.t 1) 5),
 oo 105 (.load 3 none (.t 104)),
 ⟨(some 106), .callx (.f 20) [(false, (.t 105))] [.x (.t 103), .p 0] [60, 3], none⟩]
@[go_sem] def c81 : List AO := [om 107 5,
 oo 108 (.faddr 27 6 (.t 1) 6),
 oo 109 (.load 3 none (.t 108)),
 ⟨(some 110), .callx (.f 20) [(false, (.t 109))] [.x (.t 107), .p 0] [60, 3], none⟩]
@[go_sem] def c6p : List AO := [om 111 5,
 oo 112 (.nilck (.t 111)),
 oo 113 (.faddr 62 0 (.t 112) 0),
 oo 114 (.load 30 none (.t 113)),
 oo 2 (.asg (.t 114)),
 oo 3 (.asg (.c .nilIface))]
def b3x : IC := (.seq (.reg d13) (.seq (.seq (.reg c94) (.seq (.reg d1b) (.cond (.t 17) (.seq (.reg d2s) .ret) .skip))) (.seq (.reg d16) (.seq (.reg d08) (.seq (.reg d1q) (.seq (.seq (.reg d12) (.block 0 (.loop a58))) (.seq (.reg c8j) (.seq (.seq (.reg c7s) (.block 2 (.loop a50))) (.seq (.reg c8x) (.seq (.seq (.reg c7k) (.block 4 (.loop a5z))) (.seq (.reg c8c) (.seq (.seq (.reg c7h) (.block 6 (.loop a54))) (.seq (.reg c8l) (.seq (.reg c81) (.seq (.reg c6p) .ret)))))))))))))))
abbrev c2m : Nat := 6
theorem b3j : fnC pg 6 115 [(.tmp 2), (.tmp 3)] b3x := a0v Go.Proofs.Tryz.f6 [(.tmp 2), (.tmp 3)] (by kernel_rfl)
@[go_sem] theorem e59 : fnB pg 6 = true := by kernel_rfl
@[go_sem] def b75 : List AO := [oo 2 (.alloc 56 [.own 1 0 [], .lit (.bool false)])]
@[go_sem] def b68 : List AO := [om 7 0,
 oo 8 (.nilck (.t 7)),
 oo 9 (.faddr 71 1 (.t 8) 1),
 oo 10 (.load 3 none (.t 9)),
 oo 3 (.asg (.t 10))]
@[go_sem] def b8w : List AO := [om 11 0,
 ⟨(some 12), .callx (.f 64) [] [.x (.t 11)] [69], none⟩,
 oo 4 (.asg (.t 12))]
@[go_sem] def b8v : List AO := [om 13 0,
 oo 14 (.nilck (.t 13)),
 oo 15 (.faddr 71 2 (.t 14) 2),
 oo 16 (.load 32 none (.t 15)),
 oo 17 (.bin .eql 32 2 (.t 16) (.c .nilIface) 32),
 om 18 17,
 og 19 (.mv (.t 4)) 5 18 true,
 og 20 (.bin .geq 3 0 (.t 19) (.n 16) 3) 5 18 true,
 oo 21 (.pick (.t 18) (.t 20) (.c (.bool false)))]
@[go_sem] def b7b : List AO := [om 22 0,
 om 23 3,
 oo 24 (.load 32 none (.g 3)),
 ⟨(some 25), .callx (.f 62) [(false, (.t 23)), (false, (.t 24))] [.x (.t 22), .p 0, .p 1] [69, 3, 32], none⟩]
@[go_sem] def b8a : List AO := [om 26 4,
 oo 27 (.bin .and 3 0 (.t 26) (.n 8) 3),
 oo 28 (.bin .neq 3 0 (.t 27) (.n 0) 3),
 oo 29 (.build 56 [.own 1 0 [], .lit (.bool false)] [(1, 1, 1, (.t 28))]),
 oo 5 (.alloc 56 [.own 1 0 [], .lit (.bool false)]),
 ov (.store 56 2 (.t 5) (.t 29))]
@[go_sem] def b80 : List AO := [om 30 4,
 oo 31 (.bin .andNot 3 0 (.t 30) (.n 8) 3),
 oo 6 (.asg (.t 31))]
@[go_sem] def b66 : List AO := [om 32 6,
 oo 33 (.bin .gtr 3 0 (.t 32) (.n 0) 3),
 om 34 33,
 og 35 (.mv (.t 0)) 2 34 true,
 og 36 (.nilck (.t 35)) 2 34 true,
 og 37 (.faddr 71 2 (.t 36) 2) 2 34 true,
 og 38 (.load 32 none (.t 37)) 2 34 true,
 og 39 (.bin .eql 32 2 (.t 38) (.c .nilIface) 32) 2 34 true,
 oo 40 (.pick (.t 34) (.t 39) (.c (.bool false)))]
@[go_sem] def b8b : List AO := [oo 43 (.faddr 56 0 (.t 5) 0),
 oo 44 (.load 46 none (.t 43)),
 om 45 0,
 ⟨(some 46), .callx (.f 28) [] [.x (.t 45)] [69], none⟩,
 oo 47 (.bslice 46 3 1 1 [.lit (.int .i64 0)] [(0, (.t 46))]),
 oo 48 (.app 46 3 1 8 (.t 44) (.t 47)),
 oo 49 (.faddr 56 0 (.t 5) 0),
 ov (.store 46 1 (.t 49) (.t 48))]
@[go_sem] def b6v : List AO := [om 41 6,
 oo 42 (.bin .sub 3 0 (.t 41) (.n 1) 3),
 oo 6 (.asg (.t 42))]
def a1s : IC := (.seq (.seq (.reg b66) (.cond (.t 40) .skip (.exit 0))) (.seq (.block 1 (.draw b8b [[], [0], [], [2], [3], [1, 4, 3], [0, 1, 2, 3, 4, 5], [6, 5, 5, 0, 1, 2, 3, 4, 5]])) (.reg b6v)))
@[go_sem] def b47 : List AO := [oo 50 (.load 56 (some 2) (.t 5)),
 ov (.store 56 2 (.t 2) (.t 50))]
def a7t : IC := (.seq (.reg b75) (.seq (.reg b68) (.seq (.reg b8w) (.seq (.seq (.reg b8v) (.cond (.t 21) (.reg b7b) .skip)) (.seq (.reg b8a) (.seq (.seq (.reg b80) (.block 0 (.loop a1s))) (.seq (.reg b47) .ret)))))))
abbrev b9y : Nat := 29
@[go_sem] theorem d8f : fnB pg 29 = true := by kernel_rfl
theorem b17 : fnX pg 29 51 [(.cells 2 2)] [(.cell 2 56)] a7t := a2o Go.Proofs.Tryz.f29 (by kernel_rfl)
@[go_sem] def b46 : List AO := [oo 2 (.alloc 48 [.lit (.int .i64 0), .lit (.int .i64 0), .own 1 0 [], .own 1 0 [], .lit (.int .i64 0), .lit (.int .i64 0)])]
@[go_sem] def b6h : List AO := [om 4 0,
 ⟨(some 5), .callx (.f 64) [] [.x (.t 4)] [69], none⟩,
 om 6 0,
 ⟨(some 7), .callx (.f 26) [] [.x (.t 6)] [69], none⟩,
 oo 8 (.build 48 [.lit (.int .i64 0), .lit (.int .i64 0), .own 1 0 [], .own 1 0 [], .lit (.int .i64 0), .lit (.int .i64 0)] [(0, 0, 1, (.t 5)), (1, 1, 1, (.t 7))]),
 oo 3 (.alloc 48 [.lit (.int .i64 0), .lit (.int .i64 0), .own 1 0 [], .own 1 0 [], .lit (.int .i64 0), .lit (.int .i64 0)]),
 ov (.store 48 6 (.t 3) (.t 8))]
@[go_sem] def b6j : List AO := [om 9 0,
 om 10 0,
 oo 11 (.mkf 26 [(.t 10)] []),
 ⟨(some 12), .callx (.f 67) [] [.x (.t 9), .x (.t 11)] [69, 73], none⟩,
 om 13 0,
 om 14 0,
 oo 15 (.mkf 26 [(.t 14)] []),
 ⟨(some 16), .callx (.f 67) [] [.x (.t 13), .x (.t 15)] [69, 73], none⟩,
 oo 17 (.faddr 48 2 (.t 3) 2),
 ov (.store 46 1 (.t 17) (.t 12)),
 oo 18 (.faddr 48 3 (.t 3) 3),
 ov (.store 46 1 (.t 18) (.t 16))]
@[go_sem] def b5i : List AO := [om 19 0,
 ⟨(some 20), .callx (.f 26) [] [.x (.t 19)] [69], none⟩,
 om 21 0,
 ⟨(some 22), .callx (.f 26) [] [.x (.t 21)] [69], none⟩,
 oo 23 (.faddr 48 4 (.t 3) 4),
 ov (.store 3 1 (.t 23) (.t 20)),
 oo 24 (.faddr 48 5 (.t 3) 5),
 ov (.store 3 1 (.t 24) (.t 22))]
@[go_sem] def b5y : List AO := [oo 25 (.load 48 (some 6) (.t 3)),
 ov (.store 48 6 (.t 2) (.t 25))]
def a6h : IC := (.seq (.reg b46) (.seq (.reg b6h) (.seq (.reg b6j) (.seq (.reg b5i) (.seq (.reg b5y) .ret)))))
abbrev b8e : Nat := 31
@[go_sem] theorem d72 : fnB pg 31 = true := by kernel_rfl
theorem b0r : fnX pg 31 26 [(.cells 2 6)] [(.cell 2 48)] a6h := a2o Go.Proofs.Tryz.f31 (by kernel_rfl)
@[go_sem] def d4i : List AO := [oo 1 (.box 27 7 (.t 0)),
 oo 2 (.asg (.c .nilIface))]
@[go_sem] def d7y : List AO := [oo 12 (.faddr 27 1 (.t 1) 1),
 oo 13 (.load 22 none (.t 12)),
 oo 14 (.len 22 false (.t 13)),
 oo 15 (.bin .gtr 3 0 (.t 14) (.n 128) 3),
 om 16 15,
 og 17 (.faddr 27 2 (.t 1) 2) 4 16 false,
 og 18 (.load 23 none (.t 17)) 4 16 false,
 og 19 (.len 23 false (.t 18)) 4 16 false,
 og 20 (.bin .gtr 3 0 (.t 19) (.n 64) 3) 4 16 false,
 oo 21 (.pick (.t 16) (.c (.bool true)) (.t 20)),
 om 22 21,
 og 23 (.faddr 27 3 (.t 1) 3) 10 22 false,
 og 24 (.load 24 none (.t 23)) 10 22 false,
 og 25 (.len 24 false (.t 24)) 10 22 false,
 og 26 (.bin .gtr 3 0 (.t 25) (.n 8) 3) 10 22 false,
 oo 27 (.pick (.t 22) (.c (.bool true)) (.t 26)),
 om 28 27,
 og 29 (.faddr 27 4 (.t 1) 4) 16 28 false,
 og 30 (.load 25 none (.t 29)) 16 28 false,
 og 31 (.len 25 false (.t 30)) 16 28 false,
 og 32 (.bin .gtr 3 0 (.t 31) (.n 2048) 3) 16 28 false,
 oo 33 (.pick (.t 28) (.c (.bool true)) (.t 32)),
 om 34 33,
 og 35 (.faddr 27 4 (.t 1) 4) 22 34 false,
 og 36 (.load 25 none (.t 35)) 22 34 false,
 ⟨(some 37), .callx (.f 45) [(false, (.t 36))] [.p 0, .x (.f 46)] [25, 91], (some (22, 34, false))⟩,
 oo 38 (.pick (.t 34) (.c (.bool true)) (.t 37))]
@[go_sem] def d73 : List AO := [oo 39 (.load 32 none (.g 0)),
 oo 2 (.asg (.t 39))]
@[go_sem] def d7s : List AO := [oo 40 (.load 27 (some 7) (.t 1)),
 oc 41 51 [(false, (.t 40))] [27],
 oo 3 (.asg (.t 41))]
@[go_sem] def d53 : List AO := [om 42 3,
 ⟨(some 43), .callx (.f 52) [(false, (.t 42))] [.p 0, .x (.f 53)] [24, 54], none⟩]
@[go_sem] def d49 : List AO := [oo 44 (.load 32 none (.g 0)),
 oo 2 (.asg (.t 44))]
@[go_sem] def d5y : List AO := [oo 45 (.faddr 27 0 (.t 1) 0),
 oo 46 (.load 3 none (.t 45)),
 oo 47 (.faddr 27 5 (.t 1) 5),
 oo 48 (.load 3 none (.t 47)),
 oo 49 (.faddr 27 6 (.t 1) 6),
 oo 50 (.load 3 none (.t 49)),
 oo 51 (.bslice 46 3 1 3 [.lit (.int .i64 0)] [(0, (.t 46)), (1, (.t 48)), (2, (.t 50))]),
 oo 4 (.asg (.t 51))]
@[go_sem] def d44 : List AO := [oo 52 (.faddr 27 1 (.t 1) 1),
 oo 53 (.load 22 none (.t 52)),
 oo 54 (.len 22 false (.t 53)),
 oo 55 (.mv (.n 0))]
@[go_sem] def d75 : List AO := [oo 56 (.bin .lss 3 0 (.t 55) (.t 54) 3)]
@[go_sem] def d5a : List AO := [oo 57 (.iaddr 22 3 (.t 53) (.t 55)),
 oo 58 (.load 58 (some 3) (.t 57)),
 oo 6 (.alloc 58 [.lit (.int .i64 0), .own 1 0 [], .lit (.bool false)]),
 ov (.store 58 3 (.t 6) (.t 58))]
@[go_sem] def d04 : List AO := [om 59 4,
 oo 60 (.faddr 58 0 (.t 6) 0),
 oo 61 (.load 3 none (.t 60)),
 oo 62 (.bslice 46 3 1 1 [.lit (.int .i64 0)] [(0, (.t 61))]),
 oo 63 (.app 46 3 1 8 (.t 59) (.t 62)),
 oo 4 (.asg (.t 63))]
@[go_sem] def d05 : List AO := [oo 64 (.bin .add 3 0 (.t 55) (.n 1) 3),
 om 55 64]
def a7y : IC := (.seq (.reg d75) (.seq (.cond (.t 56) .skip (.exit 0)) (.seq (.block 1 (.seq (.reg d5a) (.reg d04))) (.reg d05))))
@[go_sem] def d2y : List AO := [om 65 3,
 oo 66 (.len 24 false (.t 65)),
 oo 67 (.mv (.n 0))]
@[go_sem] def d2h : List AO := [oo 68 (.bin .lss 3 0 (.t 67) (.t 66) 3)]
@[go_sem] def d2g : List AO := [oo 69 (.iaddr 24 2 (.t 65) (.t 67)),
 oo 70 (.load 56 (some 2) (.t 69)),
 oo 8 (.alloc 56 [.own 1 0 [], .lit (.bool false)]),
 ov (.store 56 2 (.t 8) (.t 70))]
@[go_sem] def d24 : List AO := [oo 71 (.faddr 56 0 (.t 8) 0),
 oo 72 (.load 46 none (.t 71)),
 ⟨(some 73), .callx (.f 54) [(false, (.t 72))] [.p 0, .x (.f 55)] [46, 97], none⟩]
@[go_sem] def d1p : List AO := [oo 74 (.load 32 none (.g 1)),
 oo 2 (.asg (.t 74))]
@[go_sem] def d3d : List AO := [oo 75 (.bin .add 3 0 (.t 67) (.n 1) 3),
 om 67 75]
def a7x : IC := (.seq (.reg d2h) (.seq (.cond (.t 68) .skip (.exit 2)) (.seq (.block 3 (.seq (.reg d2g) (.seq (.reg d24) (.cond (.t 73) (.seq (.reg d1p) .ret) .skip)))) (.reg d3d))))
@[go_sem] def d03 : List AO := [om 76 4,
 ⟨(some 77), .callx (.f 54) [(false, (.t 76))] [.p 0, .x (.f 56)] [46, 97], none⟩,
 om 78 77,
 og 79 (.faddr 27 4 (.t 1) 4) 2 78 false,
 og 80 (.load 25 none (.t 79)) 2 78 false,
 ⟨(some 81), .callx (.f 45) [(false, (.t 80))] [.p 0, .x (.f 58)] [25, 91], (some (2, 78, false))⟩,
 oo 82 (.pick (.t 78) (.c (.bool true)) (.t 81))]
@[go_sem] def d2a : List AO := [oo 83 (.load 32 none (.g 1)),
 oo 2 (.asg (.t 83))]
@[go_sem] def d0q : List AO := [oo 84 (.faddr 27 2 (.t 1) 2),
 oo 85 (.load 23 none (.t 84)),
 oo 86 (.len 23 false (.t 85)),
 oo 87 (.mv (.n 0))]
@[go_sem] def d2f : List AO := [oo 88 (.bin .lss 3 0 (.t 87) (.t 86) 3)]
@[go_sem] def d0r : List AO := [oo 89 (.iaddr 23 3 (.t 85) (.t 87)),
 oo 90 (.load 66 (some 3) (.t 89)),
 oo 10 (.alloc 66 [.own 1 0 [], .lit (.bool false), .own 1 0 []]),
 ov (.store 66 3 (.t 10) (.t 90))]
@[go_sem] def d2w : List AO := [oo 91 (.load 66 (some 3) (.t 10)),
 oc 92 59 [(false, (.t 91))] [66],
 oo 11 (.asg (.t 92))]
@[go_sem] def d3c : List AO := [om 93 11,
 oo 94 (.bin .neq 32 2 (.t 93) (.c .nilIface) 32)]
@[go_sem] def d0j : List AO := [om 95 11,
 oo 2 (.asg (.t 95))]
@[go_sem] def d3w : List AO := [oo 96 (.bin .add 3 0 (.t 87) (.n 1) 3),
 om 87 96]
def a7j : IC := (.seq (.reg d2f) (.seq (.cond (.t 88) .skip (.exit 4)) (.seq (.block 5 (.seq (.reg d0r) (.seq (.reg d2w) (.seq (.reg d3c) (.cond (.t 94) (.seq (.reg d0j) .ret) .skip))))) (.reg d3w))))
@[go_sem] def d1i : List AO := [oo 2 (.asg (.c .nilIface))]
def a4y : IC := (.seq (.reg d4i) (.seq (.seq (.reg d7y) (.cond (.t 38) (.seq (.reg d73) .ret) .skip)) (.seq (.reg d7s) (.seq (.seq (.reg d53) (.cond (.t 43) (.seq (.reg d49) .ret) .skip)) (.seq (.reg d5y) (.seq (.seq (.reg d44) (.block 0 (.loop a7y))) (.seq (.seq (.reg d2y) (.block 2 (.loop a7x))) (.seq (.seq (.reg d03) (.cond (.t 82) (.seq (.reg d2a) .ret) .skip)) (.seq (.seq (.reg d0q) (.block 4 (.loop a7j))) (.seq (.reg d1i) .ret))))))))))
abbrev d96 : Nat := 19
theorem c8b : fnC pg 19 97 [(.tmp 2)] a4y := a0v Go.Proofs.Tryz.f19 [(.tmp 2)] (by kernel_rfl)
@[go_sem] theorem e7j : fnB pg 19 = true := by kernel_rfl
@[go_sem] def b8x : List AO := [oo 3 (.box 56 2 (.t 1))]
@[go_sem] def b8l : List AO := [oo 7 (.faddr 56 0 (.t 3) 0),
 oo 8 (.load 46 none (.t 7)),
 oo 9 (.len 46 false (.t 8)),
 oo 4 (.asg (.t 9))]
@[go_sem] def b7g : List AO := [oo 10 (.faddr 56 1 (.t 3) 1),
 oo 11 (.load 4 none (.t 10))]
@[go_sem] def b7l : List AO := [om 12 4,
 oo 13 (.bin .add 3 0 (.t 12) (.n 8) 3),
 oo 4 (.asg (.t 13))]
@[go_sem] def b8i : List AO := [om 14 0,
 om 15 4,
 ⟨(some 16), .callx (.f 60) [(false, (.t 15))] [.x (.t 14), .p 0] [60, 3], none⟩]
@[go_sem] def b8d : List AO := [oo 17 (.faddr 56 0 (.t 3) 0),
 oo 18 (.load 46 none (.t 17)),
 oo 19 (.len 46 false (.t 18)),
 oo 20 (.mv (.n 0))]
@[go_sem] def b8p : List AO := [oo 21 (.bin .lss 3 0 (.t 20) (.t 19) 3)]
@[go_sem] def b8g : List AO := [oo 22 (.iaddr 46 1 (.t 18) (.t 20)),
 oo 23 (.load 3 none (.t 22)),
 oo 6 (.asg (.t 23))]
@[go_sem] def b6z : List AO := [om 24 0,
 om 25 6,
 ⟨(some 26), .callx (.f 21) [(false, (.t 25))] [.x (.t 24), .p 0] [60, 3], none⟩]
@[go_sem] def b7d : List AO := [oo 27 (.bin .add 3 0 (.t 20) (.n 1) 3),
 om 20 27]
def a2q : IC := (.seq (.reg b8p) (.seq (.cond (.t 21) .skip (.exit 0)) (.seq (.block 1 (.seq (.reg b8g) (.reg b6z))) (.reg b7d))))
def a4f : IC := (.seq (.reg b8x) (.seq (.reg b8l) (.seq (.seq (.reg b7g) (.cond (.t 11) (.reg b7l) .skip)) (.seq (.reg b8i) (.seq (.reg b8d) (.block 0 (.loop a2q)))))))
abbrev c03 : Nat := 22
@[go_sem] theorem d8e : fnB pg 22 = true := by kernel_rfl
theorem b15 : fnX pg 22 28 [] [] a4f := a2o Go.Proofs.Tryz.f22 (by kernel_rfl)
@[go_sem] def b4u : List AO := [oo 3 (.box 48 6 (.t 1))]
@[go_sem] def b4x : List AO := [om 8 0,
 oo 9 (.faddr 48 0 (.t 3) 0),
 oo 10 (.load 3 none (.t 9)),
 ⟨(some 11), .callx (.f 60) [(false, (.t 10))] [.x (.t 8), .p 0] [60, 3], none⟩]
@[go_sem] def b52 : List AO := [om 12 0,
 oo 13 (.faddr 48 1 (.t 3) 1),
 oo 14 (.load 3 none (.t 13)),
 ⟨(some 15), .callx (.f 20) [(false, (.t 14))] [.x (.t 12), .p 0] [60, 3], none⟩]
@[go_sem] def b5f : List AO := [oo 16 (.faddr 48 2 (.t 3) 2),
 oo 17 (.load 46 none (.t 16)),
 oo 18 (.faddr 48 3 (.t 3) 3),
 oo 19 (.load 46 none (.t 18)),
 oo 20 (.bslice 100 46 1 2 [.own 1 0 []] [(0, (.t 17)), (1, (.t 19))]),
 oo 21 (.len 100 false (.t 20)),
 oo 22 (.mv (.n 0))]
@[go_sem] def b6f : List AO := [oo 23 (.bin .lss 3 0 (.t 22) (.t 21) 3)]
@[go_sem] def b5b : List AO := [oo 24 (.iaddr 100 1 (.t 20) (.t 22)),
 oo 25 (.load 46 none (.t 24)),
 oo 5 (.asg (.t 25))]
@[go_sem] def b5x : List AO := [om 26 0,
 om 27 5,
 oo 28 (.len 46 false (.t 27)),
 ⟨(some 29), .callx (.f 60) [(false, (.t 28))] [.x (.t 26), .p 0] [60, 3], none⟩]
@[go_sem] def b56 : List AO := [om 30 5,
 oo 31 (.len 46 false (.t 30)),
 oo 32 (.mv (.n 0))]
@[go_sem] def b4w : List AO := [oo 33 (.bin .lss 3 0 (.t 32) (.t 31) 3)]
@[go_sem] def b51 : List AO := [oo 34 (.iaddr 46 1 (.t 30) (.t 32)),
 oo 35 (.load 3 none (.t 34)),
 oo 7 (.asg (.t 35))]
@[go_sem] def b3p : List AO := [om 36 0,
 om 37 7,
 ⟨(some 38), .callx (.f 20) [(false, (.t 37))] [.x (.t 36), .p 0] [60, 3], none⟩]
@[go_sem] def b22 : List AO := [oo 39 (.bin .add 3 0 (.t 32) (.n 1) 3),
 om 32 39]
def a2d : IC := (.seq (.reg b4w) (.seq (.cond (.t 33) .skip (.exit 2)) (.seq (.block 3 (.seq (.reg b51) (.reg b3p))) (.reg b22))))
@[go_sem] def b2v : List AO := [oo 40 (.bin .add 3 0 (.t 22) (.n 1) 3),
 om 22 40]
def a1k : IC := (.seq (.reg b6f) (.seq (.cond (.t 23) .skip (.exit 0)) (.seq (.block 1 (.seq (.reg b5b) (.seq (.reg b5x) (.seq (.reg b56) (.block 2 (.loop a2d)))))) (.reg b2v))))
@[go_sem] def b3q : List AO := [om 41 0,
 oo 42 (.faddr 48 4 (.t 3) 4),
 oo 43 (.load 3 none (.t 42)),
 ⟨(some 44), .callx (.f 20) [(false, (.t 43))] [.x (.t 41), .p 0] [60, 3], none⟩]
@[go_sem] def b25 : List AO := [om 45 0,
 oo 46 (.faddr 48 5 (.t 3) 5),
 oo 47 (.load 3 none (.t 46)),
 ⟨(some 48), .callx (.f 20) [(false, (.t 47))] [.x (.t 45), .p 0] [60, 3], none⟩]
def a6l : IC := (.seq (.reg b4u) (.seq (.reg b4x) (.seq (.reg b52) (.seq (.seq (.reg b5f) (.block 0 (.loop a1k))) (.seq (.reg b3q) (.reg b25))))))
abbrev b8q : Nat := 24
@[go_sem] theorem d6b : fnB pg 24 = true := by kernel_rfl
theorem b0x : fnX pg 24 49 [] [] a6l := a2o Go.Proofs.Tryz.f24 (by kernel_rfl)
@[go_sem] def a57 : List AO := [oo 4 (.asg (.c (.bool false)))]
@[go_sem] def a52 : List AO := [om 5 0,
 om 6 1,
 ⟨(some 7), .callx (.f 70) [(false, (.t 5))] [.p 0, .x (.t 6)] [25, 91], none⟩,
 oo 8 (.bin .geq 3 0 (.t 7) (.n 0) 3),
 oo 4 (.asg (.t 8))]
def a3j : IC := (.seq (.reg a57) (.seq (.reg a52) .ret))
abbrev a6z : Nat := 45
@[go_sem] theorem c3i : fnB pg 45 = true := by kernel_rfl
theorem a4v : fnX pg 45 9 [(.tmp 4)] [(.tmp 4)] a3j := a2o Go.Proofs.Tryz.f45 (by kernel_rfl)
@[go_sem] def d5q : List AO := [oo 1 (.box 48 6 (.t 0)),
 oo 2 (.asg (.c (.bool false)))]
@[go_sem] def d65 : List AO := [oo 3 (.faddr 48 2 (.t 1) 2),
 oo 4 (.load 46 none (.t 3)),
 oo 5 (.len 46 false (.t 4)),
 oo 6 (.bin .gtr 3 0 (.t 5) (.n 8) 3),
 om 7 6,
 og 8 (.faddr 48 3 (.t 1) 3) 4 7 false,
 og 9 (.load 46 none (.t 8)) 4 7 false,
 og 10 (.len 46 false (.t 9)) 4 7 false,
 og 11 (.bin .gtr 3 0 (.t 10) (.n 8) 3) 4 7 false,
 oo 12 (.pick (.t 7) (.c (.bool true)) (.t 11)),
 oo 2 (.asg (.t 12))]
def b0h : IC := (.seq (.reg d5q) (.seq (.reg d65) .ret))
abbrev c55 : Nat := 46
theorem c7e : fnC pg 46 13 [(.tmp 2)] b0h := a0v Go.Proofs.Tryz.f46 [(.tmp 2)] (by kernel_rfl)
@[go_sem] theorem c06 : fnB pg 46 = true := by kernel_rfl
@[go_sem] def d3u : List AO := [oo 1 (.box 27 7 (.t 0)),
 oo 2 (.asg (.nl 2))]
@[go_sem] def d3j : List AO := [oo 3 (.asg (.nl 2))]
@[go_sem] def d1c : List AO := [oo 6 (.faddr 27 1 (.t 1) 1),
 oo 7 (.load 22 none (.t 6)),
 oo 8 (.len 22 false (.t 7)),
 oo 9 (.mv (.n 0))]
@[go_sem] def d0p : List AO := [oo 10 (.bin .lss 3 0 (.t 9) (.t 8) 3)]
@[go_sem] def d2p : List AO := [oo 11 (.iaddr 22 3 (.t 7) (.t 9)),
 oo 12 (.load 58 (some 3) (.t 11)),
 oo 5 (.alloc 58 [.lit (.int .i64 0), .own 1 0 [], .lit (.bool false)]),
 ov (.store 58 3 (.t 5) (.t 12))]
@[go_sem] def d3s : List AO := [om 13 3,
 oo 14 (.faddr 58 1 (.t 5) 1),
 oo 15 (.load 56 (some 2) (.t 14)),
 oo 16 (.bslice 24 56 2 1 [.own 1 0 [], .lit (.bool false)] [(0, (.t 15))]),
 oo 17 (.app 24 56 2 32 (.t 13) (.t 16)),
 oo 3 (.asg (.t 17))]
@[go_sem] def d0h : List AO := [oo 18 (.bin .add 3 0 (.t 9) (.n 1) 3),
 om 9 18]
def b0l : IC := (.seq (.reg d0p) (.seq (.cond (.t 10) .skip (.exit 0)) (.seq (.block 1 (.seq (.reg d2p) (.reg d3s))) (.reg d0h))))
@[go_sem] def d3b : List AO := [om 19 3,
 oo 20 (.faddr 27 3 (.t 1) 3),
 oo 21 (.load 24 none (.t 20)),
 oo 22 (.app 24 56 2 32 (.t 19) (.t 21)),
 oo 2 (.asg (.t 22))]
def c2q : IC := (.seq (.reg d3u) (.seq (.reg d3j) (.seq (.seq (.reg d1c) (.block 0 (.loop b0l))) (.seq (.reg d3b) .ret))))
abbrev d4a : Nat := 51
theorem c46 : fnC pg 51 23 [(.tmp 2)] c2q := a0v Go.Proofs.Tryz.f51 [(.tmp 2)] (by kernel_rfl)
@[go_sem] theorem e6f : fnB pg 51 = true := by kernel_rfl
@[go_sem] def a6y : List AO := [oo 4 (.asg (.c (.bool false)))]
@[go_sem] def a6q : List AO := [om 5 0,
 om 6 1,
 ⟨(some 7), .callx (.f 72) [(false, (.t 5))] [.p 0, .x (.t 6)] [24, 54], none⟩,
 oo 8 (.bin .geq 3 0 (.t 7) (.n 0) 3),
 oo 4 (.asg (.t 8))]
def a3s : IC := (.seq (.reg a6y) (.seq (.reg a6q) .ret))
abbrev a62 : Nat := 52
@[go_sem] theorem c3y : fnB pg 52 = true := by kernel_rfl
theorem a5f : fnX pg 52 9 [(.tmp 4)] [(.tmp 4)] a3s := a2o Go.Proofs.Tryz.f52 (by kernel_rfl)
@[go_sem] def c62 : List AO := [oo 1 (.box 56 2 (.t 0)),
 oo 2 (.asg (.c (.bool false)))]
@[go_sem] def c73 : List AO := [oo 3 (.faddr 56 0 (.t 1) 0),
 oo 4 (.load 46 none (.t 3)),
 oo 5 (.len 46 false (.t 4)),
 oo 6 (.bin .gtr 3 0 (.t 5) (.n 7) 3),
 oo 2 (.asg (.t 6))]
def b1k : IC := (.seq (.reg c62) (.seq (.reg c73) .ret))
theorem c26 : fnC pg 53 7 [(.tmp 2)] b1k := a0v Go.Proofs.Tryz.f53 [(.tmp 2)] (by kernel_rfl)
@[go_sem] theorem c4t : fnB pg 53 = true := by kernel_rfl
@[go_sem] def c8p : List AO := [oo 2 (.asg (.c (.bool false)))]
@[go_sem] def c7m : List AO := [om 3 0,
 oo 4 (.bin .lss 3 0 (.t 3) (.n 0) 3),
 om 5 4,
 og 6 (.mv (.t 0)) 2 5 false,
 og 7 (.bin .gtr 3 0 (.t 6) (.n 65535) 3) 2 5 false,
 oo 8 (.pick (.t 5) (.c (.bool true)) (.t 7)),
 oo 2 (.asg (.t 8))]
def a53 : IC := (.seq (.reg c8p) (.seq (.reg c7m) .ret))
theorem c28 : fnC pg 55 9 [(.tmp 2)] a53 := a0v Go.Proofs.Tryz.f55 [(.tmp 2)] (by kernel_rfl)
@[go_sem] theorem c58 : fnB pg 55 = true := by kernel_rfl
@[go_sem] def c86 : List AO := [oo 2 (.asg (.c (.bool false)))]
@[go_sem] def c7w : List AO := [om 3 0,
 oc 4 57 [(false, (.t 3))] [3],
 oo 5 (.un .not 4 (.t 4)),
 oo 2 (.asg (.t 5))]
def c0f : IC := (.seq (.reg c86) (.seq (.reg c7w) .ret))
theorem c25 : fnC pg 56 6 [(.tmp 2)] c0f := a0v Go.Proofs.Tryz.f56 [(.tmp 2)] (by kernel_rfl)
@[go_sem] theorem c4i : fnB pg 56 = true := by kernel_rfl
@[go_sem] def c72 : List AO := [oo 1 (.box 48 6 (.t 0)),
 oo 2 (.asg (.c (.bool false)))]
@[go_sem] def c8e : List AO := [oo 3 (.load 48 (some 6) (.t 1)),
 oc 4 48 [(false, (.t 3))] [48],
 oo 5 (.un .not 4 (.t 4)),
 oo 2 (.asg (.t 5))]
def c0c : IC := (.seq (.reg c72) (.seq (.reg c8e) .ret))
theorem c3r : fnC pg 58 6 [(.tmp 2)] c0c := a0v Go.Proofs.Tryz.f58 [(.tmp 2)] (by kernel_rfl)
@[go_sem] theorem c5c : fnB pg 58 = true := by kernel_rfl
@[go_sem] def d4g : List AO := [oo 1 (.box 48 6 (.t 0)),
 oo 2 (.asg (.c (.bool false)))]
@[go_sem] def d5d : List AO := [oo 5 (.faddr 48 1 (.t 1) 1),
 oo 6 (.load 3 none (.t 5)),
 oo 7 (.faddr 48 4 (.t 1) 4),
 oo 8 (.load 3 none (.t 7)),
 oo 9 (.faddr 48 5 (.t 1) 5),
 oo 10 (.load 3 none (.t 9)),
 oo 11 (.bslice 46 3 1 3 [.lit (.int .i64 0)] [(0, (.t 6)), (1, (.t 8)), (2, (.t 10))]),
 oo 12 (.faddr 48 2 (.t 1) 2),
 oo 13 (.load 46 none (.t 12)),
 oo 14 (.faddr 48 3 (.t 1) 3),
 oo 15 (.load 46 none (.t 14)),
 oo 16 (.bslice 100 46 1 3 [.own 1 0 []] [(0, (.t 11)), (1, (.t 13)), (2, (.t 15))]),
 oc 17 71 [(false, (.t 16))] [100],
 oo 18 (.len 46 false (.t 17)),
 oo 19 (.mv (.n 0))]
@[go_sem] def d4t : List AO := [oo 20 (.bin .lss 3 0 (.t 19) (.t 18) 3)]
@[go_sem] def d7o : List AO := [oo 21 (.iaddr 46 1 (.t 17) (.t 19)),
 oo 22 (.load 3 none (.t 21)),
 oo 4 (.asg (.t 22))]
@[go_sem] def d5r : List AO := [om 23 4,
 oc 24 57 [(false, (.t 23))] [3],
 oo 25 (.un .not 4 (.t 24))]
@[go_sem] def d5s : List AO := [oo 2 (.asg (.c (.bool false)))]
@[go_sem] def d6j : List AO := [oo 26 (.bin .add 3 0 (.t 19) (.n 1) 3),
 om 19 26]
def a7u : IC := (.seq (.reg d4t) (.seq (.cond (.t 20) .skip (.exit 0)) (.seq (.block 1 (.seq (.reg d7o) (.seq (.reg d5r) (.cond (.t 25) (.seq (.reg d5s) .ret) .skip)))) (.reg d6j))))
@[go_sem] def d5p : List AO := [oo 27 (.faddr 48 0 (.t 1) 0),
 oo 28 (.load 3 none (.t 27)),
 oo 29 (.bin .geq 3 0 (.t 28) (.n 0) 3),
 om 30 29,
 og 31 (.faddr 48 0 (.t 1) 0) 3 30 true,
 og 32 (.load 3 none (.t 31)) 3 30 true,
 og 33 (.bin .leq 3 0 (.t 32) (.n 255) 3) 3 30 true,
 oo 34 (.pick (.t 30) (.t 33) (.c (.bool false))),
 oo 2 (.asg (.t 34))]
def c5h : IC := (.seq (.reg d4g) (.seq (.seq (.reg d5d) (.block 0 (.loop a7u))) (.seq (.reg d5p) .ret)))
abbrev d84 : Nat := 48
theorem c7y : fnC pg 48 35 [(.tmp 2)] c5h := a0v Go.Proofs.Tryz.f48 [(.tmp 2)] (by kernel_rfl)
@[go_sem] theorem e6x : fnB pg 48 = true := by kernel_rfl
@[go_sem] def a8e : List AO := [oo 4 (.asg (.n 0))]
@[go_sem] def a8a : List AO := [om 6 0,
 oo 7 (.len 25 false (.t 6)),
 oo 8 (.mv (.n 0))]
@[go_sem] def a8m : List AO := [oo 9 (.bin .lss 3 0 (.t 8) (.t 7) 3)]
@[go_sem] def a8k : List AO := [om 10 8,
 oo 5 (.asg (.t 10))]
@[go_sem] def a8u : List AO := [om 11 1,
 om 12 0,
 om 13 5,
 oo 14 (.iaddr 25 6 (.t 12) (.t 13)),
 oo 15 (.load 48 (some 6) (.t 14)),
 ⟨(some 16), .callx (.t 11) [(false, (.t 15))] [.p 0] [48], none⟩]
@[go_sem] def a75 : List AO := [om 17 5,
 oo 4 (.asg (.t 17))]
@[go_sem] def a8j : List AO := [oo 18 (.bin .add 3 0 (.t 8) (.n 1) 3),
 om 8 18]
def a19 : IC := (.seq (.reg a8m) (.seq (.cond (.t 9) .skip (.exit 0)) (.seq (.block 1 (.seq (.reg a8k) (.seq (.reg a8u) (.cond (.t 16) (.seq (.reg a75) .ret) .skip)))) (.reg a8j))))
@[go_sem] def a78 : List AO := [oo 4 (.asg (.n (-1)))]
def a4b : IC := (.seq (.reg a8e) (.seq (.seq (.reg a8a) (.block 0 (.loop a19))) (.seq (.reg a78) .ret)))
abbrev a8y : Nat := 70
@[go_sem] theorem c6j : fnB pg 70 = true := by kernel_rfl
theorem a55 : fnX pg 70 19 [(.tmp 4)] [(.tmp 4)] a4b := a2o Go.Proofs.Tryz.f70 (by kernel_rfl)
@[go_sem] def a9v : List AO := [oo 4 (.asg (.n 0))]
@[go_sem] def a84 : List AO := [om 6 0,
 oo 7 (.len 24 false (.t 6)),
 oo 8 (.mv (.n 0))]
@[go_sem] def a8x : List AO := [oo 9 (.bin .lss 3 0 (.t 8) (.t 7) 3)]
@[go_sem] def a86 : List AO := [om 10 8,
 oo 5 (.asg (.t 10))]
@[go_sem] def a88 : List AO := [om 11 1,
 om 12 0,
 om 13 5,
 oo 14 (.iaddr 24 2 (.t 12) (.t 13)),
 oo 15 (.load 56 (some 2) (.t 14)),
 ⟨(some 16), .callx (.t 11) [(false, (.t 15))] [.p 0] [56], none⟩]
@[go_sem] def a91 : List AO := [om 17 5,
 oo 4 (.asg (.t 17))]
@[go_sem] def a9l : List AO := [oo 18 (.bin .add 3 0 (.t 8) (.n 1) 3),
 om 8 18]
def a2e : IC := (.seq (.reg a8x) (.seq (.cond (.t 9) .skip (.exit 0)) (.seq (.block 1 (.seq (.reg a86) (.seq (.reg a88) (.cond (.t 16) (.seq (.reg a91) .ret) .skip)))) (.reg a9l))))
@[go_sem] def a99 : List AO := [oo 4 (.asg (.n (-1)))]
def a4g : IC := (.seq (.reg a9v) (.seq (.seq (.reg a84) (.block 0 (.loop a2e))) (.seq (.reg a99) .ret)))
abbrev b0e : Nat := 72
@[go_sem] theorem c7j : fnB pg 72 = true := by kernel_rfl
theorem a6c : fnX pg 72 19 [(.tmp 4)] [(.tmp 4)] a4g := a2o Go.Proofs.Tryz.f72 (by kernel_rfl)
@[go_sem] def b5l : List AO := [oo 2 (.asg (.nl 1))]
@[go_sem] def b6g : List AO := [oo 3 (.asg (.n 0))]
@[go_sem] def b5d : List AO := [om 9 0,
 oo 10 (.len 100 false (.t 9)),
 oo 11 (.mv (.n 0))]
@[go_sem] def b6i : List AO := [oo 12 (.bin .lss 3 0 (.t 11) (.t 10) 3)]
@[go_sem] def b5t : List AO := [oo 13 (.iaddr 100 1 (.t 9) (.t 11)),
 oo 14 (.load 46 none (.t 13)),
 oo 5 (.asg (.t 14))]
@[go_sem] def b5n : List AO := [om 15 3,
 om 16 5,
 oo 17 (.len 46 false (.t 16)),
 oo 18 (.bin .add 3 0 (.t 15) (.t 17) 3),
 oo 3 (.asg (.t 18))]
@[go_sem] def b5h : List AO := [om 19 3,
 oo 20 (.bin .lss 3 0 (.t 19) (.n 0) 3)]
@[go_sem] def b5g : List AO := [oo 21 (.mki 9 (.c (.string ⟨#[108,101,110,32,111,117,116,32,111,102,32,114,97,110,103,101]⟩))),
 ⟨none, .bad (.panic (.tmp 21)), none⟩]
@[go_sem] def b5v : List AO := [oo 22 (.bin .add 3 0 (.t 11) (.n 1) 3),
 om 11 22]
def a2c : IC := (.seq (.reg b6i) (.seq (.cond (.t 12) .skip (.exit 0)) (.seq (.block 1 (.seq (.reg b5t) (.seq (.reg b5n) (.seq (.reg b5h) (.cond (.t 20) (.reg b5g) .skip))))) (.reg b5v))))
@[go_sem] def b6d : List AO := [om 23 3,
 oc 24 84 [(false, (.c (.slice none 0 0))), (false, (.t 23))] [46, 3],
 oo 6 (.asg (.t 24))]
@[go_sem] def b21 : List AO := [om 25 0,
 oo 26 (.len 100 false (.t 25)),
 oo 27 (.mv (.n 0))]
@[go_sem] def b4a : List AO := [oo 28 (.bin .lss 3 0 (.t 27) (.t 26) 3)]
@[go_sem] def b27 : List AO := [oo 29 (.iaddr 100 1 (.t 25) (.t 27)),
 oo 30 (.load 46 none (.t 29)),
 oo 8 (.asg (.t 30))]
@[go_sem] def b3k : List AO := [om 31 6,
 om 32 8,
 oo 33 (.app 46 3 1 8 (.t 31) (.t 32)),
 oo 6 (.asg (.t 33))]
@[go_sem] def b3n : List AO := [oo 34 (.bin .add 3 0 (.t 27) (.n 1) 3),
 om 27 34]
def a2b : IC := (.seq (.reg b4a) (.seq (.cond (.t 28) .skip (.exit 2)) (.seq (.block 3 (.seq (.reg b27) (.reg b3k))) (.reg b3n))))
@[go_sem] def b3y : List AO := [om 35 6,
 oo 2 (.asg (.t 35))]
def a6n : IC := (.seq (.reg b5l) (.seq (.reg b6g) (.seq (.seq (.reg b5d) (.block 0 (.loop a2c))) (.seq (.reg b6d) (.seq (.seq (.reg b21) (.block 2 (.loop a2b))) (.seq (.reg b3y) .ret))))))
abbrev b7a : Nat := 71
theorem b13 : fnC pg 71 36 [(.tmp 2)] a6n := a0v Go.Proofs.Tryz.f71 [(.tmp 2)] (by kernel_rfl)
@[go_sem] theorem d5n : fnB pg 71 = true := by kernel_rfl
end Go.Ideal.Tryz
end
