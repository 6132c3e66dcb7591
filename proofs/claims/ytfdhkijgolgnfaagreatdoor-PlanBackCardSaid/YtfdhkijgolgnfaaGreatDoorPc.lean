/- Part Pc of the proof: a machine with trees for values, its soundness, and walks on it. -/
import Derived.Test.YtfdhkijgolgnfaaGreatDoorNx
import Derived.Test.YtfdhkijgolgnfaaGreatDoorPa
section
set_option linter.unusedVariables false
set_option maxRecDepth 10000
namespace Go.Ideal.Tryz
@[go_sem] def b5j : List AO := [om 4 0,
 om 5 0,
 oo 6 (.nilck (.t 5)),
 oo 7 (.faddr 62 0 (.t 6) 0),
 oo 8 (.load 30 none (.t 7)),
 om 9 1,
 oo 10 (.conv 3 5 (.int .u8) (.t 9)),
 om 11 1,
 oo 12 (.bin .shr 3 0 (.t 11) (.c (.int .u64 (8))) 99),
 oo 13 (.conv 3 5 (.int .u8) (.t 12)),
 oo 14 (.bslice 30 5 1 2 [.lit (.int .u8 0)] [(0, (.t 10)), (1, (.t 13))]),
 oo 15 (.app 30 5 1 1 (.t 8) (.t 14)),
 oo 16 (.nilck (.t 4)),
 oo 17 (.faddr 62 0 (.t 16) 0),
 ov (.store 30 1 (.t 17) (.t 15))]
def a6g : IC := (.reg b5j)
abbrev b7t : Nat := 21
@[go_sem] theorem d6w : fnB pg 21 = true := by kernel_rfl
theorem b0p : fnX pg 21 18 [] [] a6g := a2o Go.Proofs.Tryz.f21 (by kernel_rfl)
@[go_sem] def b6u : List AO := [om 4 0,
 om 5 0,
 oo 6 (.nilck (.t 5)),
 oo 7 (.faddr 62 0 (.t 6) 0),
 oo 8 (.load 30 none (.t 7)),
 om 9 1,
 oo 10 (.conv 3 5 (.int .u8) (.t 9)),
 oo 11 (.bslice 30 5 1 1 [.lit (.int .u8 0)] [(0, (.t 10))]),
 oo 12 (.app 30 5 1 1 (.t 8) (.t 11)),
 oo 13 (.nilck (.t 4)),
 oo 14 (.faddr 62 0 (.t 13) 0),
 ov (.store 30 1 (.t 14) (.t 12))]
def a70 : IC := (.reg b6u)
abbrev b86 : Nat := 60
@[go_sem] theorem d78 : fnB pg 60 = true := by kernel_rfl
theorem b14 : fnX pg 60 15 [] [] a70 := a2o Go.Proofs.Tryz.f60 (by kernel_rfl)
@[go_sem] def b3f : List AO := [om 4 0,
 om 5 0,
 oo 6 (.nilck (.t 5)),
 oo 7 (.faddr 62 0 (.t 6) 0),
 oo 8 (.load 30 none (.t 7)),
 om 9 1,
 oo 10 (.conv 3 5 (.int .u8) (.t 9)),
 om 11 1,
 oo 12 (.bin .shr 3 0 (.t 11) (.c (.int .u64 (8))) 99),
 oo 13 (.conv 3 5 (.int .u8) (.t 12)),
 om 14 1,
 oo 15 (.bin .shr 3 0 (.t 14) (.c (.int .u64 (16))) 99),
 oo 16 (.conv 3 5 (.int .u8) (.t 15)),
 om 17 1,
 oo 18 (.bin .shr 3 0 (.t 17) (.c (.int .u64 (24))) 99),
 oo 19 (.conv 3 5 (.int .u8) (.t 18)),
 oo 20 (.bslice 30 5 1 4 [.lit (.int .u8 0)] [(0, (.t 10)), (1, (.t 13)), (2, (.t 16)), (3, (.t 19))]),
 oo 21 (.app 30 5 1 1 (.t 8) (.t 20)),
 oo 22 (.nilck (.t 4)),
 oo 23 (.faddr 62 0 (.t 22) 0),
 ov (.store 30 1 (.t 23) (.t 21))]
def a5q : IC := (.reg b3f)
abbrev b5c : Nat := 20
@[go_sem] theorem d3y : fnB pg 20 = true := by kernel_rfl
theorem a9b : fnX pg 20 24 [] [] a5q := a2o Go.Proofs.Tryz.f20 (by kernel_rfl)
@[go_sem] def d3p : List AO := [oo 1 (.box 66 3 (.t 0)),
 oo 2 (.asg (.nl 1))]
@[go_sem] def d0d : List AO := [oo 7 (.load 66 (some 3) (.t 1)),
 oc 8 59 [(false, (.t 7))] [66],
 oo 9 (.bin .neq 32 2 (.t 8) (.c .nilIface) 32)]
@[go_sem] def d0o : List AO := [oo 2 (.asg (.nl 1))]
@[go_sem] def d1e : List AO := [oo 10 (.faddr 66 0 (.t 1) 0),
 oo 11 (.faddr 56 0 (.t 10) 0),
 oo 12 (.load 46 none (.t 11)),
 oo 13 (.len 46 false (.t 12)),
 oo 14 (.conv 3 5 (.int .u8) (.t 13)),
 oo 3 (.asg (.t 14))]
@[go_sem] def d1g : List AO := [oo 15 (.faddr 66 0 (.t 1) 0),
 oo 16 (.faddr 56 1 (.t 15) 1),
 oo 17 (.load 4 none (.t 16))]
@[go_sem] def d0u : List AO := [om 18 3,
 oo 19 (.bin .add 5 0 (.t 18) (.c (.int .u8 (8))) 5),
 oo 3 (.asg (.t 19))]
@[go_sem] def d3o : List AO := [om 20 3,
 oo 21 (.bslice 30 5 1 1 [.lit (.int .u8 0)] [(0, (.t 20))]),
 oo 4 (.asg (.t 21))]
@[go_sem] def d3l : List AO := [oo 22 (.faddr 66 0 (.t 1) 0),
 oo 23 (.faddr 56 0 (.t 22) 0),
 oo 24 (.load 46 none (.t 23)),
 oo 25 (.len 46 false (.t 24)),
 oo 26 (.mv (.n 0))]
@[go_sem] def d2t : List AO := [oo 27 (.bin .lss 3 0 (.t 26) (.t 25) 3)]
@[go_sem] def d2o : List AO := [oo 28 (.iaddr 46 1 (.t 24) (.t 26)),
 oo 29 (.load 3 none (.t 28)),
 oo 6 (.asg (.t 29))]
@[go_sem] def c8d : List AO := [om 30 4,
 om 31 6,
 oo 32 (.conv 3 5 (.int .u8) (.t 31)),
 om 33 6,
 oo 34 (.bin .shr 3 0 (.t 33) (.c (.int .u64 (8))) 99),
 oo 35 (.conv 3 5 (.int .u8) (.t 34)),
 oo 36 (.bslice 30 5 1 2 [.lit (.int .u8 0)] [(0, (.t 32)), (1, (.t 35))]),
 oo 37 (.app 30 5 1 1 (.t 30) (.t 36)),
 oo 4 (.asg (.t 37))]
@[go_sem] def c7i : List AO := [oo 38 (.bin .add 3 0 (.t 26) (.n 1) 3),
 om 26 38]
def a5y : IC := (.seq (.reg d2t) (.seq (.cond (.t 27) .skip (.exit 0)) (.seq (.block 1 (.seq (.reg d2o) (.reg c8d))) (.reg c7i))))
@[go_sem] def c8q : List AO := [om 39 4,
 oo 40 (.load 66 (some 3) (.t 1)),
 oc 41 61 [(false, (.t 40))] [66],
 oo 42 (.app 30 5 1 1 (.t 39) (.t 41)),
 oo 2 (.asg (.t 42))]
def c2t : IC := (.seq (.reg d3p) (.seq (.seq (.reg d0d) (.cond (.t 9) (.seq (.reg d0o) .ret) .skip)) (.seq (.reg d1e) (.seq (.seq (.reg d1g) (.cond (.t 17) (.reg d0u) .skip)) (.seq (.reg d3o) (.seq (.seq (.reg d3l) (.block 0 (.loop a5y))) (.seq (.reg c8q) .ret)))))))
abbrev d74 : Nat := 23
theorem c40 : fnC pg 23 43 [(.tmp 2)] c2t := a0v Go.Proofs.Tryz.f23 [(.tmp 2)] (by kernel_rfl)
@[go_sem] theorem e6c : fnB pg 23 = true := by kernel_rfl
@[go_sem] def a61 : List AO := [oo 4 (.asg (.c (.bool false)))]
@[go_sem] def a7i : List AO := [om 5 0,
 om 6 1,
 ⟨(some 7), .callx (.f 73) [(false, (.t 5))] [.p 0, .x (.t 6)] [46, 97], none⟩,
 oo 8 (.bin .geq 3 0 (.t 7) (.n 0) 3),
 oo 4 (.asg (.t 8))]
def a31 : IC := (.seq (.reg a61) (.seq (.reg a7i) .ret))
abbrev a8l : Nat := 54
@[go_sem] theorem c45 : fnB pg 54 = true := by kernel_rfl
theorem a5p : fnX pg 54 9 [(.tmp 4)] [(.tmp 4)] a31 := a2o Go.Proofs.Tryz.f54 (by kernel_rfl)
@[go_sem] def d43 : List AO := [oo 2 (.asg (.c (.bool false)))]
@[go_sem] def d5b : List AO := [om 3 0,
 oo 4 (.bin .geq 3 0 (.t 3) (.n (-2147483648)) 3),
 om 5 4,
 og 6 (.mv (.t 0)) 2 5 true,
 og 7 (.bin .leq 3 0 (.t 6) (.n 2147483647) 3) 2 5 true,
 oo 8 (.pick (.t 5) (.t 7) (.c (.bool false))),
 oo 2 (.asg (.t 8))]
def c39 : IC := (.seq (.reg d43) (.seq (.reg d5b) .ret))
abbrev d95 : Nat := 57
theorem c8w : fnC pg 57 9 [(.tmp 2)] c39 := a0v Go.Proofs.Tryz.f57 [(.tmp 2)] (by kernel_rfl)
@[go_sem] theorem e6i : fnB pg 57 = true := by kernel_rfl
@[go_sem] def d1k : List AO := [oo 1 (.box 66 3 (.t 0)),
 oo 2 (.asg (.c .nilIface))]
@[go_sem] def d1l : List AO := [oo 6 (.faddr 66 0 (.t 1) 0),
 oo 7 (.load 56 (some 2) (.t 6)),
 oc 8 74 [(false, (.t 7))] [56],
 oo 3 (.asg (.t 8))]
@[go_sem] def d0c : List AO := [om 9 3,
 oo 10 (.bin .neq 32 2 (.t 9) (.c .nilIface) 32)]
@[go_sem] def d0f : List AO := [om 11 3,
 oo 2 (.asg (.t 11))]
@[go_sem] def d0z : List AO := [oo 12 (.faddr 66 2 (.t 1) 1),
 oo 13 (.load 46 none (.t 12)),
 oo 14 (.len 46 false (.t 13)),
 oo 15 (.faddr 66 0 (.t 1) 0),
 oo 16 (.faddr 56 0 (.t 15) 0),
 oo 17 (.load 46 none (.t 16)),
 oc 18 75 [(false, (.t 17))] [46],
 oo 19 (.bin .neq 3 0 (.t 14) (.t 18) 3)]
@[go_sem] def d0y : List AO := [oo 20 (.load 32 none (.g 4)),
 oo 2 (.asg (.t 20))]
@[go_sem] def d10 : List AO := [oo 21 (.faddr 66 2 (.t 1) 1),
 oo 22 (.load 46 none (.t 21)),
 oo 23 (.len 46 false (.t 22)),
 oo 24 (.mv (.n 0))]
@[go_sem] def d1d : List AO := [oo 25 (.bin .lss 3 0 (.t 24) (.t 23) 3)]
@[go_sem] def c93 : List AO := [om 26 24,
 oo 27 (.iaddr 46 1 (.t 22) (.t 24)),
 oo 28 (.load 3 none (.t 27)),
 oo 4 (.asg (.t 26)),
 oo 5 (.asg (.t 28))]
@[go_sem] def d2j : List AO := [om 29 5,
 oo 30 (.faddr 66 0 (.t 1) 0),
 oo 31 (.faddr 56 1 (.t 30) 1),
 oo 32 (.load 4 none (.t 31)),
 oc 33 76 [(false, (.t 29)), (false, (.t 32))] [3, 4],
 oo 34 (.un .not 4 (.t 33))]
@[go_sem] def c8z : List AO := [om 35 4,
 oo 36 (.load 32 none (.g 1)),
 oo 37 (.build 111 [.lit (.int .i64 0), .lit .nilIface] [(0, 0, 1, (.t 35)), (1, 1, 1, (.t 36))]),
 oo 38 (.box 111 2 (.t 37)),
 oo 39 (.mki 107 (.t 38)),
 oo 2 (.asg (.t 39))]
@[go_sem] def c7b : List AO := [oo 40 (.bin .add 3 0 (.t 24) (.n 1) 3),
 om 24 40]
def a51 : IC := (.seq (.reg d1d) (.seq (.cond (.t 25) .skip (.exit 0)) (.seq (.block 1 (.seq (.reg c93) (.seq (.reg d2j) (.cond (.t 34) (.seq (.reg c8z) .ret) .skip)))) (.reg c7b))))
@[go_sem] def c7r : List AO := [oo 2 (.asg (.c .nilIface))]
def c23 : IC := (.seq (.reg d1k) (.seq (.seq (.reg d1l) (.seq (.reg d0c) (.cond (.t 10) (.seq (.reg d0f) .ret) .skip))) (.seq (.seq (.draw d0z [[], [0], [1], [], [3], [4], [5], [2, 6]]) (.cond (.t 19) (.seq (.reg d0y) .ret) .skip)) (.seq (.seq (.reg d10) (.block 0 (.loop a51))) (.seq (.reg c7r) .ret)))))
abbrev d7j : Nat := 59
theorem c5p : fnC pg 59 41 [(.tmp 2)] c23 := a0v Go.Proofs.Tryz.f59 [(.tmp 2)] (by kernel_rfl)
@[go_sem] theorem e6b : fnB pg 59 = true := by kernel_rfl
@[go_sem] def d9x : List AO := [oo 1 (.box 66 3 (.t 0)),
 oo 2 (.asg (.nl 1))]
@[go_sem] def d8z : List AO := [oo 6 (.load 66 (some 3) (.t 1)),
 oc 7 59 [(false, (.t 6))] [66],
 oo 8 (.bin .neq 32 2 (.t 7) (.c .nilIface) 32)]
@[go_sem] def d8k : List AO := [oo 2 (.asg (.nl 1))]
@[go_sem] def e0j : List AO := [oo 9 (.faddr 66 0 (.t 1) 0),
 oo 10 (.load 56 (some 2) (.t 9)),
 oc 11 77 [(false, (.t 10))] [56],
 oo 12 (.mks 30 5 1 1 [.lit (.int .u8 0)] (.n 0) (.t 11)),
 oo 3 (.asg (.t 12))]
@[go_sem] def d8n : List AO := [oo 13 (.faddr 66 2 (.t 1) 1),
 oo 14 (.load 46 none (.t 13)),
 oo 15 (.len 46 false (.t 14)),
 oo 16 (.mv (.n 0))]
@[go_sem] def d8j : List AO := [oo 17 (.bin .lss 3 0 (.t 16) (.t 15) 3)]
@[go_sem] def d9b : List AO := [oo 18 (.iaddr 46 1 (.t 14) (.t 16)),
 oo 19 (.load 3 none (.t 18)),
 oo 5 (.asg (.t 19))]
@[go_sem] def d8v : List AO := [om 20 3,
 om 21 5,
 oo 22 (.faddr 66 0 (.t 1) 0),
 oo 23 (.faddr 56 1 (.t 22) 1),
 oo 24 (.load 4 none (.t 23)),
 oc 25 78 [(true, (.t 20)), (false, (.t 21)), (false, (.t 24))] [30, 3, 4],
 oo 3 (.asg (.t 25))]
@[go_sem] def d8t : List AO := [oo 26 (.bin .add 3 0 (.t 16) (.n 1) 3),
 om 16 26]
def b7w : IC := (.seq (.reg d8j) (.seq (.cond (.t 17) .skip (.exit 0)) (.seq (.block 1 (.seq (.reg d9b) (.reg d8v))) (.reg d8t))))
@[go_sem] def e0o : List AO := [om 27 3,
 oo 2 (.asg (.t 27))]
def c9g : IC := (.seq (.reg d9x) (.seq (.seq (.reg d8z) (.cond (.t 8) (.seq (.reg d8k) .ret) .skip)) (.seq (.reg e0j) (.seq (.seq (.reg d8n) (.block 0 (.loop b7w))) (.seq (.reg e0o) .ret)))))
abbrev e11 : Nat := 61
theorem d2m : fnC pg 61 28 [(.tmp 2)] c9g := a0v Go.Proofs.Tryz.f61 [(.tmp 2)] (by kernel_rfl)
@[go_sem] theorem e87 : fnB pg 61 = true := by kernel_rfl
@[go_sem] def b00 : List AO := [oo 4 (.asg (.n 0))]
@[go_sem] def b04 : List AO := [om 6 0,
 oo 7 (.len 46 false (.t 6)),
 oo 8 (.mv (.n 0))]
@[go_sem] def b1b : List AO := [oo 9 (.bin .lss 3 0 (.t 8) (.t 7) 3)]
@[go_sem] def b0k : List AO := [om 10 8,
 oo 5 (.asg (.t 10))]
@[go_sem] def b07 : List AO := [om 11 1,
 om 12 0,
 om 13 5,
 oo 14 (.iaddr 46 1 (.t 12) (.t 13)),
 oo 15 (.load 3 none (.t 14)),
 ⟨(some 16), .callx (.t 11) [(false, (.t 15))] [.p 0] [3], none⟩]
@[go_sem] def b1f : List AO := [om 17 5,
 oo 4 (.asg (.t 17))]
@[go_sem] def b0o : List AO := [oo 18 (.bin .add 3 0 (.t 8) (.n 1) 3),
 om 8 18]
def a2t : IC := (.seq (.reg b1b) (.seq (.cond (.t 9) .skip (.exit 0)) (.seq (.block 1 (.seq (.reg b0k) (.seq (.reg b07) (.cond (.t 16) (.seq (.reg b1f) .ret) .skip)))) (.reg b0o))))
@[go_sem] def b05 : List AO := [oo 4 (.asg (.n (-1)))]
def a4p : IC := (.seq (.reg b00) (.seq (.seq (.reg b04) (.block 0 (.loop a2t))) (.seq (.reg b05) .ret)))
abbrev b1w : Nat := 73
@[go_sem] theorem c9o : fnB pg 73 = true := by kernel_rfl
theorem a7g : fnX pg 73 19 [(.tmp 4)] [(.tmp 4)] a4p := a2o Go.Proofs.Tryz.f73 (by kernel_rfl)
@[go_sem] def c7l : List AO := [oo 1 (.box 56 2 (.t 0)),
 oo 2 (.asg (.c .nilIface))]
@[go_sem] def c67 : List AO := [oo 8 (.faddr 56 0 (.t 1) 0),
 oo 9 (.load 46 none (.t 8)),
 oo 10 (.len 46 false (.t 9)),
 oo 11 (.bin .gtr 3 0 (.t 10) (.n 4) 3)]
@[go_sem] def c65 : List AO := [oo 12 (.load 32 none (.g 0)),
 oo 2 (.asg (.t 12))]
@[go_sem] def c7c : List AO := [oo 3 (.asg (.n 1))]
@[go_sem] def c78 : List AO := [oo 13 (.faddr 56 0 (.t 1) 0),
 oo 14 (.load 46 none (.t 13)),
 oo 15 (.len 46 false (.t 14)),
 oo 16 (.mv (.n 0))]
@[go_sem] def c76 : List AO := [oo 17 (.bin .lss 3 0 (.t 16) (.t 15) 3)]
@[go_sem] def c6z : List AO := [oo 18 (.iaddr 46 1 (.t 14) (.t 16)),
 oo 19 (.load 3 none (.t 18)),
 oo 5 (.asg (.t 19))]
@[go_sem] def c8g : List AO := [om 20 5,
 oo 21 (.bin .lss 3 0 (.t 20) (.n 1) 3),
 om 22 21,
 og 23 (.mv (.t 5)) 2 22 false,
 og 24 (.bin .gtr 3 0 (.t 23) (.n 256) 3) 2 22 false,
 oo 25 (.pick (.t 22) (.c (.bool true)) (.t 24))]
@[go_sem] def c6v : List AO := [oo 26 (.load 32 none (.g 1)),
 oo 2 (.asg (.t 26))]
@[go_sem] def c8y : List AO := [oo 27 (.bin .add 3 0 (.t 16) (.n 1) 3),
 om 16 27]
def a25 : IC := (.seq (.reg c76) (.seq (.cond (.t 17) .skip (.exit 0)) (.seq (.block 1 (.seq (.reg c6z) (.seq (.reg c8g) (.cond (.t 25) (.seq (.reg c6v) .ret) .skip)))) (.reg c8y))))
@[go_sem] def c44 : List AO := [oo 28 (.faddr 56 0 (.t 1) 0),
 oo 29 (.load 46 none (.t 28)),
 oo 30 (.len 46 false (.t 29)),
 oo 31 (.mv (.n 0))]
@[go_sem] def c4v : List AO := [oo 32 (.bin .lss 3 0 (.t 31) (.t 30) 3)]
@[go_sem] def c4r : List AO := [oo 33 (.iaddr 46 1 (.t 29) (.t 31)),
 oo 34 (.load 3 none (.t 33)),
 oo 7 (.asg (.t 34))]
@[go_sem] def c4o : List AO := [om 35 3,
 om 36 7,
 oo 37 (.bin .mul 3 0 (.t 35) (.t 36) 3),
 oo 3 (.asg (.t 37))]
@[go_sem] def c4a : List AO := [om 38 3,
 oo 39 (.bin .gtr 3 0 (.t 38) (.n 16384) 3)]
@[go_sem] def c48 : List AO := [oo 40 (.load 32 none (.g 0)),
 oo 2 (.asg (.t 40))]
@[go_sem] def c5w : List AO := [oo 41 (.bin .add 3 0 (.t 31) (.n 1) 3),
 om 31 41]
def a3y : IC := (.seq (.reg c4v) (.seq (.cond (.t 32) .skip (.exit 2)) (.seq (.block 3 (.seq (.reg c4r) (.seq (.reg c4o) (.seq (.reg c4a) (.cond (.t 39) (.seq (.reg c48) .ret) .skip))))) (.reg c5w))))
@[go_sem] def c5y : List AO := [oo 2 (.asg (.c .nilIface))]
def b06 : IC := (.seq (.reg c7l) (.seq (.seq (.reg c67) (.cond (.t 11) (.seq (.reg c65) .ret) .skip)) (.seq (.reg c7c) (.seq (.seq (.reg c78) (.block 0 (.loop a25))) (.seq (.seq (.reg c44) (.block 2 (.loop a3y))) (.seq (.reg c5y) .ret))))))
abbrev d09 : Nat := 74
theorem c3o : fnC pg 74 42 [(.tmp 2)] b06 := a0v Go.Proofs.Tryz.f74 [(.tmp 2)] (by kernel_rfl)
@[go_sem] theorem e5p : fnB pg 74 = true := by kernel_rfl
@[go_sem] def c6r : List AO := [oo 2 (.asg (.n 0))]
@[go_sem] def c8n : List AO := [om 6 0,
 oc 7 85 [(false, (.t 6))] [46],
 oo 8 (.un .not 4 (.t 7))]
@[go_sem] def c6q : List AO := [oo 2 (.asg (.n 0))]
@[go_sem] def c82 : List AO := [oo 3 (.asg (.n 1))]
@[go_sem] def c71 : List AO := [om 9 0,
 oo 10 (.len 46 false (.t 9)),
 oo 11 (.mv (.n 0))]
@[go_sem] def c6t : List AO := [oo 12 (.bin .lss 3 0 (.t 11) (.t 10) 3)]
@[go_sem] def c8k : List AO := [oo 13 (.iaddr 46 1 (.t 9) (.t 11)),
 oo 14 (.load 3 none (.t 13)),
 oo 5 (.asg (.t 14))]
@[go_sem] def c77 : List AO := [om 15 3,
 om 16 5,
 oo 17 (.bin .mul 3 0 (.t 15) (.t 16) 3),
 oo 3 (.asg (.t 17))]
@[go_sem] def c6o : List AO := [oo 18 (.bin .add 3 0 (.t 11) (.n 1) 3),
 om 11 18]
def a8n : IC := (.seq (.reg c6t) (.seq (.cond (.t 12) .skip (.exit 0)) (.seq (.block 1 (.seq (.reg c8k) (.reg c77))) (.reg c6o))))
@[go_sem] def c8s : List AO := [om 19 3,
 oo 2 (.asg (.t 19))]
def b9a : IC := (.seq (.reg c6r) (.seq (.seq (.reg c8n) (.cond (.t 8) (.seq (.reg c6q) .ret) .skip)) (.seq (.reg c82) (.seq (.seq (.reg c71) (.block 0 (.loop a8n))) (.seq (.reg c8s) .ret)))))
abbrev d2b : Nat := 75
theorem c27 : fnC pg 75 20 [(.tmp 2)] b9a := a0v Go.Proofs.Tryz.f75 [(.tmp 2)] (by kernel_rfl)
@[go_sem] theorem e33 : fnB pg 75 = true := by kernel_rfl
@[go_sem] def d5t : List AO := [oo 4 (.asg (.c (.bool false)))]
@[go_sem] def d5v : List AO := [om 5 1]
@[go_sem] def d5g : List AO := [om 6 0,
 oo 7 (.bin .geq 3 0 (.t 6) (.n (-2147483648)) 3),
 om 8 7,
 og 9 (.mv (.t 0)) 2 8 true,
 og 10 (.bin .leq 3 0 (.t 9) (.n 2147483647) 3) 2 8 true,
 oo 11 (.pick (.t 8) (.t 10) (.c (.bool false))),
 oo 4 (.asg (.t 11))]
@[go_sem] def d4m : List AO := [om 12 0,
 oo 13 (.bin .geq 3 0 (.t 12) (.n (-128)) 3),
 om 14 13,
 og 15 (.mv (.t 0)) 2 14 true,
 og 16 (.bin .leq 3 0 (.t 15) (.n 127) 3) 2 14 true,
 oo 17 (.pick (.t 14) (.t 16) (.c (.bool false))),
 oo 4 (.asg (.t 17))]
def b69 : IC := (.seq (.reg d5t) (.seq (.seq (.reg d5v) (.cond (.t 5) (.seq (.reg d5g) .ret) .skip)) (.seq (.reg d4m) .ret)))
abbrev d90 : Nat := 76
theorem c7q : fnC pg 76 18 [(.tmp 4)] b69 := a0v Go.Proofs.Tryz.f76 [(.tmp 4)] (by kernel_rfl)
@[go_sem] theorem e7c : fnB pg 76 = true := by kernel_rfl
@[go_sem] def c7u : List AO := [oo 1 (.box 56 2 (.t 0)),
 oo 2 (.asg (.n 0))]
@[go_sem] def c6n : List AO := [oo 3 (.faddr 56 1 (.t 1) 1),
 oo 4 (.load 4 none (.t 3))]
@[go_sem] def c8u : List AO := [oo 5 (.faddr 56 0 (.t 1) 0),
 oo 6 (.load 46 none (.t 5)),
 oc 7 75 [(false, (.t 6))] [46],
 oo 8 (.bin .mul 3 0 (.n 4) (.t 7) 3),
 oo 2 (.asg (.t 8))]
@[go_sem] def c70 : List AO := [oo 9 (.faddr 56 0 (.t 1) 0),
 oo 10 (.load 46 none (.t 9)),
 oc 11 75 [(false, (.t 10))] [46],
 oo 2 (.asg (.t 11))]
def b85 : IC := (.seq (.reg c7u) (.seq (.seq (.reg c6n) (.cond (.t 4) (.seq (.reg c8u) .ret) .skip)) (.seq (.reg c70) .ret)))
abbrev d1j : Nat := 77
theorem c29 : fnC pg 77 12 [(.tmp 2)] b85 := a0v Go.Proofs.Tryz.f77 [(.tmp 2)] (by kernel_rfl)
@[go_sem] theorem e3m : fnB pg 77 = true := by kernel_rfl
@[go_sem] def d9i : List AO := [oo 6 (.asg (.nl 1))]
@[go_sem] def d97 : List AO := [om 7 2]
@[go_sem] def d87 : List AO := [om 8 0,
 om 9 1,
 oo 10 (.conv 3 5 (.int .u8) (.t 9)),
 om 11 1,
 oo 12 (.bin .shr 3 0 (.t 11) (.c (.int .u64 (8))) 99),
 oo 13 (.conv 3 5 (.int .u8) (.t 12)),
 om 14 1,
 oo 15 (.bin .shr 3 0 (.t 14) (.c (.int .u64 (16))) 99),
 oo 16 (.conv 3 5 (.int .u8) (.t 15)),
 om 17 1,
 oo 18 (.bin .shr 3 0 (.t 17) (.c (.int .u64 (24))) 99),
 oo 19 (.conv 3 5 (.int .u8) (.t 18)),
 oo 20 (.bslice 30 5 1 4 [.lit (.int .u8 0)] [(0, (.t 10)), (1, (.t 13)), (2, (.t 16)), (3, (.t 19))]),
 oo 21 (.app 30 5 1 1 (.t 8) (.t 20)),
 oo 6 (.asg (.t 21))]
@[go_sem] def d8w : List AO := [om 22 0,
 om 23 1,
 oo 24 (.conv 3 5 (.int .u8) (.t 23)),
 oo 25 (.bslice 30 5 1 1 [.lit (.int .u8 0)] [(0, (.t 24))]),
 oo 26 (.app 30 5 1 1 (.t 22) (.t 25)),
 oo 6 (.asg (.t 26))]
def c9t : IC := (.seq (.reg d9i) (.seq (.seq (.reg d97) (.cond (.t 7) (.seq (.reg d87) .ret) .skip)) (.seq (.reg d8w) .ret)))
abbrev e2d : Nat := 78
theorem d0a : fnC pg 78 27 [(.tmp 6)] c9t := a0v Go.Proofs.Tryz.f78 [(.tmp 6)] (by kernel_rfl)
@[go_sem] theorem e88 : fnB pg 78 = true := by kernel_rfl
@[go_sem] def d1v : List AO := [oo 2 (.asg (.c (.bool false)))]
@[go_sem] def d1y : List AO := [om 3 0,
 oo 4 (.build 56 [.own 1 0 [], .lit (.bool false)] [(0, 0, 1, (.t 3))]),
 oc 5 74 [(false, (.t 4))] [56],
 oo 6 (.bin .eql 32 2 (.t 5) (.c .nilIface) 32),
 oo 2 (.asg (.t 6))]
def c2o : IC := (.seq (.reg d1v) (.seq (.reg d1y) .ret))
abbrev d6m : Nat := 85
theorem c53 : fnC pg 85 7 [(.tmp 2)] c2o := a0v Go.Proofs.Tryz.f85 [(.tmp 2)] (by kernel_rfl)
@[go_sem] theorem e6d : fnB pg 85 = true := by kernel_rfl
end Go.Ideal.Tryz
end
