/- Part Pc of the proof: a machine with trees for values, its soundness, and walks on it. -/
import Derived.Test.YtfdhkijgolgnfaaDoorNx
import Derived.Test.YtfdhkijgolgnfaaDoorPa
section
set_option linter.unusedVariables false
set_option maxRecDepth 10000
namespace Go.Ideal.Tryd
@[go_sem] def b06 : List AO := [om 4 0,
 om 5 0,
 oo 6 (.nilck (.t 5)),
 oo 7 (.faddr 105 0 (.t 6) 0),
 oo 8 (.load 44 none (.t 7)),
 om 9 1,
 oo 10 (.conv 3 5 (.int .u8) (.t 9)),
 om 11 1,
 oo 12 (.bin .shr 3 0 (.t 11) (.c (.int .u64 (8))) 111),
 oo 13 (.conv 3 5 (.int .u8) (.t 12)),
 oo 14 (.bslice 44 5 1 2 [.lit (.int .u8 0)] [(0, (.t 10)), (1, (.t 13))]),
 oo 15 (.app 44 5 1 1 (.t 8) (.t 14)),
 oo 16 (.nilck (.t 4)),
 oo 17 (.faddr 105 0 (.t 16) 0),
 ov (.store 44 1 (.t 17) (.t 15))]
def a5n : IC := (.reg b06)
abbrev b3d : Nat := 53
@[go_sem] theorem c7m : fnB pg 53 = true := by kernel_rfl
theorem a77 : fnX pg 53 18 [] [] a5n := a23 Go.Proofs.Tryd.f53 (by kernel_rfl)
@[go_sem] def b25 : List AO := [om 4 0,
 om 5 0,
 oo 6 (.nilck (.t 5)),
 oo 7 (.faddr 105 0 (.t 6) 0),
 oo 8 (.load 44 none (.t 7)),
 om 9 1,
 oo 10 (.conv 3 5 (.int .u8) (.t 9)),
 oo 11 (.bslice 44 5 1 1 [.lit (.int .u8 0)] [(0, (.t 10))]),
 oo 12 (.app 44 5 1 1 (.t 8) (.t 11)),
 oo 13 (.nilck (.t 4)),
 oo 14 (.faddr 105 0 (.t 13) 0),
 ov (.store 44 1 (.t 14) (.t 12))]
def a50 : IC := (.reg b25)
abbrev b4w : Nat := 54
@[go_sem] theorem c84 : fnB pg 54 = true := by kernel_rfl
theorem a8z : fnX pg 54 15 [] [] a50 := a23 Go.Proofs.Tryd.f54 (by kernel_rfl)
@[go_sem] def a9h : List AO := [om 4 0,
 om 5 0,
 oo 6 (.nilck (.t 5)),
 oo 7 (.faddr 105 0 (.t 6) 0),
 oo 8 (.load 44 none (.t 7)),
 om 9 1,
 oo 10 (.conv 3 5 (.int .u8) (.t 9)),
 om 11 1,
 oo 12 (.bin .shr 3 0 (.t 11) (.c (.int .u64 (8))) 111),
 oo 13 (.conv 3 5 (.int .u8) (.t 12)),
 om 14 1,
 oo 15 (.bin .shr 3 0 (.t 14) (.c (.int .u64 (16))) 111),
 oo 16 (.conv 3 5 (.int .u8) (.t 15)),
 om 17 1,
 oo 18 (.bin .shr 3 0 (.t 17) (.c (.int .u64 (24))) 111),
 oo 19 (.conv 3 5 (.int .u8) (.t 18)),
 oo 20 (.bslice 44 5 1 4 [.lit (.int .u8 0)] [(0, (.t 10)), (1, (.t 13)), (2, (.t 16)), (3, (.t 19))]),
 oo 21 (.app 44 5 1 1 (.t 8) (.t 20)),
 oo 22 (.nilck (.t 4)),
 oo 23 (.faddr 105 0 (.t 22) 0),
 ov (.store 44 1 (.t 23) (.t 21))]
def a4u : IC := (.reg a9h)
abbrev b08 : Nat := 55
@[go_sem] theorem c5m : fnB pg 55 = true := by kernel_rfl
theorem a7k : fnX pg 55 24 [] [] a4u := a23 Go.Proofs.Tryd.f55 (by kernel_rfl)
@[go_sem] def c4s : List AO := [oo 1 (.box 56 3 (.t 0)),
 oo 2 (.asg (.nl 1))]
@[go_sem] def c5a : List AO := [oo 7 (.load 56 (some 3) (.t 1)),
 oc 8 108 [(false, (.t 7))] [56],
 oo 9 (.bin .neq 26 2 (.t 8) (.c .nilIface) 26)]
@[go_sem] def c4y : List AO := [oo 2 (.asg (.nl 1))]
@[go_sem] def c2w : List AO := [oo 10 (.faddr 56 0 (.t 1) 0),
 oo 11 (.faddr 54 0 (.t 10) 0),
 oo 12 (.load 24 none (.t 11)),
 oo 13 (.len 24 false (.t 12)),
 oo 14 (.conv 3 5 (.int .u8) (.t 13)),
 oo 3 (.asg (.t 14))]
@[go_sem] def c3n : List AO := [oo 15 (.faddr 56 0 (.t 1) 0),
 oo 16 (.faddr 54 1 (.t 15) 1),
 oo 17 (.load 4 none (.t 16))]
@[go_sem] def c14 : List AO := [om 18 3,
 oo 19 (.bin .add 5 0 (.t 18) (.c (.int .u8 (8))) 5),
 oo 3 (.asg (.t 19))]
@[go_sem] def c3f : List AO := [om 20 3,
 oo 21 (.bslice 44 5 1 1 [.lit (.int .u8 0)] [(0, (.t 20))]),
 oo 4 (.asg (.t 21))]
@[go_sem] def c4b : List AO := [oo 22 (.faddr 56 0 (.t 1) 0),
 oo 23 (.faddr 54 0 (.t 22) 0),
 oo 24 (.load 24 none (.t 23)),
 oo 25 (.len 24 false (.t 24)),
 oo 26 (.mv (.n 0))]
@[go_sem] def c16 : List AO := [oo 27 (.bin .lss 3 0 (.t 26) (.t 25) 3)]
@[go_sem] def c4c : List AO := [oo 28 (.iaddr 24 1 (.t 24) (.t 26)),
 oo 29 (.load 3 none (.t 28)),
 oo 6 (.asg (.t 29))]
@[go_sem] def b9f : List AO := [om 30 4,
 om 31 6,
 oo 32 (.conv 3 5 (.int .u8) (.t 31)),
 om 33 6,
 oo 34 (.bin .shr 3 0 (.t 33) (.c (.int .u64 (8))) 111),
 oo 35 (.conv 3 5 (.int .u8) (.t 34)),
 oo 36 (.bslice 44 5 1 2 [.lit (.int .u8 0)] [(0, (.t 32)), (1, (.t 35))]),
 oo 37 (.app 44 5 1 1 (.t 30) (.t 36)),
 oo 4 (.asg (.t 37))]
@[go_sem] def b9l : List AO := [oo 38 (.bin .add 3 0 (.t 26) (.n 1) 3),
 om 26 38]
def a47 : IC := (.seq (.reg c16) (.seq (.cond (.t 27) .skip (.exit 0)) (.seq (.block 1 (.seq (.reg c4c) (.reg b9f))) (.reg b9l))))
@[go_sem] def c0f : List AO := [om 39 4,
 oo 40 (.load 56 (some 3) (.t 1)),
 oc 41 109 [(false, (.t 40))] [56],
 oo 42 (.app 44 5 1 1 (.t 39) (.t 41)),
 oo 2 (.asg (.t 42))]
def b5v : IC := (.seq (.reg c4s) (.seq (.seq (.reg c5a) (.cond (.t 9) (.seq (.reg c4y) .ret) .skip)) (.seq (.reg c2w) (.seq (.seq (.reg c3n) (.cond (.t 17) (.reg c14) .skip)) (.seq (.reg c3f) (.seq (.seq (.reg c4b) (.block 0 (.loop a47))) (.seq (.reg c0f) .ret)))))))
abbrev c8f : Nat := 56
theorem b8e : fnC pg 56 43 [(.tmp 2)] b5v := a1k Go.Proofs.Tryd.f56 [(.tmp 2)] (by kernel_rfl)
@[go_sem] theorem d5y : fnB pg 56 = true := by kernel_rfl
@[go_sem] def a5r : List AO := [oo 4 (.asg (.c (.bool false)))]
@[go_sem] def a5x : List AO := [om 5 0,
 om 6 1,
 ⟨(some 7), .callx (.f 143) [(false, (.t 5))] [.p 0, .x (.t 6)] [24, 109], none⟩,
 oo 8 (.bin .geq 3 0 (.t 7) (.n 0) 3),
 oo 4 (.asg (.t 8))]
def a3a : IC := (.seq (.reg a5r) (.seq (.reg a5x) .ret))
abbrev a6k : Nat := 105
@[go_sem] theorem b8p : fnB pg 105 = true := by kernel_rfl
theorem a4t : fnX pg 105 9 [(.tmp 4)] [(.tmp 4)] a3a := a23 Go.Proofs.Tryd.f105 (by kernel_rfl)
@[go_sem] def c5v : List AO := [oo 2 (.asg (.c (.bool false)))]
@[go_sem] def c8j : List AO := [om 3 0,
 oo 4 (.bin .geq 3 0 (.t 3) (.n (-2147483648)) 3),
 om 5 4,
 og 6 (.mv (.t 0)) 2 5 true,
 og 7 (.bin .leq 3 0 (.t 6) (.n 2147483647) 3) 2 5 true,
 oo 8 (.pick (.t 5) (.t 7) (.c (.bool false))),
 oo 2 (.asg (.t 8))]
def b7h : IC := (.seq (.reg c5v) (.seq (.reg c8j) .ret))
abbrev c9g : Nat := 107
theorem b9q : fnC pg 107 9 [(.tmp 2)] b7h := a1k Go.Proofs.Tryd.f107 [(.tmp 2)] (by kernel_rfl)
@[go_sem] theorem d6n : fnB pg 107 = true := by kernel_rfl
@[go_sem] def c2m : List AO := [oo 1 (.box 56 3 (.t 0)),
 oo 2 (.asg (.c .nilIface))]
@[go_sem] def c40 : List AO := [oo 6 (.faddr 56 0 (.t 1) 0),
 oo 7 (.load 54 (some 2) (.t 6)),
 oc 8 144 [(false, (.t 7))] [54],
 oo 3 (.asg (.t 8))]
@[go_sem] def c3k : List AO := [om 9 3,
 oo 10 (.bin .neq 26 2 (.t 9) (.c .nilIface) 26)]
@[go_sem] def c3r : List AO := [om 11 3,
 oo 2 (.asg (.t 11))]
@[go_sem] def c32 : List AO := [oo 12 (.faddr 56 2 (.t 1) 1),
 oo 13 (.load 24 none (.t 12)),
 oo 14 (.len 24 false (.t 13)),
 oo 15 (.faddr 56 0 (.t 1) 0),
 oo 16 (.faddr 54 0 (.t 15) 0),
 oo 17 (.load 24 none (.t 16)),
 oc 18 145 [(false, (.t 17))] [24],
 oo 19 (.bin .neq 3 0 (.t 14) (.t 18) 3)]
@[go_sem] def c5c : List AO := [oo 20 (.load 26 none (.g 6)),
 oo 2 (.asg (.t 20))]
@[go_sem] def c4t : List AO := [oo 21 (.faddr 56 2 (.t 1) 1),
 oo 22 (.load 24 none (.t 21)),
 oo 23 (.len 24 false (.t 22)),
 oo 24 (.mv (.n 0))]
@[go_sem] def c4z : List AO := [oo 25 (.bin .lss 3 0 (.t 24) (.t 23) 3)]
@[go_sem] def c44 : List AO := [om 26 24,
 oo 27 (.iaddr 24 1 (.t 22) (.t 24)),
 oo 28 (.load 3 none (.t 27)),
 oo 4 (.asg (.t 26)),
 oo 5 (.asg (.t 28))]
@[go_sem] def c45 : List AO := [om 29 5,
 oo 30 (.faddr 56 0 (.t 1) 0),
 oo 31 (.faddr 54 1 (.t 30) 1),
 oo 32 (.load 4 none (.t 31)),
 oc 33 146 [(false, (.t 29)), (false, (.t 32))] [3, 4],
 oo 34 (.un .not 4 (.t 33))]
@[go_sem] def b9o : List AO := [om 35 4,
 oo 36 (.load 26 none (.g 3)),
 oo 37 (.build 94 [.lit (.int .i64 0), .lit .nilIface] [(0, 0, 1, (.t 35)), (1, 1, 1, (.t 36))]),
 oo 38 (.box 94 2 (.t 37)),
 oo 39 (.mki 92 (.t 38)),
 oo 2 (.asg (.t 39))]
@[go_sem] def b86 : List AO := [oo 40 (.bin .add 3 0 (.t 24) (.n 1) 3),
 om 24 40]
def a49 : IC := (.seq (.reg c4z) (.seq (.cond (.t 25) .skip (.exit 0)) (.seq (.block 1 (.seq (.reg c44) (.seq (.reg c45) (.cond (.t 34) (.seq (.reg b9o) .ret) .skip)))) (.reg b86))))
@[go_sem] def c0c : List AO := [oo 2 (.asg (.c .nilIface))]
def b51 : IC := (.seq (.reg c2m) (.seq (.seq (.reg c40) (.seq (.reg c3k) (.cond (.t 10) (.seq (.reg c3r) .ret) .skip))) (.seq (.seq (.draw c32 [[], [0], [1], [], [3], [4], [5], [2, 6]]) (.cond (.t 19) (.seq (.reg c5c) .ret) .skip)) (.seq (.seq (.reg c4t) (.block 0 (.loop a49))) (.seq (.reg c0c) .ret)))))
abbrev c6o : Nat := 108
theorem b8r : fnC pg 108 41 [(.tmp 2)] b51 := a1k Go.Proofs.Tryd.f108 [(.tmp 2)] (by kernel_rfl)
@[go_sem] theorem d53 : fnB pg 108 = true := by kernel_rfl
@[go_sem] def d0g : List AO := [oo 1 (.box 56 3 (.t 0)),
 oo 2 (.asg (.nl 1))]
@[go_sem] def c9z : List AO := [oo 6 (.load 56 (some 3) (.t 1)),
 oc 7 108 [(false, (.t 6))] [56],
 oo 8 (.bin .neq 26 2 (.t 7) (.c .nilIface) 26)]
@[go_sem] def c9a : List AO := [oo 2 (.asg (.nl 1))]
@[go_sem] def c9s : List AO := [oo 9 (.faddr 56 0 (.t 1) 0),
 oo 10 (.load 54 (some 2) (.t 9)),
 oc 11 147 [(false, (.t 10))] [54],
 oo 12 (.mks 44 5 1 1 [.lit (.int .u8 0)] (.n 0) (.t 11)),
 oo 3 (.asg (.t 12))]
@[go_sem] def d03 : List AO := [oo 13 (.faddr 56 2 (.t 1) 1),
 oo 14 (.load 24 none (.t 13)),
 oo 15 (.len 24 false (.t 14)),
 oo 16 (.mv (.n 0))]
@[go_sem] def c87 : List AO := [oo 17 (.bin .lss 3 0 (.t 16) (.t 15) 3)]
@[go_sem] def d1a : List AO := [oo 18 (.iaddr 24 1 (.t 14) (.t 16)),
 oo 19 (.load 3 none (.t 18)),
 oo 5 (.asg (.t 19))]
@[go_sem] def c9n : List AO := [om 20 3,
 om 21 5,
 oo 22 (.faddr 56 0 (.t 1) 0),
 oo 23 (.faddr 54 1 (.t 22) 1),
 oo 24 (.load 4 none (.t 23)),
 oc 25 148 [(true, (.t 20)), (false, (.t 21)), (false, (.t 24))] [44, 3, 4],
 oo 3 (.asg (.t 25))]
@[go_sem] def d0r : List AO := [oo 26 (.bin .add 3 0 (.t 16) (.n 1) 3),
 om 16 26]
def b2y : IC := (.seq (.reg c87) (.seq (.cond (.t 17) .skip (.exit 0)) (.seq (.block 1 (.seq (.reg d1a) (.reg c9n))) (.reg d0r))))
@[go_sem] def c94 : List AO := [om 27 3,
 oo 2 (.asg (.t 27))]
def c1g : IC := (.seq (.reg d0g) (.seq (.seq (.reg c9z) (.cond (.t 8) (.seq (.reg c9a) .ret) .skip)) (.seq (.reg c9s) (.seq (.seq (.reg d03) (.block 0 (.loop b2y))) (.seq (.reg c94) .ret)))))
abbrev d2a : Nat := 109
theorem c2y : fnC pg 109 28 [(.tmp 2)] c1g := a1k Go.Proofs.Tryd.f109 [(.tmp 2)] (by kernel_rfl)
@[go_sem] theorem d8i : fnB pg 109 = true := by kernel_rfl
@[go_sem] def a8m : List AO := [oo 4 (.asg (.n 0))]
@[go_sem] def a8l : List AO := [om 6 0,
 oo 7 (.len 24 false (.t 6)),
 oo 8 (.mv (.n 0))]
@[go_sem] def a8o : List AO := [oo 9 (.bin .lss 3 0 (.t 8) (.t 7) 3)]
@[go_sem] def a7t : List AO := [om 10 8,
 oo 5 (.asg (.t 10))]
@[go_sem] def a8b : List AO := [om 11 1,
 om 12 0,
 om 13 5,
 oo 14 (.iaddr 24 1 (.t 12) (.t 13)),
 oo 15 (.load 3 none (.t 14)),
 ⟨(some 16), .callx (.t 11) [(false, (.t 15))] [.p 0] [3], none⟩]
@[go_sem] def a70 : List AO := [om 17 5,
 oo 4 (.asg (.t 17))]
@[go_sem] def a78 : List AO := [oo 18 (.bin .add 3 0 (.t 8) (.n 1) 3),
 om 8 18]
def a16 : IC := (.seq (.reg a8o) (.seq (.cond (.t 9) .skip (.exit 0)) (.seq (.block 1 (.seq (.reg a7t) (.seq (.reg a8b) (.cond (.t 16) (.seq (.reg a70) .ret) .skip)))) (.reg a78))))
@[go_sem] def a7s : List AO := [oo 4 (.asg (.n (-1)))]
def a3v : IC := (.seq (.reg a8m) (.seq (.seq (.reg a8l) (.block 0 (.loop a16))) (.seq (.reg a7s) .ret)))
abbrev a88 : Nat := 143
@[go_sem] theorem c1m : fnB pg 143 = true := by kernel_rfl
theorem a5t : fnX pg 143 19 [(.tmp 4)] [(.tmp 4)] a3v := a23 Go.Proofs.Tryd.f143 (by kernel_rfl)
@[go_sem] def b98 : List AO := [oo 1 (.box 54 2 (.t 0)),
 oo 2 (.asg (.c .nilIface))]
@[go_sem] def b9p : List AO := [oo 8 (.faddr 54 0 (.t 1) 0),
 oo 9 (.load 24 none (.t 8)),
 oo 10 (.len 24 false (.t 9)),
 oo 11 (.bin .gtr 3 0 (.t 10) (.n 4) 3)]
@[go_sem] def c0u : List AO := [oo 12 (.load 26 none (.g 2)),
 oo 2 (.asg (.t 12))]
@[go_sem] def b84 : List AO := [oo 3 (.asg (.n 1))]
@[go_sem] def b9g : List AO := [oo 13 (.faddr 54 0 (.t 1) 0),
 oo 14 (.load 24 none (.t 13)),
 oo 15 (.len 24 false (.t 14)),
 oo 16 (.mv (.n 0))]
@[go_sem] def b89 : List AO := [oo 17 (.bin .lss 3 0 (.t 16) (.t 15) 3)]
@[go_sem] def b90 : List AO := [oo 18 (.iaddr 24 1 (.t 14) (.t 16)),
 oo 19 (.load 3 none (.t 18)),
 oo 5 (.asg (.t 19))]
@[go_sem] def b85 : List AO := [om 20 5,
 oo 21 (.bin .lss 3 0 (.t 20) (.n 1) 3),
 om 22 21,
 og 23 (.mv (.t 5)) 2 22 false,
 og 24 (.bin .gtr 3 0 (.t 23) (.n 256) 3) 2 22 false,
 oo 25 (.pick (.t 22) (.c (.bool true)) (.t 24))]
@[go_sem] def c0n : List AO := [oo 26 (.load 26 none (.g 3)),
 oo 2 (.asg (.t 26))]
@[go_sem] def c0l : List AO := [oo 27 (.bin .add 3 0 (.t 16) (.n 1) 3),
 om 16 27]
def a2e : IC := (.seq (.reg b89) (.seq (.cond (.t 17) .skip (.exit 0)) (.seq (.block 1 (.seq (.reg b90) (.seq (.reg b85) (.cond (.t 25) (.seq (.reg c0n) .ret) .skip)))) (.reg c0l))))
@[go_sem] def b6z : List AO := [oo 28 (.faddr 54 0 (.t 1) 0),
 oo 29 (.load 24 none (.t 28)),
 oo 30 (.len 24 false (.t 29)),
 oo 31 (.mv (.n 0))]
@[go_sem] def b8c : List AO := [oo 32 (.bin .lss 3 0 (.t 31) (.t 30) 3)]
@[go_sem] def b61 : List AO := [oo 33 (.iaddr 24 1 (.t 29) (.t 31)),
 oo 34 (.load 3 none (.t 33)),
 oo 7 (.asg (.t 34))]
@[go_sem] def b8i : List AO := [om 35 3,
 om 36 7,
 oo 37 (.bin .mul 3 0 (.t 35) (.t 36) 3),
 oo 3 (.asg (.t 37))]
@[go_sem] def b7a : List AO := [om 38 3,
 oo 39 (.bin .gtr 3 0 (.t 38) (.n 16384) 3)]
@[go_sem] def b7y : List AO := [oo 40 (.load 26 none (.g 2)),
 oo 2 (.asg (.t 40))]
@[go_sem] def b7c : List AO := [oo 41 (.bin .add 3 0 (.t 31) (.n 1) 3),
 om 31 41]
def a3b : IC := (.seq (.reg b8c) (.seq (.cond (.t 32) .skip (.exit 2)) (.seq (.block 3 (.seq (.reg b61) (.seq (.reg b8i) (.seq (.reg b7a) (.cond (.t 39) (.seq (.reg b7y) .ret) .skip))))) (.reg b7c))))
@[go_sem] def b8d : List AO := [oo 2 (.asg (.c .nilIface))]
def a76 : IC := (.seq (.reg b98) (.seq (.seq (.reg b9p) (.cond (.t 11) (.seq (.reg c0u) .ret) .skip)) (.seq (.reg b84) (.seq (.seq (.reg b9g) (.block 0 (.loop a2e))) (.seq (.seq (.reg b6z) (.block 2 (.loop a3b))) (.seq (.reg b8d) .ret))))))
abbrev c4k : Nat := 144
theorem b59 : fnC pg 144 42 [(.tmp 2)] a76 := a1k Go.Proofs.Tryd.f144 [(.tmp 2)] (by kernel_rfl)
@[go_sem] theorem d47 : fnB pg 144 = true := by kernel_rfl
@[go_sem] def b9u : List AO := [oo 2 (.asg (.n 0))]
@[go_sem] def c00 : List AO := [om 6 0,
 oc 7 167 [(false, (.t 6))] [24],
 oo 8 (.un .not 4 (.t 7))]
@[go_sem] def c0w : List AO := [oo 2 (.asg (.n 0))]
@[go_sem] def b9k : List AO := [oo 3 (.asg (.n 1))]
@[go_sem] def b9m : List AO := [om 9 0,
 oo 10 (.len 24 false (.t 9)),
 oo 11 (.mv (.n 0))]
@[go_sem] def b9r : List AO := [oo 12 (.bin .lss 3 0 (.t 11) (.t 10) 3)]
@[go_sem] def b9h : List AO := [oo 13 (.iaddr 24 1 (.t 9) (.t 11)),
 oo 14 (.load 3 none (.t 13)),
 oo 5 (.asg (.t 14))]
@[go_sem] def c0i : List AO := [om 15 3,
 om 16 5,
 oo 17 (.bin .mul 3 0 (.t 15) (.t 16) 3),
 oo 3 (.asg (.t 17))]
@[go_sem] def b81 : List AO := [oo 18 (.bin .add 3 0 (.t 11) (.n 1) 3),
 om 11 18]
def a6v : IC := (.seq (.reg b9r) (.seq (.cond (.t 12) .skip (.exit 0)) (.seq (.block 1 (.seq (.reg b9h) (.reg c0i))) (.reg b81))))
@[go_sem] def c01 : List AO := [om 19 3,
 oo 2 (.asg (.t 19))]
def b38 : IC := (.seq (.reg b9u) (.seq (.seq (.reg c00) (.cond (.t 8) (.seq (.reg c0w) .ret) .skip)) (.seq (.reg b9k) (.seq (.seq (.reg b9m) (.block 0 (.loop a6v))) (.seq (.reg c01) .ret)))))
abbrev c43 : Nat := 145
theorem b6c : fnC pg 145 20 [(.tmp 2)] b38 := a1k Go.Proofs.Tryd.f145 [(.tmp 2)] (by kernel_rfl)
@[go_sem] theorem d4p : fnB pg 145 = true := by kernel_rfl
@[go_sem] def c7r : List AO := [oo 4 (.asg (.c (.bool false)))]
@[go_sem] def c8c : List AO := [om 5 1]
@[go_sem] def c7c : List AO := [om 6 0,
 oo 7 (.bin .geq 3 0 (.t 6) (.n (-2147483648)) 3),
 om 8 7,
 og 9 (.mv (.t 0)) 2 8 true,
 og 10 (.bin .leq 3 0 (.t 9) (.n 2147483647) 3) 2 8 true,
 oo 11 (.pick (.t 8) (.t 10) (.c (.bool false))),
 oo 4 (.asg (.t 11))]
@[go_sem] def c7u : List AO := [om 12 0,
 oo 13 (.bin .geq 3 0 (.t 12) (.n (-128)) 3),
 om 14 13,
 og 15 (.mv (.t 0)) 2 14 true,
 og 16 (.bin .leq 3 0 (.t 15) (.n 127) 3) 2 14 true,
 oo 17 (.pick (.t 14) (.t 16) (.c (.bool false))),
 oo 4 (.asg (.t 17))]
def b27 : IC := (.seq (.reg c7r) (.seq (.seq (.reg c8c) (.cond (.t 5) (.seq (.reg c7c) .ret) .skip)) (.seq (.reg c7u) .ret)))
abbrev c9h : Nat := 146
theorem c0h : fnC pg 146 18 [(.tmp 4)] b27 := a1k Go.Proofs.Tryd.f146 [(.tmp 4)] (by kernel_rfl)
@[go_sem] theorem d6j : fnB pg 146 = true := by kernel_rfl
@[go_sem] def b9x : List AO := [oo 1 (.box 54 2 (.t 0)),
 oo 2 (.asg (.n 0))]
@[go_sem] def b83 : List AO := [oo 3 (.faddr 54 1 (.t 1) 1),
 oo 4 (.load 4 none (.t 3))]
@[go_sem] def b9w : List AO := [oo 5 (.faddr 54 0 (.t 1) 0),
 oo 6 (.load 24 none (.t 5)),
 oc 7 145 [(false, (.t 6))] [24],
 oo 8 (.bin .mul 3 0 (.n 4) (.t 7) 3),
 oo 2 (.asg (.t 8))]
@[go_sem] def c0y : List AO := [oo 9 (.faddr 54 0 (.t 1) 0),
 oo 10 (.load 24 none (.t 9)),
 oc 11 145 [(false, (.t 10))] [24],
 oo 2 (.asg (.t 11))]
def b46 : IC := (.seq (.reg b9x) (.seq (.seq (.reg b83) (.cond (.t 4) (.seq (.reg b9w) .ret) .skip)) (.seq (.reg c0y) .ret)))
abbrev c2t : Nat := 147
theorem b6f : fnC pg 147 12 [(.tmp 2)] b46 := a1k Go.Proofs.Tryd.f147 [(.tmp 2)] (by kernel_rfl)
@[go_sem] theorem d4g : fnB pg 147 = true := by kernel_rfl
@[go_sem] def c93 : List AO := [oo 6 (.asg (.nl 1))]
@[go_sem] def d00 : List AO := [om 7 2]
@[go_sem] def d0o : List AO := [om 8 0,
 om 9 1,
 oo 10 (.conv 3 5 (.int .u8) (.t 9)),
 om 11 1,
 oo 12 (.bin .shr 3 0 (.t 11) (.c (.int .u64 (8))) 111),
 oo 13 (.conv 3 5 (.int .u8) (.t 12)),
 om 14 1,
 oo 15 (.bin .shr 3 0 (.t 14) (.c (.int .u64 (16))) 111),
 oo 16 (.conv 3 5 (.int .u8) (.t 15)),
 om 17 1,
 oo 18 (.bin .shr 3 0 (.t 17) (.c (.int .u64 (24))) 111),
 oo 19 (.conv 3 5 (.int .u8) (.t 18)),
 oo 20 (.bslice 44 5 1 4 [.lit (.int .u8 0)] [(0, (.t 10)), (1, (.t 13)), (2, (.t 16)), (3, (.t 19))]),
 oo 21 (.app 44 5 1 1 (.t 8) (.t 20)),
 oo 6 (.asg (.t 21))]
@[go_sem] def d0x : List AO := [om 22 0,
 om 23 1,
 oo 24 (.conv 3 5 (.int .u8) (.t 23)),
 oo 25 (.bslice 44 5 1 1 [.lit (.int .u8 0)] [(0, (.t 24))]),
 oo 26 (.app 44 5 1 1 (.t 22) (.t 25)),
 oo 6 (.asg (.t 26))]
def c11 : IC := (.seq (.reg c93) (.seq (.seq (.reg d00) (.cond (.t 7) (.seq (.reg d0o) .ret) .skip)) (.seq (.reg d0x) .ret)))
abbrev d3d : Nat := 148
theorem c5j : fnC pg 148 27 [(.tmp 6)] c11 := a1k Go.Proofs.Tryd.f148 [(.tmp 6)] (by kernel_rfl)
@[go_sem] theorem d8o : fnB pg 148 = true := by kernel_rfl
@[go_sem] def c2c : List AO := [oo 2 (.asg (.c (.bool false)))]
@[go_sem] def c29 : List AO := [om 3 0,
 oo 4 (.build 54 [.own 1 0 [], .lit (.bool false)] [(0, 0, 1, (.t 3))]),
 oc 5 144 [(false, (.t 4))] [54],
 oo 6 (.bin .eql 26 2 (.t 5) (.c .nilIface) 26),
 oo 2 (.asg (.t 6))]
def b55 : IC := (.seq (.reg c2c) (.seq (.reg c29) .ret))
abbrev c7p : Nat := 167
theorem b7x : fnC pg 167 7 [(.tmp 2)] b55 := a1k Go.Proofs.Tryd.f167 [(.tmp 2)] (by kernel_rfl)
@[go_sem] theorem d5z : fnB pg 167 = true := by kernel_rfl
end Go.Ideal.Tryd
end
