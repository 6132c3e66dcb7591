/- Part Pk of the proof: a machine with trees for values, its soundness, and walks on it. -/
import Derived.Test.YtfdhkijgolgnfaaGreatDoorPj
import Derived.Test.YtfdhkijgolgnfaaGreatDoorPh
import Derived.WalkKit
import Derived.LaidEql
import Derived.Stop.Asserts
import Derived.RowKitTokens
section
set_option linter.unusedVariables false
set_option maxRecDepth 10000
namespace Go.Ideal.Tryz
@[go_sem] def b8r : List AO := [oo 0 (.asg (.c (.bool false)))]
@[go_sem] def b72 : List AO := [oo 4 (.build 27 [.lit (.int .i64 0), .sl 0 [], .sl 0 [], .sl 0 [], .sl 0 [], .lit (.int .i64 0), .lit (.int .i64 0)] []),
 oc 5 6 [(false, (.t 4))] [27],
 oo 3 (.mva (.t 5)),
 oo 6 (.ext (.t 3) 0),
 oo 7 (.ext (.t 3) 1),
 oo 1 (.asg (.t 6)),
 oo 2 (.asg (.t 7))]
@[go_sem] def b74 : List AO := [om 8 2,
 oo 9 (.bin .eql 32 2 (.t 8) (.c .nilIface) 32),
 om 10 9,
 og 11 (.mv (.t 1)) 2 10 true,
 og 12 (.len 30 false (.t 11)) 2 10 true,
 og 13 (.bin .eql 3 0 (.t 12) (.n 22) 3) 2 10 true,
 oo 14 (.pick (.t 10) (.t 13) (.c (.bool false))),
 oo 0 (.asg (.t 14))]
def a7o : IC := (.seq (.reg b8r) (.seq (.reg b72) (.seq (.reg b74) .ret)))
abbrev b9c : Nat := 4
theorem b3e : fnC pg 4 15 [(.tmp 0)] a7o := a0v Go.Proofs.Tryz.f4 [(.tmp 0)] (by kernel_rfl)
@[go_sem] theorem d8a : fnB pg 4 = true := by kernel_rfl
@[go_sem] def b96 : List AO := [oo 1 (.box 27 7 (.t 0)),
 oo 2 (.asg (.c (.bool false)))]
@[go_sem] def b92 : List AO := [oo 6 (.faddr 27 1 (.t 1) 1),
 oo 7 (.load 22 none (.t 6)),
 oo 8 (.len 22 false (.t 7)),
 oo 9 (.bin .gtr 3 0 (.t 8) (.n 140) 3),
 om 10 9,
 og 11 (.faddr 27 3 (.t 1) 3) 4 10 false,
 og 12 (.load 24 none (.t 11)) 4 10 false,
 og 13 (.len 24 false (.t 12)) 4 10 false,
 og 14 (.bin .gtr 3 0 (.t 13) (.n 10) 3) 4 10 false,
 oo 15 (.pick (.t 10) (.c (.bool true)) (.t 14)),
 om 16 15,
 og 17 (.faddr 27 4 (.t 1) 4) 10 16 false,
 og 18 (.load 25 none (.t 17)) 10 16 false,
 og 19 (.len 25 false (.t 18)) 10 16 false,
 og 20 (.bin .gtr 3 0 (.t 19) (.n 300) 3) 10 16 false,
 oo 21 (.pick (.t 16) (.c (.bool true)) (.t 20)),
 om 22 21,
 og 23 (.faddr 27 2 (.t 1) 2) 16 22 false,
 og 24 (.load 23 none (.t 23)) 16 22 false,
 ⟨(some 25), .call 17 [(false, (.t 24)), (false, (.n 70)), (false, (.n 300))] [23, 3, 3], (some (16, 22, false))⟩,
 og 26 (.un .not 4 (.t 25)) 16 22 false,
 oo 27 (.pick (.t 22) (.c (.bool true)) (.t 26))]
@[go_sem] def c0e : List AO := [oo 2 (.asg (.c (.bool false)))]
@[go_sem] def a7n : List AO := [oo 3 (.asg (.n 0))]
@[go_sem] def b94 : List AO := [om 28 3,
 oo 29 (.faddr 27 1 (.t 1) 1),
 oo 30 (.load 22 none (.t 29)),
 oo 31 (.len 22 false (.t 30)),
 oo 32 (.bin .lss 3 0 (.t 28) (.t 31) 3)]
@[go_sem] def c0s : List AO := [oo 35 (.faddr 27 1 (.t 1) 1),
 oo 36 (.load 22 none (.t 35)),
 om 37 3,
 oo 38 (.iaddr 22 3 (.t 36) (.t 37)),
 oo 39 (.faddr 58 1 (.t 38) 1),
 oo 40 (.load 56 (some 2) (.t 39)),
 oc 41 18 [(false, (.t 40))] [56],
 oo 42 (.un .not 4 (.t 41))]
@[go_sem] def c0u : List AO := [oo 2 (.asg (.c (.bool false)))]
@[go_sem] def b9f : List AO := [om 33 3,
 oo 34 (.bin .add 3 0 (.t 33) (.n 1) 3),
 oo 3 (.asg (.t 34))]
def a17 : IC := (.seq (.seq (.reg b94) (.cond (.t 32) .skip (.exit 0))) (.seq (.block 1 (.seq (.reg c0s) (.cond (.t 42) (.seq (.reg c0u) .ret) .skip))) (.reg b9f)))
@[go_sem] def a7m : List AO := [oo 4 (.asg (.n 0))]
@[go_sem] def c0d : List AO := [om 43 4,
 oo 44 (.faddr 27 3 (.t 1) 3),
 oo 45 (.load 24 none (.t 44)),
 oo 46 (.len 24 false (.t 45)),
 oo 47 (.bin .lss 3 0 (.t 43) (.t 46) 3)]
@[go_sem] def b7e : List AO := [oo 50 (.faddr 27 3 (.t 1) 3),
 oo 51 (.load 24 none (.t 50)),
 om 52 4,
 oo 53 (.iaddr 24 2 (.t 51) (.t 52)),
 oo 54 (.load 56 (some 2) (.t 53)),
 oc 55 18 [(false, (.t 54))] [56],
 oo 56 (.un .not 4 (.t 55))]
@[go_sem] def b7k : List AO := [oo 2 (.asg (.c (.bool false)))]
@[go_sem] def b6y : List AO := [om 48 4,
 oo 49 (.bin .add 3 0 (.t 48) (.n 1) 3),
 oo 4 (.asg (.t 49))]
def a14 : IC := (.seq (.seq (.reg c0d) (.cond (.t 47) .skip (.exit 2))) (.seq (.block 3 (.seq (.reg b7e) (.cond (.t 56) (.seq (.reg b7k) .ret) .skip))) (.reg b6y)))
@[go_sem] def a6e : List AO := [oo 5 (.asg (.n 0))]
@[go_sem] def b7q : List AO := [om 57 5,
 oo 58 (.faddr 27 4 (.t 1) 4),
 oo 59 (.load 25 none (.t 58)),
 oo 60 (.len 25 false (.t 59)),
 oo 61 (.bin .lss 3 0 (.t 57) (.t 60) 3)]
@[go_sem] def b8h : List AO := [oo 64 (.faddr 27 4 (.t 1) 4),
 oo 65 (.load 25 none (.t 64)),
 om 66 5,
 oo 67 (.iaddr 25 6 (.t 65) (.t 66)),
 oo 68 (.faddr 48 2 (.t 67) 2),
 oo 69 (.load 46 none (.t 68)),
 oo 70 (.len 46 false (.t 69)),
 oo 71 (.bin .gtr 3 0 (.t 70) (.n 10) 3),
 om 72 71,
 og 73 (.faddr 27 4 (.t 1) 4) 8 72 false,
 og 74 (.load 25 none (.t 73)) 8 72 false,
 og 75 (.mv (.t 5)) 8 72 false,
 og 76 (.iaddr 25 6 (.t 74) (.t 75)) 8 72 false,
 og 77 (.faddr 48 3 (.t 76) 3) 8 72 false,
 og 78 (.load 46 none (.t 77)) 8 72 false,
 og 79 (.len 46 false (.t 78)) 8 72 false,
 og 80 (.bin .gtr 3 0 (.t 79) (.n 10) 3) 8 72 false,
 oo 81 (.pick (.t 72) (.c (.bool true)) (.t 80))]
@[go_sem] def b7u : List AO := [oo 2 (.asg (.c (.bool false)))]
@[go_sem] def b73 : List AO := [om 62 5,
 oo 63 (.bin .add 3 0 (.t 62) (.n 1) 3),
 oo 5 (.asg (.t 63))]
def a1a : IC := (.seq (.seq (.reg b7q) (.cond (.t 61) .skip (.exit 4))) (.seq (.block 5 (.seq (.reg b8h) (.cond (.t 81) (.seq (.reg b7u) .ret) .skip))) (.reg b73)))
@[go_sem] def a6s : List AO := [oo 2 (.asg (.c (.bool true)))]
def a1p : IC := (.seq (.reg b96) (.seq (.seq (.reg b92) (.cond (.t 27) (.seq (.reg c0e) .ret) .skip)) (.seq (.seq (.reg a7n) (.block 0 (.loop a17))) (.seq (.seq (.reg a7m) (.block 2 (.loop a14))) (.seq (.seq (.reg a6e) (.block 4 (.loop a1a))) (.seq (.reg a6s) .ret))))))
abbrev c16 : Nat := 5
theorem b48 : fnC pg 5 82 [(.tmp 2)] a1p := a0v Go.Proofs.Tryz.f5 [(.tmp 2)] (by kernel_rfl)
@[go_sem] theorem d9v : fnB pg 5 = true := by kernel_rfl
@[go_sem] def b3r : List AO := [oo 6 (.asg (.c (.bool false)))]
@[go_sem] def b37 : List AO := [om 8 0,
 oo 9 (.len 23 false (.t 8)),
 om 10 1,
 oo 11 (.bin .gtr 3 0 (.t 9) (.t 10) 3)]
@[go_sem] def b3o : List AO := [oo 6 (.asg (.c (.bool false)))]
@[go_sem] def b4d : List AO := [oo 7 (.asg (.n 0))]
@[go_sem] def b2p : List AO := [om 12 7,
 om 13 0,
 oo 14 (.len 23 false (.t 13)),
 oo 15 (.bin .lss 3 0 (.t 12) (.t 14) 3)]
@[go_sem] def b2w : List AO := [om 18 0,
 om 19 7,
 oo 20 (.iaddr 23 3 (.t 18) (.t 19)),
 oo 21 (.load 66 (some 3) (.t 20)),
 om 22 2,
 oc 23 50 [(false, (.t 21)), (false, (.t 22))] [66, 3],
 oo 24 (.un .not 4 (.t 23))]
@[go_sem] def b2s : List AO := [oo 6 (.asg (.c (.bool false)))]
@[go_sem] def b36 : List AO := [om 16 7,
 oo 17 (.bin .add 3 0 (.t 16) (.n 1) 3),
 oo 7 (.asg (.t 17))]
def a3g : IC := (.seq (.seq (.reg b2p) (.cond (.t 15) .skip (.exit 0))) (.seq (.block 1 (.seq (.reg b2w) (.cond (.t 24) (.seq (.reg b2s) .ret) .skip))) (.reg b36)))
@[go_sem] def b3z : List AO := [oo 6 (.asg (.c (.bool true)))]
def a3v : IC := (.seq (.reg b3r) (.seq (.seq (.reg b37) (.cond (.t 11) (.seq (.reg b3o) .ret) .skip)) (.seq (.seq (.reg b4d) (.block 0 (.loop a3g))) (.seq (.reg b3z) .ret))))
abbrev b5s : Nat := 17
theorem b0s : fnC pg 17 25 [(.tmp 6)] a3v := a0v Go.Proofs.Tryz.f17 [(.tmp 6)] (by kernel_rfl)
@[go_sem] theorem d32 : fnB pg 17 = true := by kernel_rfl
@[go_sem] def d4r : List AO := [oo 2 (.box 27 7 (.t 0)),
 oo 3 (.box 27 7 (.t 1)),
 oo 4 (.asg (.c (.bool false)))]
@[go_sem] def d7d : List AO := [oo 5 (.asg (.f 33))]
@[go_sem] def d6s : List AO := [oo 6 (.faddr 27 0 (.t 2) 0),
 oo 7 (.load 3 none (.t 6)),
 oo 8 (.faddr 27 0 (.t 3) 0),
 oo 9 (.load 3 none (.t 8)),
 oo 10 (.bin .eql 3 0 (.t 7) (.t 9) 3),
 om 11 10,
 og 12 (.faddr 27 5 (.t 2) 5) 5 11 true,
 og 13 (.load 3 none (.t 12)) 5 11 true,
 og 14 (.faddr 27 5 (.t 3) 5) 5 11 true,
 og 15 (.load 3 none (.t 14)) 5 11 true,
 og 16 (.bin .eql 3 0 (.t 13) (.t 15) 3) 5 11 true,
 oo 17 (.pick (.t 11) (.t 16) (.c (.bool false))),
 om 18 17,
 og 19 (.faddr 27 6 (.t 2) 6) 12 18 true,
 og 20 (.load 3 none (.t 19)) 12 18 true,
 og 21 (.faddr 27 6 (.t 3) 6) 12 18 true,
 og 22 (.load 3 none (.t 21)) 12 18 true,
 og 23 (.bin .eql 3 0 (.t 20) (.t 22) 3) 12 18 true,
 oo 24 (.pick (.t 18) (.t 23) (.c (.bool false))),
 om 25 24,
 og 26 (.faddr 27 1 (.t 2) 1) 19 25 true,
 og 27 (.load 22 none (.t 26)) 19 25 true,
 og 28 (.faddr 27 1 (.t 3) 1) 19 25 true,
 og 29 (.load 22 none (.t 28)) 19 25 true,
 og 30 (.mv (.t 5)) 19 25 true,
 ⟨(some 31), .callx (.f 35) [(false, (.t 27)), (false, (.t 29))] [.p 0, .p 1, .x (.t 30)] [22, 22, 80], (some (19, 25, true))⟩,
 oo 32 (.pick (.t 25) (.t 31) (.c (.bool false))),
 om 33 32,
 og 34 (.faddr 27 2 (.t 2) 2) 27 33 true,
 og 35 (.load 23 none (.t 34)) 27 33 true,
 og 36 (.faddr 27 2 (.t 3) 2) 27 33 true,
 og 37 (.load 23 none (.t 36)) 27 33 true,
 ⟨(some 38), .callx (.f 36) [(false, (.t 35)), (false, (.t 37))] [.p 0, .p 1, .x (.f 37)] [23, 23, 83], (some (27, 33, true))⟩,
 oo 39 (.pick (.t 33) (.t 38) (.c (.bool false))),
 om 40 39,
 og 41 (.faddr 27 3 (.t 2) 3) 34 40 true,
 og 42 (.load 24 none (.t 41)) 34 40 true,
 og 43 (.faddr 27 3 (.t 3) 3) 34 40 true,
 og 44 (.load 24 none (.t 43)) 34 40 true,
 ⟨(some 45), .callx (.f 38) [(false, (.t 42)), (false, (.t 44))] [.p 0, .p 1, .x (.f 34)] [24, 24, 79], (some (34, 40, true))⟩,
 oo 46 (.pick (.t 40) (.t 45) (.c (.bool false))),
 om 47 46,
 og 48 (.faddr 27 4 (.t 2) 4) 41 47 true,
 og 49 (.load 25 none (.t 48)) 41 47 true,
 og 50 (.faddr 27 4 (.t 3) 4) 41 47 true,
 og 51 (.load 25 none (.t 50)) 41 47 true,
 ⟨(some 52), .callx (.f 39) [(false, (.t 49)), (false, (.t 51))] [.p 0, .p 1, .x (.f 40)] [25, 25, 51], (some (41, 47, true))⟩,
 oo 53 (.pick (.t 47) (.t 52) (.c (.bool false))),
 oo 4 (.asg (.t 53))]
def a6r : IC := (.seq (.reg d4r) (.seq (.reg d7d) (.seq (.reg d6s) .ret)))
abbrev d91 : Nat := 10
theorem c79 : fnC pg 10 54 [(.tmp 4)] a6r := a0v Go.Proofs.Tryz.f10 [(.tmp 4)] (by kernel_rfl)
@[go_sem] theorem e63 : fnB pg 10 = true := by kernel_rfl
@[go_sem] def c7p : List AO := [oo 1 (.box 56 2 (.t 0)),
 oo 2 (.alloc 56 [.own 1 0 [], .lit (.bool false)])]
@[go_sem] def c69 : List AO := [oo 3 (.faddr 56 0 (.t 1) 0),
 oo 4 (.load 46 none (.t 3)),
 oc 5 89 [(false, (.t 4))] [46],
 oo 6 (.faddr 56 1 (.t 1) 1),
 oo 7 (.load 4 none (.t 6)),
 oo 8 (.build 56 [.own 1 0 [], .lit (.bool false)] [(0, 0, 1, (.t 5)), (1, 1, 1, (.t 7))]),
 ov (.store 56 2 (.t 2) (.t 8))]
def b9v : IC := (.seq (.reg c7p) (.seq (.draw c69 [[], [0], [1], [], [3], [2, 4], [5, 2, 0, 1, 2, 3, 4, 5]]) .ret))
abbrev d3x : Nat := 88
theorem c3s : fnC pg 88 9 [(.cells 2 2)] b9v := a0v Go.Proofs.Tryz.f88 [(.cell 2 56)] (by kernel_rfl)
@[go_sem] theorem e4r : fnB pg 88 = true := by kernel_rfl
@[go_sem] def b8s : List AO := [oo 2 (.asg (.nl 1))]
@[go_sem] def b7z : List AO := [om 3 0,
 ⟨(some 4), .nilq 46 (.t 3) 46, none⟩]
@[go_sem] def b81 : List AO := [oo 2 (.asg (.nl 1))]
@[go_sem] def b7v : List AO := [oo 5 (.bslice 46 3 1 0 [.lit (.int .i64 0)] []),
 om 6 0,
 oo 7 (.app 46 3 1 8 (.t 5) (.t 6)),
 oo 2 (.asg (.t 7))]
def a7s : IC := (.seq (.reg b8s) (.seq (.seq (.reg b7z) (.cond (.t 4) (.seq (.reg b81) .ret) .skip)) (.seq (.reg b7v) .ret)))
abbrev c0r : Nat := 89
theorem b20 : fnC pg 89 8 [(.tmp 2)] a7s := a0v Go.Proofs.Tryz.f89 [(.tmp 2)] (by kernel_rfl)
@[go_sem] theorem d79 : fnB pg 89 = true := by kernel_rfl
@[go_sem] def c7v : List AO := [oo 2 (.box 58 3 (.t 0)),
 oo 3 (.box 58 3 (.t 1)),
 oo 4 (.asg (.c (.bool false)))]
@[go_sem] def c66 : List AO := [oo 5 (.faddr 58 0 (.t 2) 0),
 oo 6 (.load 3 none (.t 5)),
 oo 7 (.faddr 58 0 (.t 3) 0),
 oo 8 (.load 3 none (.t 7)),
 oo 9 (.bin .eql 3 0 (.t 6) (.t 8) 3),
 om 10 9,
 og 11 (.faddr 58 1 (.t 2) 1) 5 10 true,
 og 12 (.load 56 (some 2) (.t 11)) 5 10 true,
 og 13 (.faddr 58 1 (.t 3) 1) 5 10 true,
 og 14 (.load 56 (some 2) (.t 13)) 5 10 true,
 ⟨(some 15), .call 34 [(false, (.t 12)), (false, (.t 14))] [56, 56], (some (5, 10, true))⟩,
 oo 16 (.pick (.t 10) (.t 15) (.c (.bool false))),
 oo 4 (.asg (.t 16))]
def b1h : IC := (.seq (.reg c7v) (.seq (.reg c66) .ret))
theorem c3u : fnC pg 33 17 [(.tmp 4)] b1h := a0v Go.Proofs.Tryz.f33 [(.tmp 4)] (by kernel_rfl)
@[go_sem] theorem c4s : fnB pg 33 = true := by kernel_rfl
@[go_sem] def d0v : List AO := [oo 2 (.box 56 2 (.t 0)),
 oo 3 (.box 56 2 (.t 1)),
 oo 4 (.asg (.c (.bool false)))]
@[go_sem] def d0n : List AO := [oo 5 (.faddr 56 1 (.t 2) 1),
 oo 6 (.load 4 none (.t 5)),
 oo 7 (.faddr 56 1 (.t 3) 1),
 oo 8 (.load 4 none (.t 7)),
 oo 9 (.bin .eql 4 1 (.t 6) (.t 8) 4),
 om 10 9,
 og 11 (.faddr 56 0 (.t 2) 0) 5 10 true,
 og 12 (.load 46 none (.t 11)) 5 10 true,
 og 13 (.faddr 56 0 (.t 3) 0) 5 10 true,
 og 14 (.load 46 none (.t 13)) 5 10 true,
 ⟨(some 15), .call 68 [(false, (.t 12)), (false, (.t 14))] [46, 46], (some (5, 10, true))⟩,
 oo 16 (.pick (.t 10) (.t 15) (.c (.bool false))),
 oo 4 (.asg (.t 16))]
def b3g : IC := (.seq (.reg d0v) (.seq (.reg d0n) .ret))
abbrev d40 : Nat := 34
theorem c4m : fnC pg 34 17 [(.tmp 4)] b3g := a0v Go.Proofs.Tryz.f34 [(.tmp 4)] (by kernel_rfl)
@[go_sem] theorem c60 : fnB pg 34 = true := by kernel_rfl
@[go_sem] def a9e : List AO := [oo 6 (.asg (.c (.bool false)))]
@[go_sem] def a9n : List AO := [om 10 0,
 oo 11 (.len 22 false (.t 10)),
 om 12 1,
 oo 13 (.len 22 false (.t 12)),
 oo 14 (.bin .neq 3 0 (.t 11) (.t 13) 3)]
@[go_sem] def a9z : List AO := [oo 6 (.asg (.c (.bool false)))]
@[go_sem] def a9x : List AO := [om 15 0,
 oo 16 (.len 22 false (.t 15)),
 oo 17 (.mv (.n 0))]
@[go_sem] def a85 : List AO := [oo 18 (.bin .lss 3 0 (.t 17) (.t 16) 3)]
@[go_sem] def a9o : List AO := [om 19 17,
 oo 20 (.iaddr 22 3 (.t 15) (.t 17)),
 oo 21 (.load 58 (some 3) (.t 20)),
 oo 8 (.alloc 58 [.lit (.int .i64 0), .own 1 0 [], .lit (.bool false)]),
 oo 7 (.asg (.t 19)),
 ov (.store 58 3 (.t 8) (.t 21))]
@[go_sem] def a9i : List AO := [om 22 1,
 om 23 7,
 oo 24 (.iaddr 22 3 (.t 22) (.t 23)),
 oo 25 (.load 58 (some 3) (.t 24)),
 oo 9 (.alloc 58 [.lit (.int .i64 0), .own 1 0 [], .lit (.bool false)]),
 ov (.store 58 3 (.t 9) (.t 25))]
@[go_sem] def a9r : List AO := [om 26 2,
 oo 27 (.load 58 (some 3) (.t 8)),
 oo 28 (.load 58 (some 3) (.t 9)),
 ⟨(some 29), .callx (.t 26) [(false, (.t 27)), (false, (.t 28))] [.p 0, .p 1] [58, 58], none⟩,
 oo 30 (.un .not 4 (.t 29))]
@[go_sem] def a80 : List AO := [oo 6 (.asg (.c (.bool false)))]
@[go_sem] def a9j : List AO := [oo 31 (.bin .add 3 0 (.t 17) (.n 1) 3),
 om 17 31]
def a2m : IC := (.seq (.reg a85) (.seq (.cond (.t 18) .skip (.exit 0)) (.seq (.block 1 (.seq (.reg a9o) (.seq (.reg a9i) (.seq (.reg a9r) (.cond (.t 30) (.seq (.reg a80) .ret) .skip))))) (.reg a9j))))
@[go_sem] def a8h : List AO := [oo 6 (.asg (.c (.bool true)))]
def a2s : IC := (.seq (.reg a9e) (.seq (.seq (.reg a9n) (.cond (.t 14) (.seq (.reg a9z) .ret) .skip)) (.seq (.seq (.reg a9x) (.block 0 (.loop a2m))) (.seq (.reg a8h) .ret))))
abbrev b0d : Nat := 35
@[go_sem] theorem c61 : fnB pg 35 = true := by kernel_rfl
theorem a6b : fnX pg 35 32 [(.tmp 6)] [(.tmp 6)] a2s := a2o Go.Proofs.Tryz.f35 (by kernel_rfl)
@[go_sem] def a7h : List AO := [oo 6 (.asg (.c (.bool false)))]
@[go_sem] def a65 : List AO := [om 10 0,
 oo 11 (.len 23 false (.t 10)),
 om 12 1,
 oo 13 (.len 23 false (.t 12)),
 oo 14 (.bin .neq 3 0 (.t 11) (.t 13) 3)]
@[go_sem] def a64 : List AO := [oo 6 (.asg (.c (.bool false)))]
@[go_sem] def a7a : List AO := [om 15 0,
 oo 16 (.len 23 false (.t 15)),
 oo 17 (.mv (.n 0))]
@[go_sem] def a7e : List AO := [oo 18 (.bin .lss 3 0 (.t 17) (.t 16) 3)]
@[go_sem] def a7f : List AO := [om 19 17,
 oo 20 (.iaddr 23 3 (.t 15) (.t 17)),
 oo 21 (.load 66 (some 3) (.t 20)),
 oo 8 (.alloc 66 [.own 1 0 [], .lit (.bool false), .own 1 0 []]),
 oo 7 (.asg (.t 19)),
 ov (.store 66 3 (.t 8) (.t 21))]
@[go_sem] def a69 : List AO := [om 22 1,
 om 23 7,
 oo 24 (.iaddr 23 3 (.t 22) (.t 23)),
 oo 25 (.load 66 (some 3) (.t 24)),
 oo 9 (.alloc 66 [.own 1 0 [], .lit (.bool false), .own 1 0 []]),
 ov (.store 66 3 (.t 9) (.t 25))]
@[go_sem] def a7d : List AO := [om 26 2,
 oo 27 (.load 66 (some 3) (.t 8)),
 oo 28 (.load 66 (some 3) (.t 9)),
 ⟨(some 29), .callx (.t 26) [(false, (.t 27)), (false, (.t 28))] [.p 0, .p 1] [66, 66], none⟩,
 oo 30 (.un .not 4 (.t 29))]
@[go_sem] def a63 : List AO := [oo 6 (.asg (.c (.bool false)))]
@[go_sem] def a7c : List AO := [oo 31 (.bin .add 3 0 (.t 17) (.n 1) 3),
 om 17 31]
def a10 : IC := (.seq (.reg a7e) (.seq (.cond (.t 18) .skip (.exit 0)) (.seq (.block 1 (.seq (.reg a7f) (.seq (.reg a69) (.seq (.reg a7d) (.cond (.t 30) (.seq (.reg a63) .ret) .skip))))) (.reg a7c))))
@[go_sem] def a6o : List AO := [oo 6 (.asg (.c (.bool true)))]
def a2a : IC := (.seq (.reg a7h) (.seq (.seq (.reg a65) (.cond (.t 14) (.seq (.reg a64) .ret) .skip)) (.seq (.seq (.reg a7a) (.block 0 (.loop a10))) (.seq (.reg a6o) .ret))))
abbrev a8p : Nat := 36
@[go_sem] theorem c5l : fnB pg 36 = true := by kernel_rfl
theorem a5o : fnX pg 36 32 [(.tmp 6)] [(.tmp 6)] a2a := a2o Go.Proofs.Tryz.f36 (by kernel_rfl)
@[go_sem] def d6c : List AO := [oo 2 (.box 66 3 (.t 0)),
 oo 3 (.box 66 3 (.t 1)),
 oo 4 (.asg (.c (.bool false)))]
@[go_sem] def d6y : List AO := [oo 5 (.faddr 66 0 (.t 2) 0),
 oo 6 (.load 56 (some 2) (.t 5)),
 oo 7 (.faddr 66 0 (.t 3) 0),
 oo 8 (.load 56 (some 2) (.t 7)),
 oc 9 34 [(false, (.t 6)), (false, (.t 8))] [56, 56],
 om 10 9,
 og 11 (.faddr 66 2 (.t 2) 1) 5 10 true,
 og 12 (.load 46 none (.t 11)) 5 10 true,
 og 13 (.faddr 66 2 (.t 3) 1) 5 10 true,
 og 14 (.load 46 none (.t 13)) 5 10 true,
 ⟨(some 15), .call 68 [(false, (.t 12)), (false, (.t 14))] [46, 46], (some (5, 10, true))⟩,
 oo 16 (.pick (.t 10) (.t 15) (.c (.bool false))),
 oo 4 (.asg (.t 16))]
def c5n : IC := (.seq (.reg d6c) (.seq (.reg d6y) .ret))
abbrev e0r : Nat := 37
theorem c6x : fnC pg 37 17 [(.tmp 4)] c5n := a0v Go.Proofs.Tryz.f37 [(.tmp 4)] (by kernel_rfl)
@[go_sem] theorem d1m : fnB pg 37 = true := by kernel_rfl
@[go_sem] def a9s : List AO := [oo 6 (.asg (.c (.bool false)))]
@[go_sem] def a87 : List AO := [om 10 0,
 oo 11 (.len 24 false (.t 10)),
 om 12 1,
 oo 13 (.len 24 false (.t 12)),
 oo 14 (.bin .neq 3 0 (.t 11) (.t 13) 3)]
@[go_sem] def a9d : List AO := [oo 6 (.asg (.c (.bool false)))]
@[go_sem] def a9t : List AO := [om 15 0,
 oo 16 (.len 24 false (.t 15)),
 oo 17 (.mv (.n 0))]
@[go_sem] def a9w : List AO := [oo 18 (.bin .lss 3 0 (.t 17) (.t 16) 3)]
@[go_sem] def a8z : List AO := [om 19 17,
 oo 20 (.iaddr 24 2 (.t 15) (.t 17)),
 oo 21 (.load 56 (some 2) (.t 20)),
 oo 8 (.alloc 56 [.own 1 0 [], .lit (.bool false)]),
 oo 7 (.asg (.t 19)),
 ov (.store 56 2 (.t 8) (.t 21))]
@[go_sem] def a9u : List AO := [om 22 1,
 om 23 7,
 oo 24 (.iaddr 24 2 (.t 22) (.t 23)),
 oo 25 (.load 56 (some 2) (.t 24)),
 oo 9 (.alloc 56 [.own 1 0 [], .lit (.bool false)]),
 ov (.store 56 2 (.t 9) (.t 25))]
@[go_sem] def a97 : List AO := [om 26 2,
 oo 27 (.load 56 (some 2) (.t 8)),
 oo 28 (.load 56 (some 2) (.t 9)),
 ⟨(some 29), .callx (.t 26) [(false, (.t 27)), (false, (.t 28))] [.p 0, .p 1] [56, 56], none⟩,
 oo 30 (.un .not 4 (.t 29))]
@[go_sem] def a94 : List AO := [oo 6 (.asg (.c (.bool false)))]
@[go_sem] def a98 : List AO := [oo 31 (.bin .add 3 0 (.t 17) (.n 1) 3),
 om 17 31]
def a2f : IC := (.seq (.reg a9w) (.seq (.cond (.t 18) .skip (.exit 0)) (.seq (.block 1 (.seq (.reg a8z) (.seq (.reg a9u) (.seq (.reg a97) (.cond (.t 30) (.seq (.reg a94) .ret) .skip))))) (.reg a98))))
@[go_sem] def a8o : List AO := [oo 6 (.asg (.c (.bool true)))]
def a2u : IC := (.seq (.reg a9s) (.seq (.seq (.reg a87) (.cond (.t 14) (.seq (.reg a9d) .ret) .skip)) (.seq (.seq (.reg a9t) (.block 0 (.loop a2f))) (.seq (.reg a8o) .ret))))
abbrev b0j : Nat := 38
@[go_sem] theorem c6s : fnB pg 38 = true := by kernel_rfl
theorem a6i : fnX pg 38 32 [(.tmp 6)] [(.tmp 6)] a2u := a2o Go.Proofs.Tryz.f38 (by kernel_rfl)
@[go_sem] def a74 : List AO := [oo 6 (.asg (.c (.bool false)))]
@[go_sem] def a76 : List AO := [om 10 0,
 oo 11 (.len 25 false (.t 10)),
 om 12 1,
 oo 13 (.len 25 false (.t 12)),
 oo 14 (.bin .neq 3 0 (.t 11) (.t 13) 3)]
@[go_sem] def a8d : List AO := [oo 6 (.asg (.c (.bool false)))]
@[go_sem] def a8t : List AO := [om 15 0,
 oo 16 (.len 25 false (.t 15)),
 oo 17 (.mv (.n 0))]
@[go_sem] def a8w : List AO := [oo 18 (.bin .lss 3 0 (.t 17) (.t 16) 3)]
@[go_sem] def a8v : List AO := [om 19 17,
 oo 20 (.iaddr 25 6 (.t 15) (.t 17)),
 oo 21 (.load 48 (some 6) (.t 20)),
 oo 8 (.alloc 48 [.lit (.int .i64 0), .lit (.int .i64 0), .own 1 0 [], .own 1 0 [], .lit (.int .i64 0), .lit (.int .i64 0)]),
 oo 7 (.asg (.t 19)),
 ov (.store 48 6 (.t 8) (.t 21))]
@[go_sem] def a77 : List AO := [om 22 1,
 om 23 7,
 oo 24 (.iaddr 25 6 (.t 22) (.t 23)),
 oo 25 (.load 48 (some 6) (.t 24)),
 oo 9 (.alloc 48 [.lit (.int .i64 0), .lit (.int .i64 0), .own 1 0 [], .own 1 0 [], .lit (.int .i64 0), .lit (.int .i64 0)]),
 ov (.store 48 6 (.t 9) (.t 25))]
@[go_sem] def a8i : List AO := [om 26 2,
 oo 27 (.load 48 (some 6) (.t 8)),
 oo 28 (.load 48 (some 6) (.t 9)),
 ⟨(some 29), .callx (.t 26) [(false, (.t 27)), (false, (.t 28))] [.p 0, .p 1] [48, 48], none⟩,
 oo 30 (.un .not 4 (.t 29))]
@[go_sem] def a8b : List AO := [oo 6 (.asg (.c (.bool false)))]
@[go_sem] def a8q : List AO := [oo 31 (.bin .add 3 0 (.t 17) (.n 1) 3),
 om 17 31]
def a18 : IC := (.seq (.reg a8w) (.seq (.cond (.t 18) .skip (.exit 0)) (.seq (.block 1 (.seq (.reg a8v) (.seq (.reg a77) (.seq (.reg a8i) (.cond (.t 30) (.seq (.reg a8b) .ret) .skip))))) (.reg a8q))))
@[go_sem] def a68 : List AO := [oo 6 (.asg (.c (.bool true)))]
def a2k : IC := (.seq (.reg a74) (.seq (.seq (.reg a76) (.cond (.t 14) (.seq (.reg a8d) .ret) .skip)) (.seq (.seq (.reg a8t) (.block 0 (.loop a18))) (.seq (.reg a68) .ret))))
abbrev a9a : Nat := 39
@[go_sem] theorem c6k : fnB pg 39 = true := by kernel_rfl
theorem a56 : fnX pg 39 32 [(.tmp 6)] [(.tmp 6)] a2k := a2o Go.Proofs.Tryz.f39 (by kernel_rfl)
@[go_sem] def c15 : List AO := [oo 2 (.box 48 6 (.t 0)),
 oo 3 (.box 48 6 (.t 1)),
 oo 4 (.asg (.c (.bool false)))]
@[go_sem] def c14 : List AO := [oo 5 (.faddr 48 0 (.t 2) 0),
 oo 6 (.load 3 none (.t 5)),
 oo 7 (.faddr 48 0 (.t 3) 0),
 oo 8 (.load 3 none (.t 7)),
 oo 9 (.bin .eql 3 0 (.t 6) (.t 8) 3),
 om 10 9,
 og 11 (.faddr 48 1 (.t 2) 1) 5 10 true,
 og 12 (.load 3 none (.t 11)) 5 10 true,
 og 13 (.faddr 48 1 (.t 3) 1) 5 10 true,
 og 14 (.load 3 none (.t 13)) 5 10 true,
 og 15 (.bin .eql 3 0 (.t 12) (.t 14) 3) 5 10 true,
 oo 16 (.pick (.t 10) (.t 15) (.c (.bool false))),
 om 17 16,
 og 18 (.faddr 48 2 (.t 2) 2) 12 17 true,
 og 19 (.load 46 none (.t 18)) 12 17 true,
 og 20 (.faddr 48 2 (.t 3) 2) 12 17 true,
 og 21 (.load 46 none (.t 20)) 12 17 true,
 ⟨(some 22), .call 68 [(false, (.t 19)), (false, (.t 21))] [46, 46], (some (12, 17, true))⟩,
 oo 23 (.pick (.t 17) (.t 22) (.c (.bool false))),
 om 24 23,
 og 25 (.faddr 48 3 (.t 2) 3) 19 24 true,
 og 26 (.load 46 none (.t 25)) 19 24 true,
 og 27 (.faddr 48 3 (.t 3) 3) 19 24 true,
 og 28 (.load 46 none (.t 27)) 19 24 true,
 ⟨(some 29), .call 68 [(false, (.t 26)), (false, (.t 28))] [46, 46], (some (19, 24, true))⟩,
 oo 30 (.pick (.t 24) (.t 29) (.c (.bool false))),
 om 31 30,
 og 32 (.faddr 48 4 (.t 2) 4) 26 31 true,
 og 33 (.load 3 none (.t 32)) 26 31 true,
 og 34 (.faddr 48 4 (.t 3) 4) 26 31 true,
 og 35 (.load 3 none (.t 34)) 26 31 true,
 og 36 (.bin .eql 3 0 (.t 33) (.t 35) 3) 26 31 true,
 oo 37 (.pick (.t 31) (.t 36) (.c (.bool false))),
 om 38 37,
 og 39 (.faddr 48 5 (.t 2) 5) 33 38 true,
 og 40 (.load 3 none (.t 39)) 33 38 true,
 og 41 (.faddr 48 5 (.t 3) 5) 33 38 true,
 og 42 (.load 3 none (.t 41)) 33 38 true,
 og 43 (.bin .eql 3 0 (.t 40) (.t 42) 3) 33 38 true,
 oo 44 (.pick (.t 38) (.t 43) (.c (.bool false))),
 oo 4 (.asg (.t 44))]
def a33 : IC := (.seq (.reg c15) (.seq (.reg c14) .ret))
abbrev c3h : Nat := 40
theorem b76 : fnC pg 40 45 [(.tmp 4)] a33 := a0v Go.Proofs.Tryz.f40 [(.tmp 4)] (by kernel_rfl)
@[go_sem] theorem c07 : fnB pg 40 = true := by kernel_rfl
@[go_sem] def b6s : List AO := [oo 4 (.asg (.c (.bool false)))]
@[go_sem] def b62 : List AO := [om 6 0,
 oo 7 (.len 46 false (.t 6)),
 om 8 1,
 oo 9 (.len 46 false (.t 8)),
 oo 10 (.bin .neq 3 0 (.t 7) (.t 9) 3)]
@[go_sem] def b79 : List AO := [oo 4 (.asg (.c (.bool false)))]
@[go_sem] def b7s : List AO := [om 11 0,
 oo 12 (.len 46 false (.t 11)),
 oo 13 (.mv (.n 0))]
@[go_sem] def b7p : List AO := [oo 14 (.bin .lss 3 0 (.t 13) (.t 12) 3)]
@[go_sem] def b7j : List AO := [om 15 13,
 oo 5 (.asg (.t 15))]
@[go_sem] def b8f : List AO := [om 16 0,
 om 17 5,
 oo 18 (.iaddr 46 1 (.t 16) (.t 17)),
 oo 19 (.load 3 none (.t 18)),
 om 20 1,
 om 21 5,
 oo 22 (.iaddr 46 1 (.t 20) (.t 21)),
 oo 23 (.load 3 none (.t 22)),
 oo 24 (.bin .neq 3 0 (.t 19) (.t 23) 3)]
@[go_sem] def b7y : List AO := [oo 4 (.asg (.c (.bool false)))]
@[go_sem] def b6w : List AO := [oo 25 (.bin .add 3 0 (.t 13) (.n 1) 3),
 om 13 25]
def a39 : IC := (.seq (.reg b7p) (.seq (.cond (.t 14) .skip (.exit 0)) (.seq (.block 1 (.seq (.reg b7j) (.seq (.draw b8f [[], [], [0, 1], [2], [], [], [4, 5], [6], [3, 7]]) (.cond (.t 24) (.seq (.reg b7y) .ret) .skip)))) (.reg b6w))))
@[go_sem] def b7r : List AO := [oo 4 (.asg (.c (.bool true)))]
def a4m : IC := (.seq (.reg b6s) (.seq (.seq (.reg b62) (.cond (.t 10) (.seq (.reg b79) .ret) .skip)) (.seq (.seq (.reg b7s) (.block 0 (.loop a39))) (.seq (.reg b7r) .ret))))
abbrev b9x : Nat := 68
theorem b34 : fnC pg 68 26 [(.tmp 4)] a4m := a0v Go.Proofs.Tryz.f68 [(.tmp 4)] (by kernel_rfl)
@[go_sem] theorem d8d : fnB pg 68 = true := by kernel_rfl
@[go_sem] def b4c : List AO := [oo 2 (.box 48 6 (.t 0)),
 oo 3 (.box 48 6 (.t 1)),
 oo 4 (.asg (.c (.bool false)))]
@[go_sem] def b2m : List AO := [oo 7 (.faddr 48 2 (.t 2) 2),
 oo 8 (.load 46 none (.t 7)),
 oo 9 (.faddr 48 2 (.t 3) 2),
 oo 10 (.load 46 none (.t 9)),
 oc 11 49 [(false, (.t 8)), (false, (.t 10))] [46, 46],
 oo 5 (.asg (.t 11))]
@[go_sem] def b23 : List AO := [oo 12 (.faddr 48 3 (.t 2) 3),
 oo 13 (.load 46 none (.t 12)),
 oo 14 (.faddr 48 3 (.t 3) 3),
 oo 15 (.load 46 none (.t 14)),
 oc 16 49 [(false, (.t 13)), (false, (.t 15))] [46, 46],
 oo 6 (.asg (.t 16))]
@[go_sem] def b4e : List AO := [om 17 5,
 om 18 17,
 og 19 (.mv (.t 6)) 1 18 true,
 oo 20 (.pick (.t 18) (.t 19) (.c (.bool false))),
 om 21 20,
 og 22 (.faddr 48 0 (.t 2) 0) 4 21 true,
 og 23 (.load 3 none (.t 22)) 4 21 true,
 og 24 (.faddr 48 0 (.t 3) 0) 4 21 true,
 og 25 (.load 3 none (.t 24)) 4 21 true,
 og 26 (.bin .eql 3 0 (.t 23) (.t 25) 3) 4 21 true,
 oo 27 (.pick (.t 21) (.t 26) (.c (.bool false))),
 om 28 27,
 og 29 (.faddr 48 1 (.t 2) 1) 11 28 true,
 og 30 (.load 3 none (.t 29)) 11 28 true,
 og 31 (.faddr 48 1 (.t 3) 1) 11 28 true,
 og 32 (.load 3 none (.t 31)) 11 28 true,
 og 33 (.bin .eql 3 0 (.t 30) (.t 32) 3) 11 28 true,
 oo 34 (.pick (.t 28) (.t 33) (.c (.bool false))),
 om 35 34,
 og 36 (.faddr 48 4 (.t 2) 4) 18 35 true,
 og 37 (.load 3 none (.t 36)) 18 35 true,
 og 38 (.faddr 48 4 (.t 3) 4) 18 35 true,
 og 39 (.load 3 none (.t 38)) 18 35 true,
 og 40 (.bin .eql 3 0 (.t 37) (.t 39) 3) 18 35 true,
 oo 41 (.pick (.t 35) (.t 40) (.c (.bool false))),
 om 42 41,
 og 43 (.faddr 48 5 (.t 2) 5) 25 42 true,
 og 44 (.load 3 none (.t 43)) 25 42 true,
 og 45 (.faddr 48 5 (.t 3) 5) 25 42 true,
 og 46 (.load 3 none (.t 45)) 25 42 true,
 og 47 (.bin .eql 3 0 (.t 44) (.t 46) 3) 25 42 true,
 oo 48 (.pick (.t 42) (.t 47) (.c (.bool false))),
 oo 4 (.asg (.t 48))]
def a5s : IC := (.seq (.reg b4c) (.seq (.reg b2m) (.seq (.reg b23) (.seq (.reg b4e) .ret))))
abbrev b6a : Nat := 16
theorem b0m : fnC pg 16 49 [(.tmp 4)] a5s := a0v Go.Proofs.Tryz.f16 [(.tmp 4)] (by kernel_rfl)
@[go_sem] theorem d31 : fnB pg 16 = true := by kernel_rfl
end Go.Ideal.Tryz
end
section
set_option linter.unusedVariables false
set_option linter.unusedSimpArgs false
set_option maxRecDepth 10000
namespace Go.Ideal.Tryz
structure Ds where
  shape : List Int
  wide : Bool
  deriving DecidableEq
structure Tn where
  shape : List Int
  wide : Bool
  data : List Int
  deriving DecidableEq
structure Vw where
  off : Int
  shape : List Int
  wide : Bool
  deriving DecidableEq
structure In where
  op : Int
  dst : Int
  ins : List Int
  args : List Int
  frm : Int
  to : Int
  deriving DecidableEq
structure Pl where
  size : Int
  views : List Vw
  consts : List Tn
  weights : List Ds
  code : List In
  input : Int
  output : Int
  deriving DecidableEq
def eD (d : Ds) : List AV := [slI d.shape, lb d.wide]
def eT (d : Tn) : List AV := [slI d.shape, lb d.wide, slI d.data]
def eV (d : Vw) : List AV := [li d.off, slI d.shape, lb d.wide]
def eI (d : In) : List AV := [li d.op, li d.dst, slI d.ins, slI d.args, li d.frm, li d.to]
def oD (d : Ds) : List AV := [owI d.shape, lb d.wide]
def oT (d : Tn) : List AV := [owI d.shape, lb d.wide, owI d.data]
def oV (d : Vw) : List AV := [li d.off, owI d.shape, lb d.wide]
def oI (d : In) : List AV := [li d.op, li d.dst, owI d.ins, owI d.args, li d.frm, li d.to]
@[go_sem] theorem h4g {xs : List Ds} : (fm eD xs).length = xs.length * 2 := b1o fun _ => rfl
@[go_sem] theorem h7m {xs : List Ds} {i : Nat} (h : i < xs.length) : ((fm eD xs).drop (i * 2)).take 2 = [slI xs[i].shape, lb xs[i].wide] := c4c (f := eD) (k := 2) (fun _ => rfl) h
@[go_sem] theorem g98 {xs : List Ds} : (fm eD xs).take (xs.length * 2) = fm eD xs := a6t fun _ => rfl
@[go_sem] theorem g4x {xs : List Ds} : a0j (fm eD xs) = true := b9j fun _ => rfl
@[go_sem] theorem h4f {xs : List Ds} : a1n (fm eD xs) = fm eD xs := by
  rw [b2l]; congr 1
@[go_sem] theorem h5f {xs : List Ds} : (fm oD xs).length = xs.length * 2 := b1o fun _ => rfl
@[go_sem] theorem h1v {xs : List Ds} : (fm oD xs).take (xs.length * 2) = fm oD xs := a6t fun _ => rfl
@[go_sem] theorem h55 {xs : List Ds} : a1n (fm oD xs) = fm eD xs := by
  rw [b2l]
  congr 1
  funext n
  simp [oD, eD, go_sem]
@[go_sem] theorem g75 {xs : List Ds} : a1e (fm oD xs) = true := b98 fun n => by simp [oD, go_sem]
@[go_sem] theorem h6n {xs : List Tn} : (fm eT xs).length = xs.length * 3 := b1o fun _ => rfl
@[go_sem] theorem h4x {xs : List Tn} {i : Nat} (h : i < xs.length) : ((fm eT xs).drop (i * 3)).take 3 = [slI xs[i].shape, lb xs[i].wide, slI xs[i].data] := c4c (f := eT) (k := 3) (fun _ => rfl) h
@[go_sem] theorem h34 {xs : List Tn} : (fm eT xs).take (xs.length * 3) = fm eT xs := a6t fun _ => rfl
@[go_sem] theorem g6j {xs : List Tn} : a0j (fm eT xs) = true := b9j fun _ => rfl
@[go_sem] theorem h6r {xs : List Tn} : a1n (fm eT xs) = fm eT xs := by
  rw [b2l]; congr 1
@[go_sem] theorem h6j {xs : List Tn} : (fm oT xs).length = xs.length * 3 := b1o fun _ => rfl
@[go_sem] theorem h1n {xs : List Tn} : (fm oT xs).take (xs.length * 3) = fm oT xs := a6t fun _ => rfl
@[go_sem] theorem h54 {xs : List Tn} : a1n (fm oT xs) = fm eT xs := by
  rw [b2l]
  congr 1
  funext n
  simp [oT, eT, go_sem]
@[go_sem] theorem g48 {xs : List Tn} : a1e (fm oT xs) = true := b98 fun n => by simp [oT, go_sem]
@[go_sem] theorem h6e {xs : List Vw} : (fm eV xs).length = xs.length * 3 := b1o fun _ => rfl
@[go_sem] theorem g2q {xs : List Vw} {i : Nat} (h : i < xs.length) : ((fm eV xs).drop (i * 3)).take 3 = [li xs[i].off, slI xs[i].shape, lb xs[i].wide] := c4c (f := eV) (k := 3) (fun _ => rfl) h
@[go_sem] theorem g8c {xs : List Vw} : (fm eV xs).take (xs.length * 3) = fm eV xs := a6t fun _ => rfl
@[go_sem] theorem g7x {xs : List Vw} : a0j (fm eV xs) = true := b9j fun _ => rfl
@[go_sem] theorem h57 {xs : List Vw} : a1n (fm eV xs) = fm eV xs := by
  rw [b2l]; congr 1
@[go_sem] theorem h6w {xs : List Vw} : (fm oV xs).length = xs.length * 3 := b1o fun _ => rfl
@[go_sem] theorem h1g {xs : List Vw} : (fm oV xs).take (xs.length * 3) = fm oV xs := a6t fun _ => rfl
@[go_sem] theorem h42 {xs : List Vw} : a1n (fm oV xs) = fm eV xs := by
  rw [b2l]
  congr 1
  funext n
  simp [oV, eV, go_sem]
@[go_sem] theorem g4o {xs : List Vw} : a1e (fm oV xs) = true := b98 fun n => by simp [oV, go_sem]
@[go_sem] theorem h7h {xs : List In} : (fm eI xs).length = xs.length * 6 := b1o fun _ => rfl
@[go_sem] theorem h5t {xs : List In} {i : Nat} (h : i < xs.length) : ((fm eI xs).drop (i * 6)).take 6 = [li xs[i].op, li xs[i].dst, slI xs[i].ins, slI xs[i].args, li xs[i].frm, li xs[i].to] := c4c (f := eI) (k := 6) (fun _ => rfl) h
@[go_sem] theorem h3c {xs : List In} : (fm eI xs).take (xs.length * 6) = fm eI xs := a6t fun _ => rfl
@[go_sem] theorem g6y {xs : List In} : a0j (fm eI xs) = true := b9j fun _ => rfl
@[go_sem] theorem h43 {xs : List In} : a1n (fm eI xs) = fm eI xs := by
  rw [b2l]; congr 1
@[go_sem] theorem h7l {xs : List In} : (fm oI xs).length = xs.length * 6 := b1o fun _ => rfl
@[go_sem] theorem h30 {xs : List In} : (fm oI xs).take (xs.length * 6) = fm oI xs := a6t fun _ => rfl
@[go_sem] theorem h4q {xs : List In} : a1n (fm oI xs) = fm eI xs := by
  rw [b2l]
  congr 1
  funext n
  simp [oI, eI, go_sem]
@[go_sem] theorem g7n {xs : List In} : a1e (fm oI xs) = true := b98 fun n => by simp [oI, go_sem]
abbrev slD (xs : List Ds) : AV := .sl xs.length (fm eD xs)
abbrev slT (xs : List Tn) : AV := .sl xs.length (fm eT xs)
abbrev slV (xs : List Vw) : AV := .sl xs.length (fm eV xs)
abbrev slJ (xs : List In) : AV := .sl xs.length (fm eI xs)
def eP (p : Pl) : List AV := [li p.size, slV p.views, slT p.consts, slD p.weights, slJ p.code, li p.input, li p.output]
section
variable {G : Nat → Option Value} {bk : Nat → Nat × Nat} {Q : Exit → St → Prop} {st : St}
theorem f2l (xs : List Int) (h : xs.length < 2 ^ 40) : ACalls pg G c0r [slI xs] (owI xs) := by
  refine b20 rfl ?_
  simp (disch := omega) [go_sem, a7s]
  refine h2g fun b hb => ?_
  cases b with
  | true =>
    have : xs = [] := by simpa using hb rfl
    subst this
    simp (disch := omega) [go_sem]
  | false => simp (disch := omega) [go_sem]
theorem e8j (sh : List Int) (w : Bool) (hlen : sh.length < 2 ^ 40) : ACalls pg G d3x [.agg [slI sh, lb w]] (.agg [owI sh, lb w]) := by
  refine c3s rfl ?_
  simp (disch := omega) [go_sem, b9v]
  refine a1r ?_
  simp (disch := omega) [go_sem]
  refine a16 (f2l sh hlen) rfl (d56 _) (by simp) [5] (by simp) (by simp (disch := omega) [go_sem]) ?_
  simp (disch := omega) [go_sem]
  refine a1q (by decide) fun s2 hs he => ?_
  simp (disch := omega) [go_sem, hs]
end
end Go.Ideal.Tryz
end
section
set_option linter.unusedVariables false
set_option linter.unusedSimpArgs false
set_option maxRecDepth 10000
namespace Go.Ideal.Tryz
def eqP {α : Type} (p : α → α → Bool) : List α → List α → Bool
  | [], [] => true
  | x :: xs, y :: ys => p x y && eqP p xs ys
  | _, _ => false
theorem c5u {α : Type} {p : α → α → Bool} : ∀ {a b : List α}, a.length ≠ b.length → eqP p a b = false
  | [], [], h => absurd rfl h
  | [], _ :: _, _ => rfl
  | _ :: _, [], _ => rfl
  | x :: xs, y :: ys, h => by rw [eqP, c5u (by simpa using h), Bool.and_false]
theorem e52 {α : Type} [DecidableEq α] {p : α → α → Bool} : ∀ {a b : List α}, (∀ x ∈ a, ∀ y ∈ b, p x y = decide (x = y)) → eqP p a b = decide (a = b)
  | [], [], h => by simp [eqP]
  | [], _ :: _, _ => by simp [eqP]
  | _ :: _, [], _ => by simp [eqP]
  | x :: xs, y :: ys, h => by
    rw [eqP, h x (by simp) y (by simp), e52 fun a ha b hb => h a (by simp [ha]) b (by simp [hb])]
    by_cases h1 : x = y <;> by_cases h2 : xs = ys <;> simp [h1, h2]
theorem c00 {α : Type} {p : α → α → Bool} {a b : List α} {i : Nat} (h : i < a.length) (h2 : i < b.length) : eqP p (a.drop i) (b.drop i) = (p a[i] b[i] && eqP p (a.drop (i + 1)) (b.drop (i + 1))) := by
  rw [List.drop_eq_getElem_cons h, List.drop_eq_getElem_cons h2]; rfl
section
variable {G : Nat → Option Value} {bk : Nat → Nat × Nat} {Q : Exit → St → Prop} {st : St}
theorem c3z (a b : List Int) (ha : a.length < 2 ^ 62) (hb : b.length < 2 ^ 62) : ACalls pg G b9x [slI a, slI b] (lb (decide (a = b))) := by
  refine b34 rfl ?_
  by_cases hl : a.length = b.length
  · have hl' : (a.length : Int) = b.length := by omega
    simp (disch := omega) [go_sem, a4m, hl']
    refine a0u Nat (fun i st => i ≤ a.length ∧ eqP (fun x y => decide (x = y)) (a.drop i) (b.drop i) = decide (a = b) ∧ st.s 0 = slI a ∧ st.s 1 = slI b ∧ st.s 11 = slI a ∧ st.s 12 = li a.length ∧ st.s 13 = li i) (fun i => a.length - i) 0 ⟨by simp, e52 fun _ _ _ _ => rfl, by simp (disch := omega) [go_sem, hl']⟩ ?_
    rintro i st K ⟨hi, hm, h⟩ hK
    by_cases hlt : i < a.length
    · have hlt2 : i < b.length := by omega
      rw [c00 hlt hlt2] at hm
      simp (disch := omega) [go_sem, a39, h, hlt]
      refine a1r ?_
      simp (disch := omega) [go_sem, h, hlt]
      refine a1q (by decide) fun s2 hs he => ?_
      by_cases k : a[i] = b[i]
      · rw [decide_eq_true k, Bool.true_and] at hm
        simp (disch := omega) [go_sem, hs, h, k]
        exact hK (i + 1) _ ⟨by omega, hm, by simp (disch := omega) [go_sem, hs, h]⟩ (by omega)
      · rw [decide_eq_false k, Bool.false_and] at hm
        simp (disch := omega) [go_sem, hs, h, k, ← hm]
    · obtain rfl : i = a.length := by omega
      rw [List.drop_length, hl, List.drop_length, eqP] at hm
      simp (disch := omega) [go_sem, a39, h, ← hm]
  · have hl' : ¬ (a.length : Int) = b.length := by omega
    have hn : a ≠ b := fun h => hl (by rw [h])
    simp (disch := omega) [go_sem, a4m, hl', hn]
theorem g9k {f : FuncId} (hf : fnB pg f = true) {p : Vw → Vw → Bool} (a b : List Vw) (hp : ∀ x ∈ a, ∀ y ∈ b, ACallsX pg G f [.agg (eV x), .agg (eV y)] (lb (p x y)) []) (ha : a.length < 2 ^ 62) (hb : b.length < 2 ^ 62) : ACallsX pg G b0d [slV a, slV b, .fn f [] []] (lb (eqP p a b)) [] := by
  refine a6b (pins := []) (by kernel_rfl) rfl rfl rfl rfl ?_
  by_cases hl : a.length = b.length
  · have hl' : (a.length : Int) = b.length := by omega
    simp (disch := omega) [go_sem, a2s, hl']
    refine a0u Nat (fun i st => i ≤ a.length ∧ eqP p (a.drop i) (b.drop i) = eqP p a b ∧ st.s 0 = slV a ∧ st.s 1 = slV b ∧ st.s 2 = .fn f [] [] ∧ st.s 15 = slV a ∧ st.s 16 = li a.length ∧ st.s 17 = li i) (fun i => a.length - i) 0 ⟨by simp, rfl, by simp (disch := omega) [go_sem, hl']⟩ ?_
    rintro i st K ⟨hi, hm, h⟩ hK
    by_cases hlt : i < a.length
    · have hlt2 : i < b.length := by omega
      rw [c00 hlt hlt2] at hm
      simp (disch := omega) [go_sem, a2m, h, hlt, hlt2, hf]
      refine a0o (hp _ (List.getElem_mem hlt) _ (List.getElem_mem hlt2)) rfl rfl rfl rfl ?_
      cases k : p a[i] b[i] with
      | true =>
        rw [k, Bool.true_and] at hm
        simp (disch := omega) [go_sem, h]
        exact hK (i + 1) _ ⟨by omega, hm, by simp (disch := omega) [go_sem, h]⟩ (by omega)
      | false =>
        rw [k, Bool.false_and] at hm
        simp (disch := omega) [go_sem, h, ← hm]
    · obtain rfl : i = a.length := by omega
      rw [List.drop_length, hl, List.drop_length, eqP] at hm
      simp (disch := omega) [go_sem, a2m, h, ← hm]
  · have hl' : ¬ (a.length : Int) = b.length := by omega
    simp (disch := omega) [go_sem, a2s, hl', c5u hl]
theorem h2a {f : FuncId} (hf : fnB pg f = true) {p : Tn → Tn → Bool} (a b : List Tn) (hp : ∀ x ∈ a, ∀ y ∈ b, ACallsX pg G f [.agg (eT x), .agg (eT y)] (lb (p x y)) []) (ha : a.length < 2 ^ 62) (hb : b.length < 2 ^ 62) : ACallsX pg G a8p [slT a, slT b, .fn f [] []] (lb (eqP p a b)) [] := by
  refine a5o (pins := []) (by kernel_rfl) rfl rfl rfl rfl ?_
  by_cases hl : a.length = b.length
  · have hl' : (a.length : Int) = b.length := by omega
    simp (disch := omega) [go_sem, a2a, hl']
    refine a0u Nat (fun i st => i ≤ a.length ∧ eqP p (a.drop i) (b.drop i) = eqP p a b ∧ st.s 0 = slT a ∧ st.s 1 = slT b ∧ st.s 2 = .fn f [] [] ∧ st.s 15 = slT a ∧ st.s 16 = li a.length ∧ st.s 17 = li i) (fun i => a.length - i) 0 ⟨by simp, rfl, by simp (disch := omega) [go_sem, hl']⟩ ?_
    rintro i st K ⟨hi, hm, h⟩ hK
    by_cases hlt : i < a.length
    · have hlt2 : i < b.length := by omega
      rw [c00 hlt hlt2] at hm
      simp (disch := omega) [go_sem, a10, h, hlt, hlt2, hf]
      refine a0o (hp _ (List.getElem_mem hlt) _ (List.getElem_mem hlt2)) rfl rfl rfl rfl ?_
      cases k : p a[i] b[i] with
      | true =>
        rw [k, Bool.true_and] at hm
        simp (disch := omega) [go_sem, h]
        exact hK (i + 1) _ ⟨by omega, hm, by simp (disch := omega) [go_sem, h]⟩ (by omega)
      | false =>
        rw [k, Bool.false_and] at hm
        simp (disch := omega) [go_sem, h, ← hm]
    · obtain rfl : i = a.length := by omega
      rw [List.drop_length, hl, List.drop_length, eqP] at hm
      simp (disch := omega) [go_sem, a10, h, ← hm]
  · have hl' : ¬ (a.length : Int) = b.length := by omega
    simp (disch := omega) [go_sem, a2a, hl', c5u hl]
theorem h08 {f : FuncId} (hf : fnB pg f = true) {p : Ds → Ds → Bool} (a b : List Ds) (hp : ∀ x ∈ a, ∀ y ∈ b, ACallsX pg G f [.agg (eD x), .agg (eD y)] (lb (p x y)) []) (ha : a.length < 2 ^ 62) (hb : b.length < 2 ^ 62) : ACallsX pg G b0j [slD a, slD b, .fn f [] []] (lb (eqP p a b)) [] := by
  refine a6i (pins := []) (by kernel_rfl) rfl rfl rfl rfl ?_
  by_cases hl : a.length = b.length
  · have hl' : (a.length : Int) = b.length := by omega
    simp (disch := omega) [go_sem, a2u, hl']
    refine a0u Nat (fun i st => i ≤ a.length ∧ eqP p (a.drop i) (b.drop i) = eqP p a b ∧ st.s 0 = slD a ∧ st.s 1 = slD b ∧ st.s 2 = .fn f [] [] ∧ st.s 15 = slD a ∧ st.s 16 = li a.length ∧ st.s 17 = li i) (fun i => a.length - i) 0 ⟨by simp, rfl, by simp (disch := omega) [go_sem, hl']⟩ ?_
    rintro i st K ⟨hi, hm, h⟩ hK
    by_cases hlt : i < a.length
    · have hlt2 : i < b.length := by omega
      rw [c00 hlt hlt2] at hm
      simp (disch := omega) [go_sem, a2f, h, hlt, hlt2, hf]
      refine a0o (hp _ (List.getElem_mem hlt) _ (List.getElem_mem hlt2)) rfl rfl rfl rfl ?_
      cases k : p a[i] b[i] with
      | true =>
        rw [k, Bool.true_and] at hm
        simp (disch := omega) [go_sem, h]
        exact hK (i + 1) _ ⟨by omega, hm, by simp (disch := omega) [go_sem, h]⟩ (by omega)
      | false =>
        rw [k, Bool.false_and] at hm
        simp (disch := omega) [go_sem, h, ← hm]
    · obtain rfl : i = a.length := by omega
      rw [List.drop_length, hl, List.drop_length, eqP] at hm
      simp (disch := omega) [go_sem, a2f, h, ← hm]
  · have hl' : ¬ (a.length : Int) = b.length := by omega
    simp (disch := omega) [go_sem, a2u, hl', c5u hl]
theorem h2b {f : FuncId} (hf : fnB pg f = true) {p : In → In → Bool} (a b : List In) (hp : ∀ x ∈ a, ∀ y ∈ b, ACallsX pg G f [.agg (eI x), .agg (eI y)] (lb (p x y)) []) (ha : a.length < 2 ^ 62) (hb : b.length < 2 ^ 62) : ACallsX pg G a9a [slJ a, slJ b, .fn f [] []] (lb (eqP p a b)) [] := by
  refine a56 (pins := []) (by kernel_rfl) rfl rfl rfl rfl ?_
  by_cases hl : a.length = b.length
  · have hl' : (a.length : Int) = b.length := by omega
    simp (disch := omega) [go_sem, a2k, hl']
    refine a0u Nat (fun i st => i ≤ a.length ∧ eqP p (a.drop i) (b.drop i) = eqP p a b ∧ st.s 0 = slJ a ∧ st.s 1 = slJ b ∧ st.s 2 = .fn f [] [] ∧ st.s 15 = slJ a ∧ st.s 16 = li a.length ∧ st.s 17 = li i) (fun i => a.length - i) 0 ⟨by simp, rfl, by simp (disch := omega) [go_sem, hl']⟩ ?_
    rintro i st K ⟨hi, hm, h⟩ hK
    by_cases hlt : i < a.length
    · have hlt2 : i < b.length := by omega
      rw [c00 hlt hlt2] at hm
      simp (disch := omega) [go_sem, a18, h, hlt, hlt2, hf]
      refine a0o (hp _ (List.getElem_mem hlt) _ (List.getElem_mem hlt2)) rfl rfl rfl rfl ?_
      cases k : p a[i] b[i] with
      | true =>
        rw [k, Bool.true_and] at hm
        simp (disch := omega) [go_sem, h]
        exact hK (i + 1) _ ⟨by omega, hm, by simp (disch := omega) [go_sem, h]⟩ (by omega)
      | false =>
        rw [k, Bool.false_and] at hm
        simp (disch := omega) [go_sem, h, ← hm]
    · obtain rfl : i = a.length := by omega
      rw [List.drop_length, hl, List.drop_length, eqP] at hm
      simp (disch := omega) [go_sem, a18, h, ← hm]
  · have hl' : ¬ (a.length : Int) = b.length := by omega
    simp (disch := omega) [go_sem, a2k, hl', c5u hl]
theorem d9l (a b : Ds) (ha : a.shape.length < 2 ^ 62) (hb : b.shape.length < 2 ^ 62) : ACalls pg G d40 [.agg (eD a), .agg (eD b)] (lb (decide (a = b))) := by
  refine c4m rfl ?_
  obtain ⟨s1, w1⟩ := a
  obtain ⟨s2, w2⟩ := b
  by_cases k : w1 = w2
  · simp (disch := omega) [go_sem, b3g, eD, k]
    refine a0g (c3z s1 s2 ha hb) rfl rfl ?_
    simp (disch := omega) [go_sem, Ds.mk.injEq, k]
  · simp (disch := omega) [go_sem, b3g, eD, k, Ds.mk.injEq]
theorem f0k (a b : Tn) (ha : a.shape.length < 2 ^ 62) (hb : b.shape.length < 2 ^ 62) (ha2 : a.data.length < 2 ^ 62) (hb2 : b.data.length < 2 ^ 62) : ACalls pg G e0r [.agg (eT a), .agg (eT b)] (lb (decide (a = b))) := by
  refine c6x rfl ?_
  obtain ⟨s1, w1, d1⟩ := a
  obtain ⟨s2, w2, d2⟩ := b
  simp (disch := omega) [go_sem, c5n, eT]
  refine a0g (d9l ⟨s1, w1⟩ ⟨s2, w2⟩ ha hb) rfl rfl ?_
  by_cases k : (⟨s1, w1⟩ : Ds) = ⟨s2, w2⟩
  · simp (disch := omega) [go_sem, k]
    refine a0g (c3z d1 d2 ha2 hb2) rfl rfl ?_
    obtain ⟨rfl, rfl⟩ : s1 = s2 ∧ w1 = w2 := by simpa using k
    simp (disch := omega) [go_sem, Tn.mk.injEq]
  · simp (disch := omega) [go_sem, k]
    exact fun h1 h2 _ => k (by rw [h1, h2])
theorem f1d (a b : Vw) (ha : a.shape.length < 2 ^ 62) (hb : b.shape.length < 2 ^ 62) : ACalls pg G 33 [.agg (eV a), .agg (eV b)] (lb (decide (a = b))) := by
  refine c3u rfl ?_
  obtain ⟨o1, s1, w1⟩ := a
  obtain ⟨o2, s2, w2⟩ := b
  by_cases k : o1 = o2
  · simp (disch := omega) [go_sem, b1h, eV, k]
    refine a0g (d9l ⟨s1, w1⟩ ⟨s2, w2⟩ ha hb) rfl rfl ?_
    simp (disch := omega) [go_sem, Vw.mk.injEq, k, Ds.mk.injEq]
  · simp (disch := omega) [go_sem, b1h, eV, k, Vw.mk.injEq]
theorem f2e (a b : In) (ha : a.ins.length < 2 ^ 62) (hb : b.ins.length < 2 ^ 62) (ha2 : a.args.length < 2 ^ 62) (hb2 : b.args.length < 2 ^ 62) : ACalls pg G c3h [.agg (eI a), .agg (eI b)] (lb (decide (a = b))) := by
  refine b76 rfl ?_
  obtain ⟨o1, d1, i1, a1, f1, t1⟩ := a
  obtain ⟨o2, d2, i2, a2, f2, t2⟩ := b
  simp only at ha hb ha2 hb2
  by_cases k1 : o1 = o2
  · subst k1
    by_cases k2 : d1 = d2
    · subst k2
      simp (disch := omega) [go_sem, a33, eI]
      refine a0g (c3z i1 i2 ha hb) rfl rfl ?_
      by_cases k3 : i1 = i2
      · subst k3
        simp (disch := omega) [go_sem]
        refine a0g (c3z a1 a2 ha2 hb2) rfl rfl ?_
        by_cases k4 : a1 = a2
        · subst k4
          by_cases k5 : f1 = f2
          · subst k5
            by_cases k6 : t1 = t2 <;> simp (disch := omega) [go_sem, k6, In.mk.injEq]
          · simp (disch := omega) [go_sem, k5, In.mk.injEq]
        · simp (disch := omega) [go_sem, k4, In.mk.injEq]
      · simp (disch := omega) [go_sem, k3, In.mk.injEq]
    · simp (disch := omega) [go_sem, a33, eI, k2, In.mk.injEq]
  · simp (disch := omega) [go_sem, a33, eI, k1, In.mk.injEq]
structure Pl.fin (p : Pl) : Prop where
  vl : p.views.length < 2 ^ 62
  cl : p.consts.length < 2 ^ 62
  wl : p.weights.length < 2 ^ 62
  il : p.code.length < 2 ^ 62
  vs : ∀ x ∈ p.views, x.shape.length < 2 ^ 62
  cs : ∀ x ∈ p.consts, x.shape.length < 2 ^ 62 ∧ x.data.length < 2 ^ 62
  ws : ∀ x ∈ p.weights, x.shape.length < 2 ^ 62
  is : ∀ x ∈ p.code, x.ins.length < 2 ^ 62 ∧ x.args.length < 2 ^ 62
theorem f01 (p q : Pl) (hp : p.fin) (hq : q.fin) : ACalls pg G d91 [.agg (eP p), .agg (eP q)] (lb (decide (p = q))) := by
  refine c79 rfl ?_
  have c1 := g9k (G := G) (f := 33) c4s (p := fun x y => decide (x = y)) p.views q.views (fun x hx y hy => (f1d x y (hp.vs x hx) (hq.vs y hy)).toX (by simp [a0k])) hp.vl hq.vl
  have c2 := h2a (G := G) (f := 37) d1m (p := fun x y => decide (x = y)) p.consts q.consts (fun x hx y hy => (f0k x y (hp.cs x hx).1 (hq.cs y hy).1 (hp.cs x hx).2 (hq.cs y hy).2).toX (by simp [a0k])) hp.cl hq.cl
  have c3 := h08 (G := G) (f := 34) c60 (p := fun x y => decide (x = y)) p.weights q.weights (fun x hx y hy => (d9l x y (hp.ws x hx) (hq.ws y hy)).toX (by simp [a0k])) hp.wl hq.wl
  have c4 := h2b (G := G) (f := 40) c07 (p := fun x y => decide (x = y)) p.code q.code (fun x hx y hy => (f2e x y (hp.is x hx).1 (hq.is y hy).1 (hp.is x hx).2 (hq.is y hy).2).toX (by simp [a0k])) hp.il hq.il
  rw [e52 fun _ _ _ _ => rfl] at c1 c2 c3 c4
  obtain ⟨s1, v1, k1, w1, i1, p1, o1⟩ := p
  obtain ⟨s2, v2, k2, w2, i2, p2, o2⟩ := q
  simp only at c1 c2 c3 c4
  clear hp hq
  by_cases e1 : s1 = s2
  · subst e1
    by_cases e2 : p1 = p2
    · subst e2
      by_cases e3 : o1 = o2
      · subst e3
        simp (disch := omega) [go_sem, a6r, eP]
        refine a0o c1 rfl rfl rfl rfl ?_
        by_cases e4 : v1 = v2
        · subst e4
          simp (disch := omega) [go_sem]
          refine a0o c2 rfl rfl rfl rfl ?_
          by_cases e5 : k1 = k2
          · subst e5
            simp (disch := omega) [go_sem]
            refine a0o c3 rfl rfl rfl rfl ?_
            by_cases e6 : w1 = w2
            · subst e6
              simp (disch := omega) [go_sem]
              refine a0o c4 rfl rfl rfl rfl ?_
              by_cases e7 : i1 = i2 <;> simp (disch := omega) [go_sem, e7, Pl.mk.injEq]
            · simp (disch := omega) [go_sem, e6, Pl.mk.injEq]
          · simp (disch := omega) [go_sem, e5, Pl.mk.injEq]
        · simp (disch := omega) [go_sem, e4, Pl.mk.injEq]
      · simp (disch := omega) [go_sem, a6r, eP, e3, Pl.mk.injEq]
    · simp (disch := omega) [go_sem, a6r, eP, e2, Pl.mk.injEq]
  · simp (disch := omega) [go_sem, a6r, eP, e1, Pl.mk.injEq]
end
end Go.Ideal.Tryz
end
section
set_option linter.unusedVariables false
set_option linter.unusedSimpArgs false
set_option maxRecDepth 100000
namespace Go.Ideal.Tryz
open Go.RowKit Go.Extern.Stop Go.Stop Go.Extern Go.Proofs
theorem e1l (v : Value) (w : World) : (Extern.ReflectliteType.typeOf #[.iface 146 v]).run Go.Proofs.Tryz.prog w = .ok (.iface 136 (.agg #[.pointer (some ⟨21, 146, none⟩)])) w := by kernel_rfl
theorem c2v (w : World) : ((Extern.ReflectliteType.method fun t => do Go.Extern.Rtype.noPackHeld "Comparable" t; (fun a => Value.bool a.comparable) <$> typeInfo t) #[.agg #[.pointer (some ⟨21, 146, none⟩)]]).run Go.Proofs.Tryz.prog w = .ok (.bool true) w := by kernel_rfl
theorem a7r (v : Value) (w : World) : (Go.method 282 136 v "Comparable").run Go.Proofs.Tryz.prog w = .ok (110, v) w := by kernel_rfl
theorem e86 : (Go.Proofs.Tryz.prog.info? 146).map (·.comparable) = some true := by kernel_rfl
theorem e9e : (Go.Proofs.Tryz.prog.info? 170).map (·.size) = some 1 := by kernel_rfl
theorem g80 (v : Value) (xT : TypeId) (w : World) : (Instr.typeAssert (.iface 146 v) xT 138 true).run Go.Proofs.Tryz.prog w = .ok (.tuple #[.nilIface, .bool false]) w := run_typeAssert_lacksB Go.Proofs.Tryz.underlying138 (by kernel_rfl) (by kernel_rfl) v xT w
theorem e5w (v : Value) (xT : TypeId) (w : World) : (Instr.typeAssert (.iface 146 v) xT 141 true).run Go.Proofs.Tryz.prog w = .ok (.tuple #[.nilIface, .bool false]) w := run_typeAssert_lacksB Go.Proofs.Tryz.underlying141 (by kernel_rfl) (by kernel_rfl) v xT w
theorem e2j (v : Value) (xT : TypeId) (w : World) : (Instr.typeAssert (.iface 146 v) xT 142 true).run Go.Proofs.Tryz.prog w = .ok (.tuple #[.nilIface, .bool false]) w := run_typeAssert_lacksB Go.Proofs.Tryz.underlying142 (by kernel_rfl) (by kernel_rfl) v xT w
theorem f2b (a : Addr) (w : World) :
    Calls Go.Proofs.Tryz.prog 66 #[.iface 146 (.pointer (some a)), .iface 146 (.pointer (some a))] w fun e w' => e = .returned (.bool true) ∧ w' = w := by
  obtain ⟨i, hi, hcmp⟩ := Option.map_eq_some_iff.1 e86
  obtain ⟨j, hj, hjs⟩ := Option.map_eq_some_iff.1 e9e
  have h8 := @run_callFunc_extern Go.Proofs.Tryz.prog 80 _ Extern.ReflectliteType.typeOf Go.Proofs.Tryz.func80 (by kernel_rfl) (by kernel_rfl) (by kernel_rfl) (by kernel_rfl)
  have h32 := @run_callFunc_extern Go.Proofs.Tryz.prog 110 _ (Extern.ReflectliteType.method fun t => do Go.Extern.Rtype.noPackHeld "Comparable" t; pure (.bool (← typeInfo t).comparable)) Go.Proofs.Tryz.func110 (by kernel_rfl) (by kernel_rfl) (by kernel_rfl) (by kernel_rfl)
  have tT := e1l
  have cT := c2v
  have mR := a7r
  have heq := run_eql_iface_ptr_same (P := Go.Proofs.Tryz.prog) w a Go.Proofs.Tryz.underlying32 Go.Proofs.Tryz.underlying146 hi hcmp hj
  go_enter Go.Proofs.Tryz.func66, Go.Proofs.Tryz.ntmps66
  go_wp2
  refine wp_loop_rounds 1 ?_
  rw [rounds_succ]
  go_wp2
  go_ret
  exact ⟨rfl, rfl⟩
theorem g19 (b : Addr) (w : World) :
    Calls Go.Proofs.Tryz.prog 66 #[.nilIface, .iface 146 (.pointer (some b))] w fun e w' => e = .returned (.bool false) ∧ w' = w := by
  have hn := run_eql_iface_nil_left (P := Go.Proofs.Tryz.prog) w 146 (.pointer (some b)) Go.Proofs.Tryz.underlying32
  go_enter Go.Proofs.Tryz.func66, Go.Proofs.Tryz.ntmps66
  go_wp2
  go_ret
  exact ⟨rfl, rfl⟩
theorem e67 (a b : Addr) (ca cb : Array Value) (ta tb : TypeId) (w : World) (hne : a ≠ b) (ha : w.heap[a.block]? = some (.cells ca ta (0, 0))) (hb : w.heap[b.block]? = some (.cells cb tb (0, 0))) :
    Calls Go.Proofs.Tryz.prog 66 #[.iface 146 (.pointer (some a)), .iface 146 (.pointer (some b))] w fun e w' => e = .returned (.bool false) ∧ w' = w := by
  obtain ⟨i, hi, hcmp⟩ := Option.map_eq_some_iff.1 e86
  obtain ⟨j, hj, hjs⟩ := Option.map_eq_some_iff.1 e9e
  have h8 := @run_callFunc_extern Go.Proofs.Tryz.prog 80 _ Extern.ReflectliteType.typeOf Go.Proofs.Tryz.func80 (by kernel_rfl) (by kernel_rfl) (by kernel_rfl) (by kernel_rfl)
  have h32 := @run_callFunc_extern Go.Proofs.Tryz.prog 110 _ (Extern.ReflectliteType.method fun t => do Go.Extern.Rtype.noPackHeld "Comparable" t; pure (.bool (← typeInfo t).comparable)) Go.Proofs.Tryz.func110 (by kernel_rfl) (by kernel_rfl) (by kernel_rfl) (by kernel_rfl)
  have tT := e1l
  have cT := c2v
  have mR := a7r
  have nE := g80
  have uE := e5w
  have vE := e2j
  have heq := run_eql_iface_ptr_other (P := Go.Proofs.Tryz.prog) w Go.Proofs.Tryz.underlying32 Go.Proofs.Tryz.underlying146 hi hcmp hj (by rw [hjs]; decide) hne ha hb
  go_enter Go.Proofs.Tryz.func66, Go.Proofs.Tryz.ntmps66
  go_wp2
  refine wp_loop_rounds 1 ?_
  rw [rounds_succ]
  go_wp2
  go_ret
  exact ⟨rfl, rfl⟩
theorem g0e {G : Nat → Option Value} {bk : Nat → Nat × Nat} (hS : Sent5 G bk) {e : Er} (he : e = .nil ∨ ∃ g, (2 ≤ g ∧ g ≤ 6) ∧ e = .s g) {k : Nat} (hk : 2 ≤ k ∧ k ≤ 6) : ACalls pg G 66 [a1j bk e, sv bk k] (lb (match e with | .s g => decide (g = k) | _ => false)) := by
  intro w args A ow hsz hA how hG hpre
  obtain ⟨l⟩ := args
  match l, hsz with
  | [x, y], _ =>
    have h0 := hpre 0 _ rfl
    have h1 := hpre 1 _ rfl
    have hx : (Array.mk [x, y]).getD 0 undef = x := rfl
    have hy : (Array.mk [x, y]).getD 1 undef = y := rfl
    rw [hx] at h0
    rw [hy] at h1
    simp only [R] at h1
    have ret : ∀ b : Bool, Ret w A (fun b => ow b ≠ none) w (lb b) (.bool b) := fun b => ⟨Nat.le_refl _, rfl, rfl, rfl, fun _ _ _ => rfl, noB, fun _ h => h.elim, by simp only [R]⟩
    rcases he with rfl | ⟨g, hg, rfl⟩
    · simp only [a1j, R] at h0
      subst h0 h1
      refine (g19 _ w).mono ?_
      rintro e w' ⟨rfl, rfl⟩
      exact ⟨_, rfl, ret false⟩
    · simp only [a1j, R] at h0
      subst h0 h1
      by_cases hgk : g = k
      · subst hgk
        refine (f2b _ w).mono ?_
        rintro e w' ⟨rfl, rfl⟩
        simp only [decide_true]
        exact ⟨_, rfl, ret true⟩
      · have key : ∀ g, 2 ≤ g ∧ g ≤ 6 → ∃ c t, w.heap[(bk g).1]? = some (.cells c t (0, 0)) := fun g hg => by
          obtain ⟨v, hv⟩ := Option.isSome_iff_exists.1 (hS.blk g hg)
          obtain ⟨c, t, hc, _⟩ := (hG _ v hv).1
          exact ⟨c, t, hc⟩
        obtain ⟨c1, t1, e1⟩ := key g hg
        obtain ⟨c2, t2, e2⟩ := key k hk
        refine (e67 ⟨(bk g).1, (bk g).2, none⟩ ⟨(bk k).1, (bk k).2, none⟩ c1 c2 t1 t2 w (fun he => hgk (hS.inj g k hg hk (by
          simp only [Addr.mk.injEq, and_true] at he
          exact Prod.ext he.1 he.2))) e1 e2).mono ?_
        rintro e w' ⟨rfl, rfl⟩
        simp only [hgk, decide_false]
        exact ⟨_, rfl, ret false⟩
end Go.Ideal.Tryz
end
