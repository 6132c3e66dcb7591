/- Part Qai of the proof: walks on a machine that is proved sound. -/
import Derived.Test.YtfncabcldhemkaaGreatDoorQah
set_option linter.unusedVariables false
set_option linter.unusedSimpArgs false
set_option maxHeartbeats 4000000
set_option maxRecDepth 10000
section
namespace Go.Ideal.Tryz
def a9w:IC:=(.seq (.reg [oo 1 (.box 76 2 (.t 0)),
 oo 2 (.asg (.n 0))]) (.seq (.reg [oo 4 (.faddr 76 0 (.t 1) 0),
 oo 5 (.load 74 none (.t 4)),
 oc 6 49 [(false,(.t 5))] [74],
 oo 3 (.asg (.t 6))]) (.seq (.seq (.reg [oo 7 (.faddr 76 1 (.t 1) 1),
 oo 8 (.load 4 none (.t 7))]) (.cond (.t 8) (.reg [om 9 3,
 oo 10 (.bin .mul 3 0 (.t 9) (.n 4) 3),
 oo 3 (.asg (.t 10))]) .skip)) (.seq (.reg [om 11 3,
 oo 2 (.asg (.t 11))]) .ret))))
abbrev b53:Nat:=40
theorem b2u:fnC pg 40 12 [(.tmp 2)] a9w:=a0s Go.Proofs.Tryz.f40 [(.tmp 2)] (by kernel_rfl)
abbrev a71:Nat:=59
def b9g:IC:=(.seq (.reg [oo 2 (.asg (.c (.bool false)))]) (.seq (.reg [om 3 0,
 oo 4 (.bin .geq 3 0 (.t 3) (.n 4) 3),
 om 5 4,
 og 6 (.mv (.t 0)) 2 5 true,
 og 7 (.bin .leq 3 0 (.t 6) (.n 21) 3) 2 5 true,
 oo 8 (.pick (.t 5) (.t 7) (.c (.bool false))),
 oo 2 (.asg (.t 8))]) .ret))
abbrev c6v:Nat:=137
theorem c0q:fnC pg 137 9 [(.tmp 2)] b9g:=a0s Go.Proofs.Tryz.f137 [(.tmp 2)] (by kernel_rfl)
def c0p:IC:=(.seq (.reg [oo 2 (.asg (.n 0))]) (.seq (.seq (.reg [om 3 0]) (.block 0 (.seq (.seq (.reg [oo 5 (.bin .eql 3 0 (.t 3) (.n 4) 3),
 oo 4 (.asg (.t 5))]) (.cond (.t 4) .skip (.seq (.reg [oo 6 (.bin .eql 3 0 (.t 3) (.n 5) 3),
 oo 4 (.asg (.t 6))]) (.cond (.t 4) .skip (.seq (.reg [oo 7 (.bin .eql 3 0 (.t 3) (.n 6) 3),
 oo 4 (.asg (.t 7))]) (.cond (.t 4) .skip (.seq (.reg [oo 8 (.bin .eql 3 0 (.t 3) (.n 7) 3),
 oo 4 (.asg (.t 8))]) (.cond (.t 4) .skip (.seq (.reg [oo 9 (.bin .eql 3 0 (.t 3) (.n 12) 3),
 oo 4 (.asg (.t 9))]) (.cond (.t 4) .skip (.seq (.reg [oo 10 (.bin .eql 3 0 (.t 3) (.n 13) 3),
 oo 4 (.asg (.t 10))]) (.cond (.t 4) .skip (.seq (.reg [oo 11 (.bin .eql 3 0 (.t 3) (.n 16) 3),
 oo 4 (.asg (.t 11))]) (.cond (.t 4) .skip (.reg [oo 12 (.bin .eql 3 0 (.t 3) (.n 17) 3),
 oo 4 (.asg (.t 12))]))))))))))))))) (.cond (.t 4) (.seq (.reg [oo 2 (.asg (.n 2))]) .ret) .skip)))) (.seq (.seq (.reg [om 13 0,
 oc 14 137 [(false,(.t 13))] [3]]) (.cond (.t 14) (.seq (.reg [oo 2 (.asg (.n 1))]) .ret) .skip)) (.seq (.reg [oo 2 (.asg (.n 0))]) .ret))))
abbrev d1k:Nat:=159
theorem c45:fnC pg 159 15 [(.tmp 2)] c0p:=a0s Go.Proofs.Tryz.f159 [(.tmp 2)] (by kernel_rfl)
def b7s:IC:=(.seq (.reg [oo 2 (.asg (.n 0))]) (.seq (.seq (.reg [om 3 0]) (.block 0 (.seq (.seq (.reg [oo 5 (.bin .eql 3 0 (.t 3) (.n 9) 3),
 oo 4 (.asg (.t 5))]) (.cond (.t 4) .skip (.seq (.reg [oo 6 (.bin .eql 3 0 (.t 3) (.n 12) 3),
 oo 4 (.asg (.t 6))]) (.cond (.t 4) .skip (.seq (.reg [oo 7 (.bin .eql 3 0 (.t 3) (.n 14) 3),
 oo 4 (.asg (.t 7))]) (.cond (.t 4) .skip (.reg [oo 8 (.bin .eql 3 0 (.t 3) (.n 15) 3),
 oo 4 (.asg (.t 8))]))))))) (.cond (.t 4) (.seq (.reg [oo 2 (.asg (.n 2))]) .ret) (.seq (.seq (.reg [oo 10 (.bin .eql 3 0 (.t 3) (.n 10) 3),
 oo 9 (.asg (.t 10))]) (.cond (.t 9) .skip (.reg [oo 11 (.bin .eql 3 0 (.t 3) (.n 13) 3),
 oo 9 (.asg (.t 11))]))) (.cond (.t 9) (.seq (.reg [oo 2 (.asg (.n 3))]) .ret) (.seq (.reg [oo 13 (.bin .eql 3 0 (.t 3) (.n 11) 3),
 oo 12 (.asg (.t 13))]) (.cond (.t 12) (.seq (.reg [oo 2 (.asg (.n 1))]) .ret) .skip)))))))) (.seq (.reg [oo 2 (.asg (.n 0))]) .ret)))
abbrev c8d:Nat:=160
theorem c3a:fnC pg 160 14 [(.tmp 2)] b7s:=a0s Go.Proofs.Tryz.f160 [(.tmp 2)] (by kernel_rfl)
def b7t:IC:=(.seq (.reg [oo 6 (.alloc 76 [.own 1 0 [],.lit (.bool false)]),
 oo 7 (.asg (.c .nilIface))]) (.seq (.seq (.reg [om 8 0,
 oc 9 137 [(false,(.t 8))] [3],
 oo 10 (.un .not 4 (.t 9))]) (.cond (.t 10) (.seq (.draw [oo 11 (.build 76 [.sl 0 [],.lit (.bool false)] []),
 oo 12 (.load 35 none (.g 2)),
 ov (.store 76 2 (.t 6) (.t 11)),
 oo 7 (.asg (.t 12))] [[],[],[0,0],[1,2,0,1,2]]) .ret) .skip)) (.seq (.seq (.reg [om 13 2,
 oo 14 (.len 24 false (.t 13)),
 om 15 0,
 oc 16 159 [(false,(.t 15))] [3],
 oo 17 (.bin .neq 3 0 (.t 14) (.t 16) 3),
 om 18 17,
 og 19 (.mv (.t 0)) 5 18 false,
 og 20 (.bin .neq 3 0 (.t 19) (.n 18) 3) 5 18 false,
 og 21 (.mv (.t 20)) 5 18 false,
 og 22 (.mv (.t 1)) 8 21 true,
 og 23 (.len 74 false (.t 22)) 8 21 true,
 og 24 (.mv (.t 0)) 8 21 true,
 ⟨(some 25),.call 160 [(false,(.t 24))] [3],(some (8,21,true))⟩,
 og 26 (.bin .neq 3 0 (.t 23) (.t 25) 3) 8 21 true,
 og 27 (.pick (.t 21) (.t 26) (.c (.bool false))) 5 18 false,
 oo 28 (.pick (.t 18) (.c (.bool true)) (.t 27))]) (.cond (.t 28) (.seq (.draw [oo 29 (.build 76 [.sl 0 [],.lit (.bool false)] []),
 oo 30 (.load 35 none (.g 6)),
 ov (.store 76 2 (.t 6) (.t 29)),
 oo 7 (.asg (.t 30))] [[],[],[0,0],[1,2,0,1,2]]) .ret) .skip)) (.seq (.seq (.reg [om 31 0]) (.block 0 (.seq (.reg [oo 33 (.bin .eql 3 0 (.t 31) (.n 12) 3),
 oo 32 (.asg (.t 33))]) (.cond (.t 32) (.seq (.draw [om 34 1,
 oo 35 (.iaddr 74 1 (.t 34) (.n 0)),
 oo 36 (.load 3 none (.t 35)),
 om 37 1,
 oo 38 (.iaddr 74 1 (.t 37) (.n 1)),
 oo 39 (.load 3 none (.t 38)),
 om 40 2,
 oo 41 (.iaddr 24 2 (.t 40) (.n 0)),
 oo 42 (.load 76 (some 2) (.t 41)),
 om 43 2,
 oo 44 (.iaddr 24 2 (.t 43) (.n 1)),
 oo 45 (.load 76 (some 2) (.t 44)),
 oc 46 161 [(false,(.t 36)),(false,(.t 39)),(false,(.t 42)),(false,(.t 45))] [3,3,76,76],
 oo 47 (.ext (.t 46) 0),
 oo 48 (.ext (.t 46) 1),
 ov (.store 76 2 (.t 6) (.t 47)),
 oo 7 (.asg (.t 48))] [[],[0],[1],[],[3],[4],[],[6],[7],[],[9],[10],[2,5,8,11],[12],[12],[13,12,0,1,2,3,4,5,6,7,8,9,10,11,12,13,14],[14,15,0,1,2,3,4,5,6,7,8,9,10,11,12,13,14,15]]) .ret) (.seq (.reg [oo 50 (.bin .eql 3 0 (.t 31) (.n 13) 3),
 oo 49 (.asg (.t 50))]) (.cond (.t 49) (.seq (.draw [om 51 1,
 om 52 2,
 oo 53 (.iaddr 24 2 (.t 52) (.n 0)),
 oo 54 (.load 76 (some 2) (.t 53)),
 om 55 2,
 oo 56 (.iaddr 24 2 (.t 55) (.n 1)),
 oo 57 (.load 76 (some 2) (.t 56)),
 oc 58 162 [(false,(.t 51)),(false,(.t 54)),(false,(.t 57))] [74,76,76],
 oo 59 (.ext (.t 58) 0),
 oo 60 (.ext (.t 58) 1),
 ov (.store 76 2 (.t 6) (.t 59)),
 oo 7 (.asg (.t 60))] [[],[],[1],[2],[],[4],[5],[0,3,6],[7],[7],[8,7,0,1,2,3,4,5,6,7,8,9],[9,10,0,1,2,3,4,5,6,7,8,9,10]]) .ret) (.seq (.seq (.reg [oo 62 (.bin .eql 3 0 (.t 31) (.n 14) 3),
 oo 61 (.asg (.t 62))]) (.cond (.t 61) .skip (.reg [oo 63 (.bin .eql 3 0 (.t 31) (.n 15) 3),
 oo 61 (.asg (.t 63))]))) (.cond (.t 61) (.seq (.reg [om 64 1,
 om 65 2,
 oo 66 (.iaddr 24 2 (.t 65) (.n 0)),
 oo 67 (.load 76 (some 2) (.t 66)),
 oc 68 163 [(false,(.t 64)),(false,(.t 67))] [74,76],
 oo 69 (.ext (.t 68) 0),
 oo 70 (.ext (.t 68) 1),
 ov (.store 76 2 (.t 6) (.t 69)),
 oo 7 (.asg (.t 70))]) .ret) (.seq (.seq (.reg [oo 72 (.bin .eql 3 0 (.t 31) (.n 16) 3),
 oo 71 (.asg (.t 72))]) (.cond (.t 71) .skip (.seq (.reg [oo 73 (.bin .eql 3 0 (.t 31) (.n 19) 3),
 oo 71 (.asg (.t 73))]) (.cond (.t 71) .skip (.seq (.reg [oo 74 (.bin .eql 3 0 (.t 31) (.n 20) 3),
 oo 71 (.asg (.t 74))]) (.cond (.t 71) .skip (.reg [oo 75 (.bin .eql 3 0 (.t 31) (.n 17) 3),
 oo 71 (.asg (.t 75))]))))))) (.cond (.t 71) (.seq (.reg [om 76 0,
 om 77 2,
 oc 78 164 [(false,(.t 76)),(false,(.t 77))] [3,24],
 oo 79 (.ext (.t 78) 0),
 oo 80 (.ext (.t 78) 1),
 ov (.store 76 2 (.t 6) (.t 79)),
 oo 7 (.asg (.t 80))]) .ret) (.seq (.reg [oo 82 (.bin .eql 3 0 (.t 31) (.n 18) 3),
 oo 81 (.asg (.t 82))]) (.cond (.t 81) (.seq (.reg [om 83 1,
 om 84 2,
 oo 85 (.iaddr 24 2 (.t 84) (.n 0)),
 oo 86 (.load 76 (some 2) (.t 85)),
 oc 87 165 [(false,(.t 83)),(false,(.t 86))] [74,76],
 oo 88 (.ext (.t 87) 0),
 oo 89 (.ext (.t 87) 1),
 ov (.store 76 2 (.t 6) (.t 88)),
 oo 7 (.asg (.t 89))]) .ret) (.seq (.reg [oo 91 (.bin .eql 3 0 (.t 31) (.n 21) 3),
 oo 90 (.asg (.t 91))]) (.cond (.t 90) (.seq (.reg [om 92 2,
 oo 93 (.iaddr 24 2 (.t 92) (.n 0)),
 oo 94 (.load 76 (some 2) (.t 93)),
 oc 95 166 [(false,(.t 94))] [76],
 oo 96 (.ext (.t 95) 0),
 oo 97 (.ext (.t 95) 1),
 ov (.store 76 2 (.t 6) (.t 96)),
 oo 7 (.asg (.t 97))]) .ret) .skip)))))))))))))) (.seq (.reg [om 98 0,
 om 99 1,
 om 100 2,
 oc 101 167 [(false,(.t 98)),(false,(.t 99)),(false,(.t 100))] [3,74,24],
 oo 102 (.ext (.t 101) 0),
 oo 103 (.ext (.t 101) 1),
 ov (.store 76 2 (.t 6) (.t 102)),
 oo 7 (.asg (.t 103))]) .ret)))))
abbrev c3w:Nat:=139
theorem b8u:fnC pg 139 104 [(.cells 6 2),(.tmp 7)] b7t:=a0s Go.Proofs.Tryz.f139 [(.cell 6 76),(.tmp 7)] (by kernel_rfl)
def a5h:IC:=(.seq (.reg [oo 20 (.bin .lss 3 0 (.t 19) (.t 18) 3)]) (.seq (.cond (.t 20) .skip (.exit 0)) (.seq (.block 1 (.seq (.reg [oo 21 (.iaddr 24 2 (.t 17) (.t 19)),
 oo 22 (.load 76 (some 2) (.t 21)),
 oo 8 (.alloc 76 [.own 1 0 [],.lit (.bool false)]),
 ov (.store 76 2 (.t 8) (.t 22))]) (.seq (.reg [oo 23 (.load 76 (some 2) (.t 8)),
 oc 24 105 [(false,(.t 23))] [76],
 oo 9 (.asg (.t 24))]) (.seq (.reg [om 25 9,
 oo 26 (.bin .neq 35 2 (.t 25) (.c .nilIface) 35)]) (.cond (.t 26) (.seq (.reg [oo 27 (.build 76 [.sl 0 [],.lit (.bool false)] []),
 om 28 9,
 ov (.store 76 2 (.t 4) (.t 27)),
 oo 5 (.asg (.t 28))]) .ret) .skip))))) (.reg [oo 29 (.bin .add 3 0 (.t 19) (.n 1) 3),
 om 19 29]))))
def b5r:IC:=(.seq (.reg [oo 3 (.box 76 2 (.t 1)),
 oo 4 (.alloc 76 [.own 1 0 [],.lit (.bool false)]),
 oo 5 (.asg (.c .nilIface))]) (.seq (.draw [om 10 0,
 oc 11 123 [(false,(.t 10))] [74],
 oo 12 (.faddr 76 1 (.t 3) 1),
 oo 13 (.load 4 none (.t 12)),
 oo 14 (.build 76 [.own 1 0 [],.lit (.bool false)] [(0,0,1,(.t 11)),(1,1,1,(.t 13))]),
 oo 6 (.alloc 76 [.own 1 0 [],.lit (.bool false)]),
 ov (.store 76 2 (.t 6) (.t 14))] [[],[0],[],[2],[1,3],[],[5,4,1,0,1,2,3,4,5]]) (.seq (.seq (.reg [oo 15 (.load 76 (some 2) (.t 3)),
 oo 16 (.load 76 (some 2) (.t 6)),
 oo 17 (.bslice 24 76 2 2 [.own 1 0 [],.lit (.bool false)] [(0,(.t 15)),(1,(.t 16))]),
 oo 18 (.len 24 false (.t 17)),
 oo 19 (.mv (.n 0))]) (.block 0 (.loop a5h))) (.seq (.seq (.reg [oo 30 (.faddr 76 0 (.t 3) 0),
 oo 31 (.load 74 none (.t 30)),
 oc 32 99 [(false,(.t 31))] [74],
 om 33 0,
 oc 34 99 [(false,(.t 33))] [74],
 oo 35 (.bin .neq 3 0 (.t 32) (.t 34) 3)]) (.cond (.t 35) (.seq (.draw [oo 36 (.build 76 [.sl 0 [],.lit (.bool false)] []),
 oo 37 (.load 35 none (.g 6)),
 ov (.store 76 2 (.t 4) (.t 36)),
 oo 5 (.asg (.t 37))] [[],[],[0,0],[1,2,0,1,2]]) .ret) .skip)) (.seq (.reg [oo 38 (.load 76 (some 2) (.t 6)),
 ov (.store 76 2 (.t 4) (.t 38)),
 oo 5 (.asg (.c .nilIface))]) .ret)))))
abbrev c1j:Nat:=165
theorem b7u:fnC pg 165 39 [(.cells 4 2),(.tmp 5)] b5r:=a0s Go.Proofs.Tryz.f165 [(.cell 4 76),(.tmp 5)] (by kernel_rfl)
def b3w:IC:=(.seq (.reg [oo 1 (.box 76 2 (.t 0)),
 oo 2 (.alloc 76 [.own 1 0 [],.lit (.bool false)]),
 oo 3 (.asg (.c .nilIface))]) (.seq (.seq (.reg [oo 5 (.load 76 (some 2) (.t 1)),
 oc 6 105 [(false,(.t 5))] [76],
 oo 4 (.asg (.t 6))]) (.seq (.reg [om 7 4,
 oo 8 (.bin .neq 35 2 (.t 7) (.c .nilIface) 35)]) (.cond (.t 8) (.seq (.reg [oo 9 (.build 76 [.sl 0 [],.lit (.bool false)] []),
 om 10 4,
 ov (.store 76 2 (.t 2) (.t 9)),
 oo 3 (.asg (.t 10))]) .ret) .skip))) (.seq (.seq (.reg [oo 11 (.faddr 76 0 (.t 1) 0),
 oo 12 (.load 74 none (.t 11)),
 oo 13 (.len 74 false (.t 12)),
 oo 14 (.bin .neq 3 0 (.t 13) (.n 2) 3)]) (.cond (.t 14) (.seq (.draw [oo 15 (.build 76 [.sl 0 [],.lit (.bool false)] []),
 oo 16 (.load 35 none (.g 6)),
 ov (.store 76 2 (.t 2) (.t 15)),
 oo 3 (.asg (.t 16))] [[],[],[0,0],[1,2,0,1,2]]) .ret) .skip)) (.seq (.draw [oo 17 (.faddr 76 0 (.t 1) 0),
 oo 18 (.load 74 none (.t 17)),
 oo 19 (.iaddr 74 1 (.t 18) (.n 1)),
 oo 20 (.load 3 none (.t 19)),
 oo 21 (.faddr 76 0 (.t 1) 0),
 oo 22 (.load 74 none (.t 21)),
 oo 23 (.iaddr 74 1 (.t 22) (.n 0)),
 oo 24 (.load 3 none (.t 23)),
 oo 25 (.bslice 74 3 1 2 [.lit (.int .i64 0)] [(0,(.t 20)),(1,(.t 24))]),
 oo 26 (.faddr 76 1 (.t 1) 1),
 oo 27 (.load 4 none (.t 26)),
 oo 28 (.build 76 [.own 1 0 [],.lit (.bool false)] [(0,0,1,(.t 25)),(1,1,1,(.t 27))]),
 ov (.store 76 2 (.t 2) (.t 28)),
 oo 3 (.asg (.c .nilIface))] [[],[0],[1],[2],[],[4],[5],[6],[3,7],[],[9],[8,10],[11,0,1,2,3,4,5,6,7,8,9,10,11],[12,0,1,2,3,4,5,6,7,8,9,10,11,12]]) .ret))))
abbrev c8e:Nat:=166
theorem b03:fnC pg 166 29 [(.cells 2 2),(.tmp 3)] b3w:=a0s Go.Proofs.Tryz.f166 [(.cell 2 76),(.tmp 3)] (by kernel_rfl)
def a5g:IC:=(.seq (.reg [oo 20 (.bin .lss 3 0 (.t 19) (.t 18) 3)]) (.seq (.cond (.t 20) .skip (.exit 0)) (.seq (.block 1 (.seq (.reg [oo 21 (.iaddr 24 2 (.t 17) (.t 19)),
 oo 22 (.load 76 (some 2) (.t 21)),
 oo 11 (.alloc 76 [.own 1 0 [],.lit (.bool false)]),
 ov (.store 76 2 (.t 11) (.t 22))]) (.seq (.reg [oo 23 (.load 76 (some 2) (.t 11)),
 oc 24 105 [(false,(.t 23))] [76],
 oo 12 (.asg (.t 24))]) (.seq (.reg [om 25 12,
 oo 26 (.bin .neq 35 2 (.t 25) (.c .nilIface) 35)]) (.cond (.t 26) (.seq (.reg [oo 27 (.build 76 [.sl 0 [],.lit (.bool false)] []),
 om 28 12,
 ov (.store 76 2 (.t 8) (.t 27)),
 oo 9 (.asg (.t 28))]) .ret) .skip))))) (.reg [oo 29 (.bin .add 3 0 (.t 19) (.n 1) 3),
 om 19 29]))))
def b5l:IC:=(.seq (.reg [oo 6 (.box 76 2 (.t 2)),
 oo 7 (.box 76 2 (.t 3)),
 oo 8 (.alloc 76 [.own 1 0 [],.lit (.bool false)]),
 oo 9 (.asg (.c .nilIface))]) (.seq (.seq (.reg [oo 15 (.load 76 (some 2) (.t 6)),
 oo 16 (.load 76 (some 2) (.t 7)),
 oo 17 (.bslice 24 76 2 2 [.own 1 0 [],.lit (.bool false)] [(0,(.t 15)),(1,(.t 16))]),
 oo 18 (.len 24 false (.t 17)),
 oo 19 (.mv (.n 0))]) (.block 0 (.loop a5g))) (.seq (.seq (.draw [oo 30 (.faddr 76 0 (.t 6) 0),
 oo 31 (.load 74 none (.t 30)),
 oo 32 (.len 74 false (.t 31)),
 oo 33 (.bin .neq 3 0 (.t 32) (.n 2) 3),
 om 34 33,
 og 35 (.faddr 76 0 (.t 7) 0) 4 34 false,
 og 36 (.load 74 none (.t 35)) 4 34 false,
 og 37 (.len 74 false (.t 36)) 4 34 false,
 og 38 (.bin .neq 3 0 (.t 37) (.n 2) 3) 4 34 false,
 oo 39 (.pick (.t 34) (.c (.bool true)) (.t 38)),
 om 40 39,
 og 41 (.faddr 76 0 (.t 6) 0) 10 40 false,
 og 42 (.load 74 none (.t 41)) 10 40 false,
 og 43 (.iaddr 74 1 (.t 42) (.n 1)) 10 40 false,
 og 44 (.load 3 none (.t 43)) 10 40 false,
 og 45 (.faddr 76 0 (.t 7) 0) 10 40 false,
 og 46 (.load 74 none (.t 45)) 10 40 false,
 og 47 (.iaddr 74 1 (.t 46) (.n 0)) 10 40 false,
 og 48 (.load 3 none (.t 47)) 10 40 false,
 og 49 (.bin .neq 3 0 (.t 44) (.t 48) 3) 10 40 false,
 oo 50 (.pick (.t 40) (.c (.bool true)) (.t 49)),
 om 51 50,
 og 52 (.faddr 76 1 (.t 6) 1) 21 51 false,
 og 53 (.load 4 none (.t 52)) 21 51 false,
 oo 54 (.pick (.t 51) (.c (.bool true)) (.t 53)),
 om 55 54,
 og 56 (.faddr 76 1 (.t 7) 1) 25 55 false,
 og 57 (.load 4 none (.t 56)) 25 55 false,
 oo 58 (.pick (.t 55) (.c (.bool true)) (.t 57))] [[],[0],[1],[2],[3],[4],[5,4],[6,4],[7,4],[4,8],[9,4],[10],[11,10],[12,10],[13,10],[10],[15,10],[16,10],[17,10],[14,18,10],[10,19],[20,10],[21],[22,21],[21,23],[24,21],[25],[26,25],[25,27]]) (.cond (.t 58) (.seq (.draw [oo 59 (.build 76 [.sl 0 [],.lit (.bool false)] []),
 oo 60 (.load 35 none (.g 6)),
 ov (.store 76 2 (.t 8) (.t 59)),
 oo 9 (.asg (.t 60))] [[],[],[0,0],[1,2,0,1,2]]) .ret) .skip)) (.seq (.seq (.reg [om 61 0,
 oc 62 173 [(false,(.t 61))] [3],
 oo 63 (.un .not 4 (.t 62)),
 om 64 63,
 og 65 (.mv (.t 1)) 3 64 false,
 ⟨(some 66),.call 173 [(false,(.t 65))] [3],(some (3,64,false))⟩,
 og 67 (.un .not 4 (.t 66)) 3 64 false,
 oo 68 (.pick (.t 64) (.c (.bool true)) (.t 67))]) (.cond (.t 68) (.seq (.draw [oo 69 (.build 76 [.sl 0 [],.lit (.bool false)] []),
 oo 70 (.load 35 none (.g 3)),
 ov (.store 76 2 (.t 8) (.t 69)),
 oo 9 (.asg (.t 70))] [[],[],[0,0],[1,2,0,1,2]]) .ret) .skip)) (.seq (.draw [oo 71 (.faddr 76 0 (.t 6) 0),
 oo 72 (.load 74 none (.t 71)),
 oo 73 (.iaddr 74 1 (.t 72) (.n 0)),
 oo 74 (.load 3 none (.t 73)),
 oo 75 (.faddr 76 0 (.t 7) 0),
 oo 76 (.load 74 none (.t 75)),
 oo 77 (.iaddr 74 1 (.t 76) (.n 1)),
 oo 78 (.load 3 none (.t 77)),
 oo 79 (.bslice 74 3 1 2 [.lit (.int .i64 0)] [(0,(.t 74)),(1,(.t 78))]),
 oo 80 (.build 76 [.own 1 0 [],.lit (.bool false)] [(0,0,1,(.t 79)),(1,1,1,(.c (.bool true)))]),
 oo 13 (.alloc 76 [.own 1 0 [],.lit (.bool false)]),
 ov (.store 76 2 (.t 13) (.t 80))] [[],[0],[1],[2],[],[4],[5],[6],[3,7],[8],[],[10,9,0,1,2,3,4,5,6,7,8,9,10]]) (.seq (.seq (.reg [oo 81 (.load 76 (some 2) (.t 13)),
 oc 82 105 [(false,(.t 81))] [76],
 oo 14 (.asg (.t 82))]) (.seq (.reg [om 83 14,
 oo 84 (.bin .neq 35 2 (.t 83) (.c .nilIface) 35)]) (.cond (.t 84) (.seq (.reg [oo 85 (.build 76 [.sl 0 [],.lit (.bool false)] []),
 om 86 14,
 ov (.store 76 2 (.t 8) (.t 85)),
 oo 9 (.asg (.t 86))]) .ret) .skip))) (.seq (.reg [oo 87 (.load 76 (some 2) (.t 13)),
 ov (.store 76 2 (.t 8) (.t 87)),
 oo 9 (.asg (.c .nilIface))]) .ret)))))))
abbrev c1h:Nat:=161
theorem b7k:fnC pg 161 88 [(.cells 8 2),(.tmp 9)] b5l:=a0s Go.Proofs.Tryz.f161 [(.cell 8 76),(.tmp 9)] (by kernel_rfl)
def a4k:IC:=(.seq (.reg [oo 28 (.bin .lss 3 0 (.t 27) (.t 26) 3)]) (.seq (.cond (.t 28) .skip (.exit 0)) (.seq (.block 1 (.seq (.reg [oo 29 (.iaddr 24 2 (.t 25) (.t 27)),
 oo 30 (.load 76 (some 2) (.t 29)),
 oo 9 (.alloc 76 [.own 1 0 [],.lit (.bool false)]),
 ov (.store 76 2 (.t 9) (.t 30))]) (.seq (.reg [oo 31 (.load 76 (some 2) (.t 9)),
 oc 32 105 [(false,(.t 31))] [76],
 oo 10 (.asg (.t 32))]) (.seq (.reg [om 33 10,
 oo 34 (.bin .neq 35 2 (.t 33) (.c .nilIface) 35)]) (.cond (.t 34) (.seq (.reg [oo 35 (.build 76 [.sl 0 [],.lit (.bool false)] []),
 om 36 10,
 ov (.store 76 2 (.t 6) (.t 35)),
 oo 7 (.asg (.t 36))]) .ret) .skip))))) (.reg [oo 37 (.bin .add 3 0 (.t 27) (.n 1) 3),
 om 27 37]))))
def b3h:IC:=(.seq (.reg [oo 4 (.box 76 2 (.t 1)),
 oo 5 (.box 76 2 (.t 2)),
 oo 6 (.alloc 76 [.own 1 0 [],.lit (.bool false)]),
 oo 7 (.asg (.c .nilIface))]) (.seq (.seq (.reg [om 18 0,
 oo 19 (.len 74 false (.t 18)),
 oo 20 (.bin .neq 3 0 (.t 19) (.n 3) 3)]) (.cond (.t 20) (.seq (.draw [oo 21 (.build 76 [.sl 0 [],.lit (.bool false)] []),
 oo 22 (.load 35 none (.g 6)),
 ov (.store 76 2 (.t 6) (.t 21)),
 oo 7 (.asg (.t 22))] [[],[],[0,0],[1,2,0,1,2]]) .ret) .skip)) (.seq (.seq (.reg [oo 23 (.load 76 (some 2) (.t 4)),
 oo 24 (.load 76 (some 2) (.t 5)),
 oo 25 (.bslice 24 76 2 2 [.own 1 0 [],.lit (.bool false)] [(0,(.t 23)),(1,(.t 24))]),
 oo 26 (.len 24 false (.t 25)),
 oo 27 (.mv (.n 0))]) (.block 0 (.loop a4k))) (.seq (.seq (.draw [oo 38 (.faddr 76 0 (.t 4) 0),
 oo 39 (.load 74 none (.t 38)),
 oo 40 (.len 74 false (.t 39)),
 oo 41 (.bin .neq 3 0 (.t 40) (.n 3) 3),
 om 42 41,
 og 43 (.faddr 76 0 (.t 5) 0) 4 42 false,
 og 44 (.load 74 none (.t 43)) 4 42 false,
 og 45 (.len 74 false (.t 44)) 4 42 false,
 og 46 (.bin .neq 3 0 (.t 45) (.n 4) 3) 4 42 false,
 oo 47 (.pick (.t 42) (.c (.bool true)) (.t 46)),
 om 48 47,
 og 49 (.faddr 76 0 (.t 4) 0) 10 48 false,
 og 50 (.load 74 none (.t 49)) 10 48 false,
 og 51 (.iaddr 74 1 (.t 50) (.n 2)) 10 48 false,
 og 52 (.load 3 none (.t 51)) 10 48 false,
 og 53 (.faddr 76 0 (.t 5) 0) 10 48 false,
 og 54 (.load 74 none (.t 53)) 10 48 false,
 og 55 (.iaddr 74 1 (.t 54) (.n 2)) 10 48 false,
 og 56 (.load 3 none (.t 55)) 10 48 false,
 og 57 (.bin .neq 3 0 (.t 52) (.t 56) 3) 10 48 false,
 oo 58 (.pick (.t 48) (.c (.bool true)) (.t 57)),
 om 59 58,
 og 60 (.faddr 76 1 (.t 4) 1) 21 59 false,
 og 61 (.load 4 none (.t 60)) 21 59 false,
 oo 62 (.pick (.t 59) (.c (.bool true)) (.t 61)),
 om 63 62,
 og 64 (.faddr 76 1 (.t 5) 1) 25 63 false,
 og 65 (.load 4 none (.t 64)) 25 63 false,
 oo 66 (.pick (.t 63) (.c (.bool true)) (.t 65))] [[],[0],[1],[2],[3],[4],[5,4],[6,4],[7,4],[4,8],[9,4],[10],[11,10],[12,10],[13,10],[10],[15,10],[16,10],[17,10],[14,18,10],[10,19],[20,10],[21],[22,21],[21,23],[24,21],[25],[26,25],[25,27]]) (.cond (.t 66) (.seq (.draw [oo 67 (.build 76 [.sl 0 [],.lit (.bool false)] []),
 oo 68 (.load 35 none (.g 6)),
 ov (.store 76 2 (.t 6) (.t 67)),
 oo 7 (.asg (.t 68))] [[],[],[0,0],[1,2,0,1,2]]) .ret) .skip)) (.seq (.draw [om 69 0,
 oo 70 (.iaddr 74 1 (.t 69) (.n 0)),
 oo 71 (.load 3 none (.t 70)),
 om 72 0,
 oo 73 (.iaddr 74 1 (.t 72) (.n 1)),
 oo 74 (.load 3 none (.t 73)),
 om 75 0,
 oo 76 (.iaddr 74 1 (.t 75) (.n 2)),
 oo 77 (.load 3 none (.t 76)),
 oo 11 (.asg (.t 71)),
 oo 12 (.asg (.t 74)),
 oo 13 (.asg (.t 77))] [[],[0],[1],[],[3],[4],[],[6],[7],[2,0,1,2],[5,9,0,1,2,3,4,5,9],[8,10,0,1,2,3,4,5,6,7,8,9,10]]) (.seq (.seq (.reg [om 78 11,
 oo 79 (.bin .lss 3 0 (.t 78) (.n 1) 3),
 om 80 79,
 og 81 (.mv (.t 11)) 2 80 false,
 og 82 (.bin .gtr 3 0 (.t 81) (.n 16) 3) 2 80 false,
 oo 83 (.pick (.t 80) (.c (.bool true)) (.t 82)),
 om 84 83,
 og 85 (.mv (.t 12)) 6 84 false,
 og 86 (.bin .lss 3 0 (.t 85) (.n 0) 3) 6 84 false,
 oo 87 (.pick (.t 84) (.c (.bool true)) (.t 86)),
 om 88 87,
 og 89 (.mv (.t 12)) 10 88 false,
 og 90 (.bin .gtr 3 0 (.t 89) (.n 15) 3) 10 88 false,
 oo 91 (.pick (.t 88) (.c (.bool true)) (.t 90)),
 om 92 91,
 og 93 (.mv (.t 13)) 14 92 false,
 ⟨(some 94),.call 174 [(false,(.t 93))] [3],(some (14,92,false))⟩,
 og 95 (.mv (.t 13)) 14 92 false,
 og 96 (.bin .neq 3 0 (.t 94) (.t 95) 3) 14 92 false,
 oo 97 (.pick (.t 92) (.c (.bool true)) (.t 96))]) (.cond (.t 97) (.seq (.draw [oo 98 (.build 76 [.sl 0 [],.lit (.bool false)] []),
 oo 99 (.load 35 none (.g 3)),
 ov (.store 76 2 (.t 6) (.t 98)),
 oo 7 (.asg (.t 99))] [[],[],[0,0],[1,2,0,1,2]]) .ret) .skip)) (.seq (.draw [oo 100 (.faddr 76 0 (.t 4) 0),
 oo 101 (.load 74 none (.t 100)),
 oo 102 (.iaddr 74 1 (.t 101) (.n 0)),
 oo 103 (.load 3 none (.t 102)),
 om 104 12,
 oo 105 (.bin .mul 3 0 (.n 2) (.t 104) 3),
 oo 106 (.bin .add 3 0 (.t 103) (.t 105) 3),
 oo 107 (.faddr 76 0 (.t 5) 0),
 oo 108 (.load 74 none (.t 107)),
 oo 109 (.iaddr 74 1 (.t 108) (.n 0)),
 oo 110 (.load 3 none (.t 109)),
 oo 111 (.bin .sub 3 0 (.t 106) (.t 110) 3),
 oo 112 (.faddr 76 0 (.t 4) 0),
 oo 113 (.load 74 none (.t 112)),
 oo 114 (.iaddr 74 1 (.t 113) (.n 1)),
 oo 115 (.load 3 none (.t 114)),
 om 116 12,
 oo 117 (.bin .mul 3 0 (.n 2) (.t 116) 3),
 oo 118 (.bin .add 3 0 (.t 115) (.t 117) 3),
 oo 119 (.faddr 76 0 (.t 5) 0),
 oo 120 (.load 74 none (.t 119)),
 oo 121 (.iaddr 74 1 (.t 120) (.n 1)),
 oo 122 (.load 3 none (.t 121)),
 oo 123 (.bin .sub 3 0 (.t 118) (.t 122) 3),
 oo 14 (.asg (.t 111)),
 oo 15 (.asg (.t 123))] [[],[0],[1],[2],[],[4],[3,5],[],[7],[8],[9],[6,10],[],[12],[13],[14],[],[16],[15,17],[],[19],[20],[21],[18,22],[11,0,1,2,3,4,5,6,7,8,9,10,11],[23,24,0,1,2,3,4,5,6,7,8,9,10,11,12,13,14,15,16,17,18,19,20,21,22,23,24]]) (.seq (.seq (.reg [om 124 14,
 oo 125 (.bin .lss 3 0 (.t 124) (.n 0) 3),
 om 126 125,
 og 127 (.mv (.t 15)) 2 126 false,
 og 128 (.bin .lss 3 0 (.t 127) (.n 0) 3) 2 126 false,
 oo 129 (.pick (.t 126) (.c (.bool true)) (.t 128))]) (.cond (.t 129) (.seq (.draw [oo 130 (.build 76 [.sl 0 [],.lit (.bool false)] []),
 oo 131 (.load 35 none (.g 6)),
 ov (.store 76 2 (.t 6) (.t 130)),
 oo 7 (.asg (.t 131))] [[],[],[0,0],[1,2,0,1,2]]) .ret) .skip)) (.seq (.draw [om 132 14,
 om 133 11,
 oo 134 (.bin .quo 3 0 (.t 132) (.t 133) 3),
 oo 135 (.bin .add 3 0 (.t 134) (.n 1) 3),
 om 136 15,
 om 137 11,
 oo 138 (.bin .quo 3 0 (.t 136) (.t 137) 3),
 oo 139 (.bin .add 3 0 (.t 138) (.n 1) 3),
 oo 140 (.faddr 76 0 (.t 5) 0),
 oo 141 (.load 74 none (.t 140)),
 oo 142 (.iaddr 74 1 (.t 141) (.n 3)),
 oo 143 (.load 3 none (.t 142)),
 oo 144 (.bslice 74 3 1 3 [.lit (.int .i64 0)] [(0,(.t 135)),(1,(.t 139)),(2,(.t 143))]),
 oo 145 (.build 76 [.own 1 0 [],.lit (.bool false)] [(0,0,1,(.t 144)),(1,1,1,(.c (.bool true)))]),
 oo 16 (.alloc 76 [.own 1 0 [],.lit (.bool false)]),
 ov (.store 76 2 (.t 16) (.t 145))] [[],[],[0,1],[2],[],[],[4,5],[6],[],[8],[9],[10],[3,7,11],[12],[],[14,13,0,1,2,3,4,5,6,7,8,9,10,11,12,13,14]]) (.seq (.seq (.reg [oo 146 (.load 76 (some 2) (.t 16)),
 oc 147 105 [(false,(.t 146))] [76],
 oo 17 (.asg (.t 147))]) (.seq (.reg [om 148 17,
 oo 149 (.bin .neq 35 2 (.t 148) (.c .nilIface) 35)]) (.cond (.t 149) (.seq (.reg [oo 150 (.build 76 [.sl 0 [],.lit (.bool false)] []),
 om 151 17,
 ov (.store 76 2 (.t 6) (.t 150)),
 oo 7 (.asg (.t 151))]) .ret) .skip))) (.seq (.reg [oo 152 (.load 76 (some 2) (.t 16)),
 ov (.store 76 2 (.t 6) (.t 152)),
 oo 7 (.asg (.c .nilIface))]) .ret)))))))))))
abbrev b9v:Nat:=162
theorem b58:fnC pg 162 153 [(.cells 6 2),(.tmp 7)] b3h:=a0s Go.Proofs.Tryz.f162 [(.cell 6 76),(.tmp 7)] (by kernel_rfl)
def a16:IC:=(.seq (.reg [oo 3 (.box 76 2 (.t 1)),
 oo 4 (.alloc 76 [.own 1 0 [],.lit (.bool false)]),
 oo 5 (.asg (.c .nilIface))]) (.seq (.seq (.reg [om 11 0,
 oo 12 (.len 74 false (.t 11)),
 oo 13 (.bin .neq 3 0 (.t 12) (.n 2) 3)]) (.cond (.t 13) (.seq (.draw [oo 14 (.build 76 [.sl 0 [],.lit (.bool false)] []),
 oo 15 (.load 35 none (.g 6)),
 ov (.store 76 2 (.t 4) (.t 14)),
 oo 5 (.asg (.t 15))] [[],[],[0,0],[1,2,0,1,2]]) .ret) .skip)) (.seq (.seq (.reg [oo 16 (.load 76 (some 2) (.t 3)),
 oc 17 105 [(false,(.t 16))] [76],
 oo 6 (.asg (.t 17))]) (.seq (.reg [om 18 6,
 oo 19 (.bin .neq 35 2 (.t 18) (.c .nilIface) 35)]) (.cond (.t 19) (.seq (.reg [oo 20 (.build 76 [.sl 0 [],.lit (.bool false)] []),
 om 21 6,
 ov (.store 76 2 (.t 4) (.t 20)),
 oo 5 (.asg (.t 21))]) .ret) .skip))) (.seq (.seq (.reg [oo 22 (.faddr 76 0 (.t 3) 0),
 oo 23 (.load 74 none (.t 22)),
 oo 24 (.len 74 false (.t 23)),
 oo 25 (.bin .neq 3 0 (.t 24) (.n 3) 3)]) (.cond (.t 25) (.seq (.draw [oo 26 (.build 76 [.sl 0 [],.lit (.bool false)] []),
 oo 27 (.load 35 none (.g 6)),
 ov (.store 76 2 (.t 4) (.t 26)),
 oo 5 (.asg (.t 27))] [[],[],[0,0],[1,2,0,1,2]]) .ret) .skip)) (.seq (.draw [om 28 0,
 oo 29 (.iaddr 74 1 (.t 28) (.n 0)),
 oo 30 (.load 3 none (.t 29)),
 om 31 0,
 oo 32 (.iaddr 74 1 (.t 31) (.n 1)),
 oo 33 (.load 3 none (.t 32)),
 oo 7 (.asg (.t 30)),
 oo 8 (.asg (.t 33))] [[],[0],[1],[],[3],[4],[2,0,1,2],[5,6,0,1,2,3,4,5,6]]) (.seq (.seq (.reg [om 34 7,
 oo 35 (.bin .lss 3 0 (.t 34) (.n 1) 3),
 om 36 35,
 og 37 (.mv (.t 7)) 2 36 false,
 og 38 (.bin .gtr 3 0 (.t 37) (.n 16) 3) 2 36 false,
 oo 39 (.pick (.t 36) (.c (.bool true)) (.t 38)),
 om 40 39,
 og 41 (.mv (.t 8)) 6 40 false,
 og 42 (.bin .lss 3 0 (.t 41) (.n 1) 3) 6 40 false,
 oo 43 (.pick (.t 40) (.c (.bool true)) (.t 42)),
 om 44 43,
 og 45 (.mv (.t 8)) 10 44 false,
 og 46 (.bin .gtr 3 0 (.t 45) (.n 16) 3) 10 44 false,
 oo 47 (.pick (.t 44) (.c (.bool true)) (.t 46))]) (.cond (.t 47) (.seq (.draw [oo 48 (.build 76 [.sl 0 [],.lit (.bool false)] []),
 oo 49 (.load 35 none (.g 3)),
 ov (.store 76 2 (.t 4) (.t 48)),
 oo 5 (.asg (.t 49))] [[],[],[0,0],[1,2,0,1,2]]) .ret) .skip)) (.seq (.draw [oo 50 (.faddr 76 0 (.t 3) 0),
 oo 51 (.load 74 none (.t 50)),
 oo 52 (.iaddr 74 1 (.t 51) (.n 0)),
 oo 53 (.load 3 none (.t 52)),
 om 54 7,
 oo 55 (.bin .sub 3 0 (.t 53) (.t 54) 3),
 oo 56 (.faddr 76 0 (.t 3) 0),
 oo 57 (.load 74 none (.t 56)),
 oo 58 (.iaddr 74 1 (.t 57) (.n 1)),
 oo 59 (.load 3 none (.t 58)),
 om 60 7,
 oo 61 (.bin .sub 3 0 (.t 59) (.t 60) 3),
 oo 9 (.asg (.t 55)),
 oo 10 (.asg (.t 61))] [[],[0],[1],[2],[],[3,4],[],[6],[7],[8],[],[9,10],[5,0,1,2,3,4,5],[11,12,0,1,2,3,4,5,6,7,8,9,10,11,12]]) (.seq (.seq (.reg [om 62 9,
 oo 63 (.bin .lss 3 0 (.t 62) (.n 0) 3),
 om 64 63,
 og 65 (.mv (.t 10)) 2 64 false,
 og 66 (.bin .lss 3 0 (.t 65) (.n 0) 3) 2 64 false,
 oo 67 (.pick (.t 64) (.c (.bool true)) (.t 66))]) (.cond (.t 67) (.seq (.draw [oo 68 (.build 76 [.sl 0 [],.lit (.bool false)] []),
 oo 69 (.load 35 none (.g 6)),
 ov (.store 76 2 (.t 4) (.t 68)),
 oo 5 (.asg (.t 69))] [[],[],[0,0],[1,2,0,1,2]]) .ret) .skip)) (.seq (.draw [om 70 9,
 om 71 8,
 oo 72 (.bin .quo 3 0 (.t 70) (.t 71) 3),
 oo 73 (.bin .add 3 0 (.t 72) (.n 1) 3),
 om 74 10,
 om 75 8,
 oo 76 (.bin .quo 3 0 (.t 74) (.t 75) 3),
 oo 77 (.bin .add 3 0 (.t 76) (.n 1) 3),
 oo 78 (.faddr 76 0 (.t 3) 0),
 oo 79 (.load 74 none (.t 78)),
 oo 80 (.iaddr 74 1 (.t 79) (.n 2)),
 oo 81 (.load 3 none (.t 80)),
 oo 82 (.bslice 74 3 1 3 [.lit (.int .i64 0)] [(0,(.t 73)),(1,(.t 77)),(2,(.t 81))]),
 oo 83 (.faddr 76 1 (.t 3) 1),
 oo 84 (.load 4 none (.t 83)),
 oo 85 (.build 76 [.own 1 0 [],.lit (.bool false)] [(0,0,1,(.t 82)),(1,1,1,(.t 84))]),
 ov (.store 76 2 (.t 4) (.t 85)),
 oo 5 (.asg (.c .nilIface))] [[],[],[0,1],[2],[],[],[4,5],[6],[],[8],[9],[10],[3,7,11],[],[13],[12,14],[15,0,1,2,3,4,5,6,7,8,9,10,11,12,13,14,15],[16,0,1,2,3,4,5,6,7,8,9,10,11,12,13,14,15,16]]) .ret)))))))))
abbrev b9x:Nat:=163
theorem a1s:fnC pg 163 86 [(.cells 4 2),(.tmp 5)] a16:=a0s Go.Proofs.Tryz.f163 [(.cell 4 76),(.tmp 5)] (by kernel_rfl)
def a55:IC:=(.seq (.reg [oo 31 (.bin .lss 3 0 (.t 30) (.t 29) 3)]) (.seq (.cond (.t 31) .skip (.exit 1)) (.seq (.block 2 (.seq (.reg [oo 32 (.iaddr 24 2 (.t 28) (.t 30)),
 oo 33 (.load 76 (some 2) (.t 32)),
 oo 8 (.alloc 76 [.own 1 0 [],.lit (.bool false)]),
 ov (.store 76 2 (.t 8) (.t 33))]) (.seq (.reg [oo 34 (.load 76 (some 2) (.t 8)),
 oc 35 105 [(false,(.t 34))] [76],
 oo 9 (.asg (.t 35))]) (.seq (.reg [om 36 9,
 oo 37 (.bin .neq 35 2 (.t 36) (.c .nilIface) 35)]) (.cond (.t 37) (.seq (.reg [oo 38 (.build 76 [.sl 0 [],.lit (.bool false)] []),
 om 39 9,
 ov (.store 76 2 (.t 4) (.t 38)),
 oo 5 (.asg (.t 39))]) .ret) .skip))))) (.reg [oo 40 (.bin .add 3 0 (.t 30) (.n 1) 3),
 om 30 40]))))
def a5n:IC:=(.seq (.reg [oo 4 (.alloc 76 [.own 1 0 [],.lit (.bool false)]),
 oo 5 (.asg (.c .nilIface))]) (.seq (.reg [oo 6 (.asg (.n 1))]) (.seq (.seq (.reg [om 13 0]) (.block 0 (.seq (.seq (.reg [oo 17 (.bin .eql 3 0 (.t 13) (.n 19) 3),
 oo 16 (.asg (.t 17))]) (.cond (.t 16) .skip (.reg [oo 18 (.bin .eql 3 0 (.t 13) (.n 20) 3),
 oo 16 (.asg (.t 18))]))) (.cond (.t 16) .skip (.seq (.seq (.reg [oo 20 (.bin .eql 3 0 (.t 13) (.n 16) 3),
 oo 19 (.asg (.t 20))]) (.cond (.t 19) .skip (.reg [oo 21 (.bin .eql 3 0 (.t 13) (.n 17) 3),
 oo 19 (.asg (.t 21))]))) (.cond (.t 19) (.reg [oo 6 (.asg (.n 2))]) (.seq (.draw [oo 14 (.build 76 [.sl 0 [],.lit (.bool false)] []),
 oo 15 (.load 35 none (.g 2)),
 ov (.store 76 2 (.t 4) (.t 14)),
 oo 5 (.asg (.t 15))] [[],[],[0,0],[1,2,0,1,2]]) .ret))))))) (.seq (.seq (.reg [om 22 1,
 oo 23 (.len 24 false (.t 22)),
 om 24 6,
 oo 25 (.bin .neq 3 0 (.t 23) (.t 24) 3)]) (.cond (.t 25) (.seq (.draw [oo 26 (.build 76 [.sl 0 [],.lit (.bool false)] []),
 oo 27 (.load 35 none (.g 6)),
 ov (.store 76 2 (.t 4) (.t 26)),
 oo 5 (.asg (.t 27))] [[],[],[0,0],[1,2,0,1,2]]) .ret) .skip)) (.seq (.seq (.reg [om 28 1,
 oo 29 (.len 24 false (.t 28)),
 oo 30 (.mv (.n 0))]) (.block 1 (.loop a55))) (.seq (.reg [om 42 0,
 om 43 1,
 oc 44 175 [(false,(.t 42)),(false,(.t 43))] [3,24],
 oo 41 (.mva (.t 44)),
 oo 45 (.ext (.t 41) 0),
 oo 46 (.ext (.t 41) 1),
 oo 10 (.alloc 76 [.own 1 0 [],.lit (.bool false)]),
 ov (.store 76 2 (.t 10) (.t 45)),
 oo 11 (.asg (.t 46))]) (.seq (.seq (.reg [om 47 11,
 oo 48 (.un .not 4 (.t 47))]) (.cond (.t 48) (.seq (.draw [oo 49 (.build 76 [.sl 0 [],.lit (.bool false)] []),
 oo 50 (.load 35 none (.g 6)),
 ov (.store 76 2 (.t 4) (.t 49)),
 oo 5 (.asg (.t 50))] [[],[],[0,0],[1,2,0,1,2]]) .ret) .skip)) (.seq (.seq (.reg [oo 51 (.load 76 (some 2) (.t 10)),
 oc 52 105 [(false,(.t 51))] [76],
 oo 12 (.asg (.t 52))]) (.seq (.reg [om 53 12,
 oo 54 (.bin .neq 35 2 (.t 53) (.c .nilIface) 35)]) (.cond (.t 54) (.seq (.reg [oo 55 (.build 76 [.sl 0 [],.lit (.bool false)] []),
 om 56 12,
 ov (.store 76 2 (.t 4) (.t 55)),
 oo 5 (.asg (.t 56))]) .ret) .skip))) (.seq (.reg [oo 57 (.load 76 (some 2) (.t 10)),
 ov (.store 76 2 (.t 4) (.t 57)),
 oo 5 (.asg (.c .nilIface))]) .ret)))))))))
abbrev b92:Nat:=164
theorem b6e:fnC pg 164 58 [(.cells 4 2),(.tmp 5)] a5n:=a0s Go.Proofs.Tryz.f164 [(.cell 4 76),(.tmp 5)] (by kernel_rfl)
def a53:IC:=(.seq (.reg [oo 43 (.bin .lss 3 0 (.t 42) (.t 41) 3)]) (.seq (.cond (.t 43) .skip (.exit 0)) (.seq (.block 1 (.seq (.reg [oo 44 (.iaddr 24 2 (.t 40) (.t 42)),
 oo 45 (.load 76 (some 2) (.t 44)),
 oo 12 (.alloc 76 [.own 1 0 [],.lit (.bool false)]),
 ov (.store 76 2 (.t 12) (.t 45))]) (.seq (.reg [oo 46 (.load 76 (some 2) (.t 12)),
 oc 47 105 [(false,(.t 46))] [76],
 oo 13 (.asg (.t 47))]) (.seq (.reg [om 48 13,
 oo 49 (.bin .neq 35 2 (.t 48) (.c .nilIface) 35)]) (.cond (.t 49) (.seq (.reg [oo 50 (.build 76 [.sl 0 [],.lit (.bool false)] []),
 om 51 13,
 ov (.store 76 2 (.t 6) (.t 50)),
 oo 7 (.asg (.t 51))]) .ret) .skip))))) (.reg [oo 52 (.bin .add 3 0 (.t 42) (.n 1) 3),
 om 42 52]))))
def a2h:IC:=(.seq (.reg [oo 6 (.alloc 76 [.own 1 0 [],.lit (.bool false)]),
 oo 7 (.asg (.c .nilIface))]) (.seq (.reg [om 19 0,
 oc 20 176 [(false,(.t 19))] [3],
 oo 18 (.mva (.t 20)),
 oo 21 (.ext (.t 18) 0),
 oo 22 (.ext (.t 18) 1),
 oo 23 (.ext (.t 18) 2),
 oo 8 (.asg (.t 21)),
 oo 9 (.asg (.t 22)),
 oo 10 (.asg (.t 23))]) (.seq (.seq (.reg [om 24 10,
 oo 25 (.un .not 4 (.t 24))]) (.cond (.t 25) (.seq (.draw [oo 26 (.build 76 [.sl 0 [],.lit (.bool false)] []),
 oo 27 (.load 35 none (.g 2)),
 ov (.store 76 2 (.t 6) (.t 26)),
 oo 7 (.asg (.t 27))] [[],[],[0,0],[1,2,0,1,2]]) .ret) .skip)) (.seq (.seq (.reg [om 28 1,
 oo 29 (.len 74 false (.t 28)),
 om 30 9,
 oo 31 (.bin .neq 3 0 (.t 29) (.t 30) 3),
 om 32 31,
 og 33 (.mv (.t 2)) 4 32 false,
 og 34 (.len 24 false (.t 33)) 4 32 false,
 og 35 (.mv (.t 8)) 4 32 false,
 og 36 (.bin .neq 3 0 (.t 34) (.t 35) 3) 4 32 false,
 oo 37 (.pick (.t 32) (.c (.bool true)) (.t 36))]) (.cond (.t 37) (.seq (.draw [oo 38 (.build 76 [.sl 0 [],.lit (.bool false)] []),
 oo 39 (.load 35 none (.g 6)),
 ov (.store 76 2 (.t 6) (.t 38)),
 oo 7 (.asg (.t 39))] [[],[],[0,0],[1,2,0,1,2]]) .ret) .skip)) (.seq (.seq (.reg [om 40 2,
 oo 41 (.len 24 false (.t 40)),
 oo 42 (.mv (.n 0))]) (.block 0 (.loop a53))) (.seq (.reg [om 53 2,
 oo 54 (.iaddr 24 2 (.t 53) (.n 0)),
 oo 55 (.load 76 (some 2) (.t 54)),
 oo 14 (.alloc 76 [.own 1 0 [],.lit (.bool false)]),
 ov (.store 76 2 (.t 14) (.t 55))]) (.seq (.seq (.draw [om 56 8,
 oo 57 (.bin .eql 3 0 (.t 56) (.n 2) 3),
 om 58 57,
 og 59 (.load 76 (some 2) (.t 14)) 2 58 true,
 og 60 (.mv (.t 2)) 2 58 true,
 og 61 (.iaddr 24 2 (.t 60) (.n 1)) 2 58 true,
 og 62 (.load 76 (some 2) (.t 61)) 2 58 true,
 ⟨(some 63),.call 138 [(false,(.t 59)),(false,(.t 62))] [76,76],(some (2,58,true))⟩,
 og 64 (.un .not 4 (.t 63)) 2 58 true,
 oo 65 (.pick (.t 58) (.t 64) (.c (.bool false))),
 om 66 65,
 og 67 (.mv (.t 0)) 10 66 false,
 og 68 (.bin .eql 3 0 (.t 67) (.n 10) 3) 10 66 false,
 og 69 (.mv (.t 68)) 10 66 false,
 og 70 (.faddr 76 1 (.t 14) 1) 13 69 true,
 og 71 (.load 4 none (.t 70)) 13 69 true,
 og 72 (.un .not 4 (.t 71)) 13 69 true,
 og 73 (.pick (.t 69) (.t 72) (.c (.bool false))) 10 66 false,
 oo 74 (.pick (.t 66) (.c (.bool true)) (.t 73)),
 om 75 74,
 og 76 (.mv (.t 0)) 19 75 false,
 og 77 (.bin .eql 3 0 (.t 76) (.n 11) 3) 19 75 false,
 og 78 (.mv (.t 77)) 19 75 false,
 og 79 (.faddr 76 1 (.t 14) 1) 22 78 true,
 og 80 (.load 4 none (.t 79)) 22 78 true,
 og 81 (.pick (.t 78) (.t 80) (.c (.bool false))) 19 75 false,
 oo 82 (.pick (.t 75) (.c (.bool true)) (.t 81))] [[],[0],[1],[2],[2],[4,2],[5,2],[3,6,2,2],[7,2],[2,8],[9,7],[10],[11,10],[12,10,10],[13],[14,13],[15,13],[13,16,10],[10,17],[18,13],[19],[20,19],[21,19,19],[22],[23,22],[22,24,19],[19,25]]) (.cond (.t 82) (.seq (.draw [oo 83 (.build 76 [.sl 0 [],.lit (.bool false)] []),
 oo 84 (.load 35 none (.g 6)),
 ov (.store 76 2 (.t 6) (.t 83)),
 oo 7 (.asg (.t 84))] [[],[],[0,0],[1,2,0,1,2]]) .ret) .skip)) (.seq (.draw [oo 85 (.faddr 76 1 (.t 14) 1),
 oo 86 (.load 4 none (.t 85)),
 oo 15 (.asg (.c (.bool true))),
 oo 16 (.asg (.t 86))] [[],[0],[],[1,2,0,1,2]]) (.seq (.seq (.reg [om 87 0]) (.block 2 (.seq (.reg [oo 89 (.bin .eql 3 0 (.t 87) (.n 9) 3),
 oo 88 (.asg (.t 89))]) (.cond (.t 88) (.draw [om 90 1,
 oo 91 (.iaddr 74 1 (.t 90) (.n 0)),
 oo 92 (.load 3 none (.t 91)),
 om 93 1,
 oo 94 (.iaddr 74 1 (.t 93) (.n 1)),
 oo 95 (.load 3 none (.t 94)),
 oo 96 (.bin .leq 3 0 (.t 92) (.t 95) 3),
 om 97 96,
 og 98 (.mv (.t 1)) 7 97 true,
 og 99 (.iaddr 74 1 (.t 98) (.n 0)) 7 97 true,
 og 100 (.load 3 none (.t 99)) 7 97 true,
 og 101 (.faddr 76 1 (.t 14) 1) 7 97 true,
 og 102 (.load 4 none (.t 101)) 7 97 true,
 ⟨(some 103),.call 177 [(false,(.t 100)),(false,(.t 102))] [3,4],(some (7,97,true))⟩,
 oo 104 (.pick (.t 97) (.t 103) (.c (.bool false))),
 om 105 104,
 og 106 (.mv (.t 1)) 15 105 true,
 og 107 (.iaddr 74 1 (.t 106) (.n 1)) 15 105 true,
 og 108 (.load 3 none (.t 107)) 15 105 true,
 og 109 (.faddr 76 1 (.t 14) 1) 15 105 true,
 og 110 (.load 4 none (.t 109)) 15 105 true,
 ⟨(some 111),.call 177 [(false,(.t 108)),(false,(.t 110))] [3,4],(some (15,105,true))⟩,
 oo 112 (.pick (.t 105) (.t 111) (.c (.bool false))),
 oo 15 (.asg (.t 112))] [[],[0],[1],[],[3],[4],[2,5],[6],[7],[8,7],[9,7],[7],[11,7],[10,12,7,7],[7,13],[14,13],[15],[16,15],[17,15],[15],[19,15],[18,20,15,15],[15,21],[22,21,0,1,2,3,4,5,6,7,8,9,10,11,12,13,14,15,16,17,18,19,20,21,22]]) (.seq (.reg [oo 114 (.bin .eql 3 0 (.t 87) (.n 10) 3),
 oo 113 (.asg (.t 114))]) (.cond (.t 113) (.reg [om 115 1,
 oo 116 (.iaddr 74 1 (.t 115) (.n 0)),
 oo 117 (.load 3 none (.t 116)),
 oc 118 178 [(false,(.t 117)),(false,(.n 0)),(false,(.n 2147483647))] [3,3,3],
 om 119 118,
 og 120 (.mv (.t 1)) 4 119 true,
 og 121 (.iaddr 74 1 (.t 120) (.n 1)) 4 119 true,
 og 122 (.load 3 none (.t 121)) 4 119 true,
 ⟨(some 123),.call 178 [(false,(.t 122)),(false,(.n 0)),(false,(.n 62))] [3,3,3],(some (4,119,true))⟩,
 oo 124 (.pick (.t 119) (.t 123) (.c (.bool false))),
 om 125 124,
 og 126 (.mv (.t 1)) 10 125 true,
 og 127 (.iaddr 74 1 (.t 126) (.n 2)) 10 125 true,
 og 128 (.load 3 none (.t 127)) 10 125 true,
 ⟨(some 129),.call 177 [(false,(.t 128)),(false,(.c (.bool false)))] [3,4],(some (10,125,true))⟩,
 oo 130 (.pick (.t 125) (.t 129) (.c (.bool false))),
 oo 15 (.asg (.t 130)),
 oo 16 (.asg (.c (.bool false)))]) (.seq (.reg [oo 132 (.bin .eql 3 0 (.t 87) (.n 11) 3),
 oo 131 (.asg (.t 132))]) (.cond (.t 131) (.reg [om 133 1,
 oo 134 (.iaddr 74 1 (.t 133) (.n 0)),
 oo 135 (.load 3 none (.t 134)),
 oc 136 177 [(false,(.t 135)),(false,(.c (.bool false)))] [3,4],
 oo 15 (.asg (.t 136)),
 oo 16 (.asg (.c (.bool true)))]) .skip)))))))) (.seq (.seq (.reg [om 137 15,
 oo 138 (.un .not 4 (.t 137))]) (.cond (.t 138) (.seq (.draw [oo 139 (.build 76 [.sl 0 [],.lit (.bool false)] []),
 oo 140 (.load 35 none (.g 3)),
 ov (.store 76 2 (.t 6) (.t 139)),
 oo 7 (.asg (.t 140))] [[],[],[0,0],[1,2,0,1,2]]) .ret) .skip)) (.seq (.reg [oo 141 (.load 76 (some 2) (.t 14)),
 oc 142 154 [(false,(.t 141))] [76],
 oo 17 (.alloc 76 [.own 1 0 [],.lit (.bool false)]),
 ov (.store 76 2 (.t 17) (.t 142))]) (.seq (.reg [om 143 16,
 oo 144 (.faddr 76 1 (.t 17) 1),
 ov (.store 4 1 (.t 144) (.t 143))]) (.seq (.reg [oo 145 (.load 76 (some 2) (.t 17)),
 ov (.store 76 2 (.t 6) (.t 145)),
 oo 7 (.asg (.c .nilIface))]) .ret)))))))))))))
abbrev a2d:Nat:=167
theorem a1x:fnC pg 167 146 [(.cells 6 2),(.tmp 7)] a2h:=a0s Go.Proofs.Tryz.f167 [(.cell 6 76),(.tmp 7)] (by kernel_rfl)
def b5m:IC:=(.seq (.reg [oo 2 (.asg (.c (.bool false)))]) (.seq (.reg [om 3 0,
 oc 4 174 [(false,(.t 3))] [3],
 om 5 0,
 oo 6 (.bin .eql 3 0 (.t 4) (.t 5) 3),
 oo 2 (.asg (.t 6))]) .ret))
abbrev c1i:Nat:=173
theorem b7l:fnC pg 173 7 [(.tmp 2)] b5m:=a0s Go.Proofs.Tryz.f173 [(.tmp 2)] (by kernel_rfl)
def b4g:IC:=(.seq (.reg [oo 2 (.asg (.n 0))]) (.seq (.reg [om 3 0,
 oo 4 (.mm false [3,3] [(.t 3),(.n 127)]),
 oo 5 (.mm true [3,3] [(.n (-128)),(.t 4)]),
 oo 2 (.asg (.t 5))]) .ret))
abbrev b93:Nat:=174
theorem b6f:fnC pg 174 6 [(.tmp 2)] b4g:=a0s Go.Proofs.Tryz.f174 [(.tmp 2)] (by kernel_rfl)
def a3d:IC:=(.seq (.reg [oo 4 (.alloc 76 [.own 1 0 [],.lit (.bool false)]),
 oo 5 (.asg (.c (.bool false)))]) (.seq (.reg [om 9 1,
 oo 10 (.iaddr 24 2 (.t 9) (.n 0)),
 oo 11 (.load 76 (some 2) (.t 10)),
 oo 6 (.alloc 76 [.own 1 0 [],.lit (.bool false)]),
 ov (.store 76 2 (.t 6) (.t 11))]) (.seq (.reg [oo 12 (.faddr 76 0 (.t 6) 0),
 oo 13 (.load 74 none (.t 12)),
 oo 14 (.len 74 false (.t 13)),
 oo 7 (.asg (.t 14))]) (.seq (.seq (.reg [om 15 0]) (.block 0 (.seq (.reg [oo 17 (.bin .eql 3 0 (.t 15) (.n 16) 3),
 oo 16 (.asg (.t 17))]) (.cond (.t 16) (.seq (.reg [oo 18 (.load 76 (some 2) (.t 6)),
 oc 19 154 [(false,(.t 18))] [76],
 om 20 7,
 oo 21 (.bin .gtr 3 0 (.t 20) (.n 0) 3),
 om 22 21,
 og 23 (.faddr 76 1 (.t 6) 1) 4 22 true,
 og 24 (.load 4 none (.t 23)) 4 22 true,
 og 25 (.un .not 4 (.t 24)) 4 22 true,
 oo 26 (.pick (.t 22) (.t 25) (.c (.bool false))),
 om 27 26,
 og 28 (.mv (.t 1)) 9 27 true,
 og 29 (.iaddr 24 2 (.t 28) (.n 1)) 9 27 true,
 og 30 (.load 76 (some 2) (.t 29)) 9 27 true,
 og 31 (.bslice 74 3 1 1 [.lit (.int .i64 0)] [(0,(.n 256))]) 9 27 true,
 og 32 (.build 76 [.own 1 0 [],.lit (.bool false)] [(0,0,1,(.t 31)),(1,1,1,(.c (.bool true)))]) 9 27 true,
 ⟨(some 33),.call 138 [(false,(.t 30)),(false,(.t 32))] [76,76],(some (9,27,true))⟩,
 oo 34 (.pick (.t 27) (.t 33) (.c (.bool false))),
 ov (.store 76 2 (.t 4) (.t 19)),
 oo 5 (.asg (.t 34))]) .ret) (.seq (.reg [oo 36 (.bin .eql 3 0 (.t 15) (.n 17) 3),
 oo 35 (.asg (.t 36))]) (.cond (.t 35) (.seq (.reg [om 37 1,
 oo 38 (.iaddr 24 2 (.t 37) (.n 1)),
 oo 39 (.load 76 (some 2) (.t 38)),
 oo 8 (.alloc 76 [.own 1 0 [],.lit (.bool false)]),
 ov (.store 76 2 (.t 8) (.t 39))]) (.seq (.seq (.reg [om 40 7,
 oo 41 (.bin .neq 3 0 (.t 40) (.n 2) 3),
 om 42 41,
 og 43 (.faddr 76 0 (.t 8) 0) 2 42 false,
 og 44 (.load 74 none (.t 43)) 2 42 false,
 og 45 (.len 74 false (.t 44)) 2 42 false,
 og 46 (.bin .neq 3 0 (.t 45) (.n 1) 3) 2 42 false,
 oo 47 (.pick (.t 42) (.c (.bool true)) (.t 46)),
 om 48 47,
 og 49 (.faddr 76 1 (.t 8) 1) 8 48 false,
 og 50 (.load 4 none (.t 49)) 8 48 false,
 og 51 (.un .not 4 (.t 50)) 8 48 false,
 oo 52 (.pick (.t 48) (.c (.bool true)) (.t 51))]) (.cond (.t 52) (.seq (.reg [oo 53 (.build 76 [.sl 0 [],.lit (.bool false)] []),
 ov (.store 76 2 (.t 4) (.t 53)),
 oo 5 (.asg (.c (.bool false)))]) .ret) .skip)) (.seq (.draw [oo 54 (.faddr 76 0 (.t 8) 0),
 oo 55 (.load 74 none (.t 54)),
 oo 56 (.iaddr 74 1 (.t 55) (.n 0)),
 oo 57 (.load 3 none (.t 56)),
 oo 58 (.faddr 76 0 (.t 6) 0),
 oo 59 (.load 74 none (.t 58)),
 oo 60 (.iaddr 74 1 (.t 59) (.n 1)),
 oo 61 (.load 3 none (.t 60)),
 oo 62 (.bslice 74 3 1 2 [.lit (.int .i64 0)] [(0,(.t 57)),(1,(.t 61))]),
 oo 63 (.faddr 76 1 (.t 6) 1),
 oo 64 (.load 4 none (.t 63)),
 oo 65 (.build 76 [.own 1 0 [],.lit (.bool false)] [(0,0,1,(.t 62)),(1,1,1,(.t 64))]),
 ov (.store 76 2 (.t 4) (.t 65)),
 oo 5 (.asg (.c (.bool true)))] [[],[0],[1],[2],[],[4],[5],[6],[3,7],[],[9],[8,10],[11,0,1,2,3,4,5,6,7,8,9,10,11],[12,0,1,2,3,4,5,6,7,8,9,10,11,12]]) .ret))) .skip)))))) (.seq (.seq (.reg [om 66 7,
 oo 67 (.bin .eql 3 0 (.t 66) (.n 0) 3)]) (.cond (.t 67) (.seq (.reg [oo 68 (.build 76 [.sl 0 [],.lit (.bool false)] []),
 ov (.store 76 2 (.t 4) (.t 68)),
 oo 5 (.asg (.c (.bool false)))]) .ret) .skip)) (.seq (.reg [oo 69 (.faddr 76 0 (.t 6) 0),
 oo 70 (.load 74 none (.t 69)),
 om 71 7,
 oo 72 (.bin .sub 3 0 (.t 71) (.n 1) 3),
 oo 73 (.slice 74 1 (.t 70) none (some (.t 72)) none),
 oc 74 123 [(false,(.t 73))] [74],
 oo 75 (.build 76 [.own 1 0 [],.lit (.bool false)] [(0,0,1,(.t 74)),(1,1,1,(.c (.bool true)))]),
 ov (.store 76 2 (.t 4) (.t 75)),
 oo 5 (.asg (.c (.bool true)))]) .ret))))))
abbrev a7o:Nat:=175
theorem a2p:fnC pg 175 76 [(.cells 4 2),(.tmp 5)] a3d:=a0s Go.Proofs.Tryz.f175 [(.cell 4 76),(.tmp 5)] (by kernel_rfl)
def b3k:IC:=(.seq (.reg [oo 2 (.asg (.n 0)),
 oo 3 (.asg (.n 0)),
 oo 4 (.asg (.c (.bool false)))]) (.seq (.seq (.reg [om 5 0]) (.block 0 (.seq (.seq (.reg [oo 7 (.bin .eql 3 0 (.t 5) (.n 4) 3),
 oo 6 (.asg (.t 7))]) (.cond (.t 6) .skip (.seq (.reg [oo 8 (.bin .eql 3 0 (.t 5) (.n 5) 3),
 oo 6 (.asg (.t 8))]) (.cond (.t 6) .skip (.seq (.reg [oo 9 (.bin .eql 3 0 (.t 5) (.n 6) 3),
 oo 6 (.asg (.t 9))]) (.cond (.t 6) .skip (.reg [oo 10 (.bin .eql 3 0 (.t 5) (.n 7) 3),
 oo 6 (.asg (.t 10))]))))))) (.cond (.t 6) (.seq (.reg [oo 2 (.asg (.n 2)),
 oo 3 (.asg (.n 0)),
 oo 4 (.asg (.c (.bool true)))]) .ret) (.seq (.reg [oo 12 (.bin .eql 3 0 (.t 5) (.n 8) 3),
 oo 11 (.asg (.t 12))]) (.cond (.t 11) (.seq (.reg [oo 2 (.asg (.n 1)),
 oo 3 (.asg (.n 0)),
 oo 4 (.asg (.c (.bool true)))]) .ret) (.seq (.reg [oo 14 (.bin .eql 3 0 (.t 5) (.n 9) 3),
 oo 13 (.asg (.t 14))]) (.cond (.t 13) (.seq (.reg [oo 2 (.asg (.n 1)),
 oo 3 (.asg (.n 2)),
 oo 4 (.asg (.c (.bool true)))]) .ret) (.seq (.reg [oo 16 (.bin .eql 3 0 (.t 5) (.n 10) 3),
 oo 15 (.asg (.t 16))]) (.cond (.t 15) (.seq (.reg [oo 2 (.asg (.n 1)),
 oo 3 (.asg (.n 3)),
 oo 4 (.asg (.c (.bool true)))]) .ret) (.seq (.reg [oo 18 (.bin .eql 3 0 (.t 5) (.n 11) 3),
 oo 17 (.asg (.t 18))]) (.cond (.t 17) (.seq (.reg [oo 2 (.asg (.n 1)),
 oo 3 (.asg (.n 1)),
 oo 4 (.asg (.c (.bool true)))]) .ret) .skip)))))))))))) (.seq (.reg [oo 2 (.asg (.n 0)),
 oo 3 (.asg (.n 0)),
 oo 4 (.asg (.c (.bool false)))]) .ret)))
abbrev b9w:Nat:=176
theorem b59:fnC pg 176 19 [(.tmp 2),(.tmp 3),(.tmp 4)] b3k:=a0s Go.Proofs.Tryz.f176 [(.tmp 2),(.tmp 3),(.tmp 4)] (by kernel_rfl)
def b63:IC:=(.seq (.reg [oo 4 (.asg (.c (.bool false)))]) (.seq (.seq (.reg [om 5 1]) (.cond (.t 5) (.seq (.reg [om 6 0,
 oc 7 178 [(false,(.t 6)),(false,(.n (-2147483648))),(false,(.n 2147483647))] [3,3,3],
 oo 4 (.asg (.t 7))]) .ret) .skip)) (.seq (.reg [om 8 0,
 oc 9 178 [(false,(.t 8)),(false,(.n (-128))),(false,(.n 127))] [3,3,3],
 oo 4 (.asg (.t 9))]) .ret)))
abbrev c8b:Nat:=177
theorem c2d:fnC pg 177 10 [(.tmp 4)] b63:=a0s Go.Proofs.Tryz.f177 [(.tmp 4)] (by kernel_rfl)
def c2b:IC:=(.seq (.reg [oo 6 (.asg (.c (.bool false)))]) (.seq (.reg [om 7 0,
 om 8 1,
 oo 9 (.bin .geq 3 0 (.t 7) (.t 8) 3),
 om 10 9,
 og 11 (.mv (.t 0)) 3 10 true,
 og 12 (.mv (.t 2)) 3 10 true,
 og 13 (.bin .leq 3 0 (.t 11) (.t 12) 3) 3 10 true,
 oo 14 (.pick (.t 10) (.t 13) (.c (.bool false))),
 oo 6 (.asg (.t 14))]) .ret))
abbrev c8a:Nat:=178
theorem c2c:fnC pg 178 15 [(.tmp 6)] c2b:=a0s Go.Proofs.Tryz.f178 [(.tmp 6)] (by kernel_rfl)
def a8u:IC:=(.seq (.reg [oo 2 (.asg (.c (.bool false)))]) (.seq (.reg [om 3 0,
 oo 4 (.bin .geq 3 0 (.t 3) (.n 4) 3),
 om 5 4,
 og 6 (.mv (.t 0)) 2 5 true,
 og 7 (.bin .leq 3 0 (.t 6) (.n 21) 3) 2 5 true,
 oo 8 (.pick (.t 5) (.t 7) (.c (.bool false))),
 oo 2 (.asg (.t 8))]) .ret))
abbrev a1j:Nat:=76
theorem b1t:fnC pg 76 9 [(.tmp 2)] a8u:=a0s Go.Proofs.Tryz.f76 [(.tmp 2)] (by kernel_rfl)
def a7d:IC:=(.seq (.reg [oo 2 (.asg (.n 0))]) (.seq (.seq (.reg [om 3 0]) (.block 0 (.seq (.seq (.reg [oo 5 (.bin .eql 3 0 (.t 3) (.n 4) 3),
 oo 4 (.asg (.t 5))]) (.cond (.t 4) .skip (.seq (.reg [oo 6 (.bin .eql 3 0 (.t 3) (.n 5) 3),
 oo 4 (.asg (.t 6))]) (.cond (.t 4) .skip (.seq (.reg [oo 7 (.bin .eql 3 0 (.t 3) (.n 6) 3),
 oo 4 (.asg (.t 7))]) (.cond (.t 4) .skip (.seq (.reg [oo 8 (.bin .eql 3 0 (.t 3) (.n 7) 3),
 oo 4 (.asg (.t 8))]) (.cond (.t 4) .skip (.seq (.reg [oo 9 (.bin .eql 3 0 (.t 3) (.n 12) 3),
 oo 4 (.asg (.t 9))]) (.cond (.t 4) .skip (.seq (.reg [oo 10 (.bin .eql 3 0 (.t 3) (.n 13) 3),
 oo 4 (.asg (.t 10))]) (.cond (.t 4) .skip (.seq (.reg [oo 11 (.bin .eql 3 0 (.t 3) (.n 16) 3),
 oo 4 (.asg (.t 11))]) (.cond (.t 4) .skip (.reg [oo 12 (.bin .eql 3 0 (.t 3) (.n 17) 3),
 oo 4 (.asg (.t 12))]))))))))))))))) (.cond (.t 4) (.seq (.reg [oo 2 (.asg (.n 2))]) .ret) .skip)))) (.seq (.seq (.reg [om 13 0,
 oc 14 76 [(false,(.t 13))] [3]]) (.cond (.t 14) (.seq (.reg [oo 2 (.asg (.n 1))]) .ret) .skip)) (.seq (.reg [oo 2 (.asg (.n 0))]) .ret))))
abbrev b6s:Nat:=86
theorem b3o:fnC pg 86 15 [(.tmp 2)] a7d:=a0s Go.Proofs.Tryz.f86 [(.tmp 2)] (by kernel_rfl)
def a6l:IC:=(.seq (.reg [oo 2 (.asg (.n 0))]) (.seq (.seq (.reg [om 3 0]) (.block 0 (.seq (.seq (.reg [oo 5 (.bin .eql 3 0 (.t 3) (.n 9) 3),
 oo 4 (.asg (.t 5))]) (.cond (.t 4) .skip (.seq (.reg [oo 6 (.bin .eql 3 0 (.t 3) (.n 12) 3),
 oo 4 (.asg (.t 6))]) (.cond (.t 4) .skip (.seq (.reg [oo 7 (.bin .eql 3 0 (.t 3) (.n 14) 3),
 oo 4 (.asg (.t 7))]) (.cond (.t 4) .skip (.reg [oo 8 (.bin .eql 3 0 (.t 3) (.n 15) 3),
 oo 4 (.asg (.t 8))]))))))) (.cond (.t 4) (.seq (.reg [oo 2 (.asg (.n 2))]) .ret) (.seq (.seq (.reg [oo 10 (.bin .eql 3 0 (.t 3) (.n 10) 3),
 oo 9 (.asg (.t 10))]) (.cond (.t 9) .skip (.reg [oo 11 (.bin .eql 3 0 (.t 3) (.n 13) 3),
 oo 9 (.asg (.t 11))]))) (.cond (.t 9) (.seq (.reg [oo 2 (.asg (.n 3))]) .ret) (.seq (.reg [oo 13 (.bin .eql 3 0 (.t 3) (.n 11) 3),
 oo 12 (.asg (.t 13))]) (.cond (.t 12) (.seq (.reg [oo 2 (.asg (.n 1))]) .ret) .skip)))))))) (.seq (.reg [oo 2 (.asg (.n 0))]) .ret)))
abbrev b52:Nat:=87
theorem b2t:fnC pg 87 14 [(.tmp 2)] a6l:=a0s Go.Proofs.Tryz.f87 [(.tmp 2)] (by kernel_rfl)
def a06:IC:=(.seq (.reg [oo 6 (.alloc 76 [.own 1 0 [],.lit (.bool false)]),
 oo 7 (.asg (.n 0))]) (.seq (.reg [om 14 0,
 oo 15 (.bin .eql 3 0 (.t 14) (.n 4) 3),
 om 16 15,
 og 17 (.mv (.t 0)) 2 16 false,
 og 18 (.bin .eql 3 0 (.t 17) (.n 5) 3) 2 16 false,
 oo 19 (.pick (.t 16) (.c (.bool true)) (.t 18)),
 om 20 19,
 og 21 (.mv (.t 0)) 6 20 false,
 og 22 (.bin .eql 3 0 (.t 21) (.n 6) 3) 6 20 false,
 oo 23 (.pick (.t 20) (.c (.bool true)) (.t 22)),
 om 24 23,
 og 25 (.mv (.t 0)) 10 24 false,
 og 26 (.bin .eql 3 0 (.t 25) (.n 7) 3) 10 24 false,
 oo 27 (.pick (.t 24) (.c (.bool true)) (.t 26)),
 oo 8 (.asg (.t 27))]) (.seq (.seq (.reg [om 28 8,
 oo 29 (.un .not 4 (.t 28)),
 om 30 29,
 og 31 (.mv (.t 0)) 2 30 true,
 og 32 (.bin .neq 3 0 (.t 31) (.n 8) 3) 2 30 true,
 oo 33 (.pick (.t 30) (.t 32) (.c (.bool false))),
 om 34 33,
 og 35 (.mv (.t 0)) 6 34 true,
 og 36 (.bin .neq 3 0 (.t 35) (.n 9) 3) 6 34 true,
 oo 37 (.pick (.t 34) (.t 36) (.c (.bool false))),
 om 38 37,
 og 39 (.mv (.t 0)) 10 38 true,
 og 40 (.bin .neq 3 0 (.t 39) (.n 10) 3) 10 38 true,
 oo 41 (.pick (.t 38) (.t 40) (.c (.bool false))),
 om 42 41,
 og 43 (.mv (.t 0)) 14 42 true,
 og 44 (.bin .neq 3 0 (.t 43) (.n 11) 3) 14 42 true,
 oo 45 (.pick (.t 42) (.t 44) (.c (.bool false)))]) (.cond (.t 45) (.seq (.reg [oo 46 (.build 76 [.sl 0 [],.lit (.bool false)] []),
 ov (.store 76 2 (.t 6) (.t 46)),
 oo 7 (.asg (.n 103))]) .ret) .skip)) (.seq (.reg [oo 9 (.asg (.n 0))]) (.seq (.reg [oo 10 (.asg (.n 1))]) (.seq (.seq (.reg [om 47 0]) (.block 0 (.seq (.reg [oo 49 (.bin .eql 3 0 (.t 47) (.n 9) 3),
 oo 48 (.asg (.t 49))]) (.cond (.t 48) (.reg [oo 9 (.asg (.n 2))]) (.seq (.reg [oo 51 (.bin .eql 3 0 (.t 47) (.n 10) 3),
 oo 50 (.asg (.t 51))]) (.cond (.t 50) (.reg [oo 9 (.asg (.n 3))]) (.seq (.reg [oo 53 (.bin .eql 3 0 (.t 47) (.n 11) 3),
 oo 52 (.asg (.t 53))]) (.cond (.t 52) (.reg [oo 9 (.asg (.n 1))]) .skip)))))))) (.seq (.seq (.reg [om 54 8]) (.cond (.t 54) (.reg [oo 10 (.asg (.n 2))]) .skip)) (.seq (.seq (.reg [om 55 1,
 oo 56 (.len 74 false (.t 55)),
 om 57 9,
 oo 58 (.bin .neq 3 0 (.t 56) (.t 57) 3),
 om 59 58,
 og 60 (.mv (.t 2)) 4 59 false,
 og 61 (.len 24 false (.t 60)) 4 59 false,
 og 62 (.mv (.t 10)) 4 59 false,
 og 63 (.bin .neq 3 0 (.t 61) (.t 62) 3) 4 59 false,
 oo 64 (.pick (.t 59) (.c (.bool true)) (.t 63))]) (.cond (.t 64) (.seq (.reg [oo 65 (.build 76 [.sl 0 [],.lit (.bool false)] []),
 ov (.store 76 2 (.t 6) (.t 65)),
 oo 7 (.asg (.n 101))]) .ret) .skip)) (.seq (.reg [om 66 2,
 oc 67 135 [(false,(.t 66))] [24],
 oo 11 (.asg (.t 67))]) (.seq (.seq (.reg [om 68 11,
 oo 69 (.bin .neq 3 0 (.t 68) (.n 0) 3)]) (.cond (.t 69) (.seq (.reg [oo 70 (.build 76 [.sl 0 [],.lit (.bool false)] []),
 om 71 11,
 ov (.store 76 2 (.t 6) (.t 70)),
 oo 7 (.asg (.t 71))]) .ret) .skip)) (.seq (.reg [om 72 2,
 oo 73 (.iaddr 24 2 (.t 72) (.n 0)),
 oo 74 (.load 76 (some 2) (.t 73)),
 oo 12 (.alloc 76 [.own 1 0 [],.lit (.bool false)]),
 ov (.store 76 2 (.t 12) (.t 74))]) (.seq (.seq (.draw [om 75 8,
 om 76 75,
 og 77 (.load 76 (some 2) (.t 12)) 1 76 true,
 og 78 (.mv (.t 2)) 1 76 true,
 og 79 (.iaddr 24 2 (.t 78) (.n 1)) 1 76 true,
 og 80 (.load 76 (some 2) (.t 79)) 1 76 true,
 ⟨(some 81),.call 45 [(false,(.t 77)),(false,(.t 80))] [76,76],(some (1,76,true))⟩,
 og 82 (.un .not 4 (.t 81)) 1 76 true,
 oo 83 (.pick (.t 76) (.t 82) (.c (.bool false))),
 om 84 83,
 og 85 (.mv (.t 0)) 9 84 false,
 og 86 (.bin .eql 3 0 (.t 85) (.n 10) 3) 9 84 false,
 og 87 (.mv (.t 86)) 9 84 false,
 og 88 (.faddr 76 1 (.t 12) 1) 12 87 true,
 og 89 (.load 4 none (.t 88)) 12 87 true,
 og 90 (.un .not 4 (.t 89)) 12 87 true,
 og 91 (.pick (.t 87) (.t 90) (.c (.bool false))) 9 84 false,
 oo 92 (.pick (.t 84) (.c (.bool true)) (.t 91)),
 om 93 92,
 og 94 (.mv (.t 0)) 18 93 false,
 og 95 (.bin .eql 3 0 (.t 94) (.n 11) 3) 18 93 false,
 og 96 (.mv (.t 95)) 18 93 false,
 og 97 (.faddr 76 1 (.t 12) 1) 21 96 true,
 og 98 (.load 4 none (.t 97)) 21 96 true,
 og 99 (.pick (.t 96) (.t 98) (.c (.bool false))) 18 93 false,
 oo 100 (.pick (.t 93) (.c (.bool true)) (.t 99))] [[],[0],[1],[1],[3,1],[4,1],[2,5,1,1],[6,1],[1,7],[8,6],[9],[10,9],[11,9,9],[12],[13,12],[14,12],[12,15,9],[9,16],[17,12],[18],[19,18],[20,18,18],[21],[22,21],[21,23,18],[18,24]]) (.cond (.t 100) (.seq (.reg [oo 101 (.build 76 [.sl 0 [],.lit (.bool false)] []),
 ov (.store 76 2 (.t 6) (.t 101)),
 oo 7 (.asg (.n 101))]) .ret) .skip)) (.seq (.reg [oo 102 (.load 76 (some 2) (.t 12)),
 oc 103 102 [(false,(.t 102))] [76],
 oo 13 (.alloc 76 [.own 1 0 [],.lit (.bool false)]),
 ov (.store 76 2 (.t 13) (.t 103))]) (.seq (.seq (.reg [om 104 0]) (.block 1 (.seq (.reg [oo 106 (.bin .eql 3 0 (.t 104) (.n 9) 3),
 oo 105 (.asg (.t 106))]) (.cond (.t 105) (.seq (.draw [om 107 1,
 oo 108 (.iaddr 74 1 (.t 107) (.n 0)),
 oo 109 (.load 3 none (.t 108)),
 oo 110 (.faddr 76 1 (.t 12) 1),
 oo 111 (.load 4 none (.t 110)),
 oc 112 84 [(false,(.t 109)),(false,(.t 111))] [3,4],
 oo 113 (.un .not 4 (.t 112)),
 om 114 113,
 og 115 (.mv (.t 1)) 7 114 false,
 og 116 (.iaddr 74 1 (.t 115) (.n 1)) 7 114 false,
 og 117 (.load 3 none (.t 116)) 7 114 false,
 og 118 (.faddr 76 1 (.t 12) 1) 7 114 false,
 og 119 (.load 4 none (.t 118)) 7 114 false,
 ⟨(some 120),.call 84 [(false,(.t 117)),(false,(.t 119))] [3,4],(some (7,114,false))⟩,
 og 121 (.un .not 4 (.t 120)) 7 114 false,
 oo 122 (.pick (.t 114) (.c (.bool true)) (.t 121)),
 om 123 122,
 og 124 (.mv (.t 1)) 16 123 false,
 og 125 (.iaddr 74 1 (.t 124) (.n 0)) 16 123 false,
 og 126 (.load 3 none (.t 125)) 16 123 false,
 og 127 (.mv (.t 1)) 16 123 false,
 og 128 (.iaddr 74 1 (.t 127) (.n 1)) 16 123 false,
 og 129 (.load 3 none (.t 128)) 16 123 false,
 og 130 (.bin .gtr 3 0 (.t 126) (.t 129) 3) 16 123 false,
 oo 131 (.pick (.t 123) (.c (.bool true)) (.t 130))] [[],[0],[1],[],[3],[2,4],[5],[6,5],[7],[8,7],[9,7],[7],[11,7],[10,12,7,7],[13,7],[7,14],[15,13],[16],[17,16],[18,16],[16],[20,16],[21,16],[19,22,16],[16,23]]) (.cond (.t 131) (.seq (.reg [oo 132 (.build 76 [.sl 0 [],.lit (.bool false)] []),
 ov (.store 76 2 (.t 6) (.t 132)),
 oo 7 (.asg (.n 102))]) .ret) .skip)) (.seq (.reg [oo 134 (.bin .eql 3 0 (.t 104) (.n 10) 3),
 oo 133 (.asg (.t 134))]) (.cond (.t 133) (.seq (.seq (.reg [om 135 1,
 oo 136 (.iaddr 74 1 (.t 135) (.n 0)),
 oo 137 (.load 3 none (.t 136)),
 oo 138 (.bin .lss 3 0 (.t 137) (.n 0) 3),
 om 139 138,
 og 140 (.mv (.t 1)) 4 139 false,
 og 141 (.iaddr 74 1 (.t 140) (.n 0)) 4 139 false,
 og 142 (.load 3 none (.t 141)) 4 139 false,
 og 143 (.bin .gtr 3 0 (.t 142) (.n 2147483647) 3) 4 139 false,
 oo 144 (.pick (.t 139) (.c (.bool true)) (.t 143)),
 om 145 144,
 og 146 (.mv (.t 1)) 10 145 false,
 og 147 (.iaddr 74 1 (.t 146) (.n 1)) 10 145 false,
 og 148 (.load 3 none (.t 147)) 10 145 false,
 og 149 (.bin .lss 3 0 (.t 148) (.n 0) 3) 10 145 false,
 oo 150 (.pick (.t 145) (.c (.bool true)) (.t 149)),
 om 151 150,
 og 152 (.mv (.t 1)) 16 151 false,
 og 153 (.iaddr 74 1 (.t 152) (.n 1)) 16 151 false,
 og 154 (.load 3 none (.t 153)) 16 151 false,
 og 155 (.bin .gtr 3 0 (.t 154) (.n 62) 3) 16 151 false,
 oo 156 (.pick (.t 151) (.c (.bool true)) (.t 155)),
 om 157 156,
 og 158 (.mv (.t 1)) 22 157 false,
 og 159 (.iaddr 74 1 (.t 158) (.n 2)) 22 157 false,
 og 160 (.load 3 none (.t 159)) 22 157 false,
 ⟨(some 161),.call 136 [(false,(.t 160))] [3],(some (22,157,false))⟩,
 og 162 (.un .not 4 (.t 161)) 22 157 false,
 oo 163 (.pick (.t 157) (.c (.bool true)) (.t 162))]) (.cond (.t 163) (.seq (.reg [oo 164 (.build 76 [.sl 0 [],.lit (.bool false)] []),
 ov (.store 76 2 (.t 6) (.t 164)),
 oo 7 (.asg (.n 102))]) .ret) .skip)) (.reg [oo 165 (.faddr 76 1 (.t 13) 1),
 ov (.store 4 1 (.t 165) (.c (.bool false)))])) (.seq (.reg [oo 167 (.bin .eql 3 0 (.t 104) (.n 11) 3),
 oo 166 (.asg (.t 167))]) (.cond (.t 166) (.seq (.seq (.reg [om 168 1,
 oo 169 (.iaddr 74 1 (.t 168) (.n 0)),
 oo 170 (.load 3 none (.t 169)),
 oc 171 136 [(false,(.t 170))] [3],
 oo 172 (.un .not 4 (.t 171))]) (.cond (.t 172) (.seq (.reg [oo 173 (.build 76 [.sl 0 [],.lit (.bool false)] []),
 ov (.store 76 2 (.t 6) (.t 173)),
 oo 7 (.asg (.n 102))]) .ret) .skip)) (.reg [oo 174 (.faddr 76 1 (.t 13) 1),
 ov (.store 4 1 (.t 174) (.c (.bool true)))])) .skip)))))))) (.seq (.reg [oo 175 (.load 76 (some 2) (.t 13)),
 ov (.store 76 2 (.t 6) (.t 175)),
 oo 7 (.asg (.n 0))]) .ret)))))))))))))))
abbrev a09:Nat:=85
theorem a02:fnC pg 85 176 [(.cells 6 2),(.tmp 7)] a06:=a0s Go.Proofs.Tryz.f85 [(.cell 6 76),(.tmp 7)] (by kernel_rfl)
def a6b:IC:=(.seq (.reg [oo 6 (.box 76 2 (.t 2)),
 oo 7 (.box 76 2 (.t 3)),
 oo 8 (.alloc 76 [.own 1 0 [],.lit (.bool false)]),
 oo 9 (.asg (.n 0))]) (.seq (.reg [oo 11 (.load 76 (some 2) (.t 6)),
 oo 12 (.load 76 (some 2) (.t 7)),
 oo 13 (.bslice 24 76 2 2 [.own 1 0 [],.lit (.bool false)] [(0,(.t 11)),(1,(.t 12))]),
 oc 14 135 [(false,(.t 13))] [24],
 oo 10 (.asg (.t 14))]) (.seq (.seq (.reg [om 15 10,
 oo 16 (.bin .neq 3 0 (.t 15) (.n 0) 3)]) (.cond (.t 16) (.seq (.reg [oo 17 (.build 76 [.sl 0 [],.lit (.bool false)] []),
 om 18 10,
 ov (.store 76 2 (.t 8) (.t 17)),
 oo 9 (.asg (.t 18))]) .ret) .skip)) (.seq (.seq (.draw [oo 19 (.faddr 76 0 (.t 6) 0),
 oo 20 (.load 74 none (.t 19)),
 oo 21 (.len 74 false (.t 20)),
 oo 22 (.bin .neq 3 0 (.t 21) (.n 2) 3),
 om 23 22,
 og 24 (.faddr 76 0 (.t 7) 0) 4 23 false,
 og 25 (.load 74 none (.t 24)) 4 23 false,
 og 26 (.len 74 false (.t 25)) 4 23 false,
 og 27 (.bin .neq 3 0 (.t 26) (.n 2) 3) 4 23 false,
 oo 28 (.pick (.t 23) (.c (.bool true)) (.t 27)),
 om 29 28,
 og 30 (.faddr 76 1 (.t 6) 1) 10 29 false,
 og 31 (.load 4 none (.t 30)) 10 29 false,
 oo 32 (.pick (.t 29) (.c (.bool true)) (.t 31)),
 om 33 32,
 og 34 (.faddr 76 1 (.t 7) 1) 14 33 false,
 og 35 (.load 4 none (.t 34)) 14 33 false,
 oo 36 (.pick (.t 33) (.c (.bool true)) (.t 35)),
 om 37 36,
 og 38 (.faddr 76 0 (.t 6) 0) 18 37 false,
 og 39 (.load 74 none (.t 38)) 18 37 false,
 og 40 (.iaddr 74 1 (.t 39) (.n 1)) 18 37 false,
 og 41 (.load 3 none (.t 40)) 18 37 false,
 og 42 (.faddr 76 0 (.t 7) 0) 18 37 false,
 og 43 (.load 74 none (.t 42)) 18 37 false,
 og 44 (.iaddr 74 1 (.t 43) (.n 0)) 18 37 false,
 og 45 (.load 3 none (.t 44)) 18 37 false,
 og 46 (.bin .neq 3 0 (.t 41) (.t 45) 3) 18 37 false,
 oo 47 (.pick (.t 37) (.c (.bool true)) (.t 46))] [[],[0],[1],[2],[3],[4],[5,4],[6,4],[7,4],[4,8],[9,4],[10],[11,10],[10,12],[13,10],[14],[15,14],[14,16],[17,14],[18],[19,18],[20,18],[21,18],[18],[23,18],[24,18],[25,18],[22,26,18],[18,27]]) (.cond (.t 47) (.seq (.reg [oo 48 (.build 76 [.sl 0 [],.lit (.bool false)] []),
 ov (.store 76 2 (.t 8) (.t 48)),
 oo 9 (.asg (.n 101))]) .ret) .skip)) (.seq (.seq (.reg [om 49 0,
 oc 50 136 [(false,(.t 49))] [3],
 oo 51 (.un .not 4 (.t 50)),
 om 52 51,
 og 53 (.mv (.t 1)) 3 52 false,
 ⟨(some 54),.call 136 [(false,(.t 53))] [3],(some (3,52,false))⟩,
 og 55 (.un .not 4 (.t 54)) 3 52 false,
 oo 56 (.pick (.t 52) (.c (.bool true)) (.t 55))]) (.cond (.t 56) (.seq (.reg [oo 57 (.build 76 [.sl 0 [],.lit (.bool false)] []),
 ov (.store 76 2 (.t 8) (.t 57)),
 oo 9 (.asg (.n 102))]) .ret) .skip)) (.seq (.draw [oo 58 (.faddr 76 0 (.t 6) 0),
 oo 59 (.load 74 none (.t 58)),
 oo 60 (.iaddr 74 1 (.t 59) (.n 0)),
 oo 61 (.load 3 none (.t 60)),
 oo 62 (.faddr 76 0 (.t 7) 0),
 oo 63 (.load 74 none (.t 62)),
 oo 64 (.iaddr 74 1 (.t 63) (.n 1)),
 oo 65 (.load 3 none (.t 64)),
 oo 66 (.bslice 74 3 1 2 [.lit (.int .i64 0)] [(0,(.t 61)),(1,(.t 65))]),
 oo 67 (.build 76 [.own 1 0 [],.lit (.bool false)] [(0,0,1,(.t 66)),(1,1,1,(.c (.bool true)))]),
 oc 68 92 [(false,(.t 67))] [76],
 oo 69 (.ext (.t 68) 0),
 oo 70 (.ext (.t 68) 1),
 ov (.store 76 2 (.t 8) (.t 69)),
 oo 9 (.asg (.t 70))] [[],[0],[1],[2],[],[4],[5],[6],[3,7],[8],[9],[10],[10],[11,10,0,1,2,3,4,5,6,7,8,9,10,11,12],[12,13,0,1,2,3,4,5,6,7,8,9,10,11,12,13]]) .ret))))))
abbrev b0c:Nat:=88
theorem a8v:fnC pg 88 71 [(.cells 8 2),(.tmp 9)] a6b:=a0s Go.Proofs.Tryz.f88 [(.cell 8 76),(.tmp 9)] (by kernel_rfl)
def a5t:IC:=(.seq (.reg [oo 4 (.box 76 2 (.t 1)),
 oo 5 (.box 76 2 (.t 2)),
 oo 6 (.alloc 76 [.own 1 0 [],.lit (.bool false)]),
 oo 7 (.asg (.n 0))]) (.seq (.seq (.reg [om 13 0,
 oo 14 (.len 74 false (.t 13)),
 oo 15 (.bin .neq 3 0 (.t 14) (.n 3) 3)]) (.cond (.t 15) (.seq (.reg [oo 16 (.build 76 [.sl 0 [],.lit (.bool false)] []),
 ov (.store 76 2 (.t 6) (.t 16)),
 oo 7 (.asg (.n 101))]) .ret) .skip)) (.seq (.reg [oo 17 (.load 76 (some 2) (.t 4)),
 oo 18 (.load 76 (some 2) (.t 5)),
 oo 19 (.bslice 24 76 2 2 [.own 1 0 [],.lit (.bool false)] [(0,(.t 17)),(1,(.t 18))]),
 oc 20 135 [(false,(.t 19))] [24],
 oo 8 (.asg (.t 20))]) (.seq (.seq (.reg [om 21 8,
 oo 22 (.bin .neq 3 0 (.t 21) (.n 0) 3)]) (.cond (.t 22) (.seq (.reg [oo 23 (.build 76 [.sl 0 [],.lit (.bool false)] []),
 om 24 8,
 ov (.store 76 2 (.t 6) (.t 23)),
 oo 7 (.asg (.t 24))]) .ret) .skip)) (.seq (.seq (.draw [oo 25 (.faddr 76 0 (.t 4) 0),
 oo 26 (.load 74 none (.t 25)),
 oo 27 (.len 74 false (.t 26)),
 oo 28 (.bin .neq 3 0 (.t 27) (.n 3) 3),
 om 29 28,
 og 30 (.faddr 76 0 (.t 5) 0) 4 29 false,
 og 31 (.load 74 none (.t 30)) 4 29 false,
 og 32 (.len 74 false (.t 31)) 4 29 false,
 og 33 (.bin .neq 3 0 (.t 32) (.n 4) 3) 4 29 false,
 oo 34 (.pick (.t 29) (.c (.bool true)) (.t 33)),
 om 35 34,
 og 36 (.faddr 76 1 (.t 4) 1) 10 35 false,
 og 37 (.load 4 none (.t 36)) 10 35 false,
 oo 38 (.pick (.t 35) (.c (.bool true)) (.t 37)),
 om 39 38,
 og 40 (.faddr 76 1 (.t 5) 1) 14 39 false,
 og 41 (.load 4 none (.t 40)) 14 39 false,
 oo 42 (.pick (.t 39) (.c (.bool true)) (.t 41)),
 om 43 42,
 og 44 (.faddr 76 0 (.t 4) 0) 18 43 false,
 og 45 (.load 74 none (.t 44)) 18 43 false,
 og 46 (.iaddr 74 1 (.t 45) (.n 2)) 18 43 false,
 og 47 (.load 3 none (.t 46)) 18 43 false,
 og 48 (.faddr 76 0 (.t 5) 0) 18 43 false,
 og 49 (.load 74 none (.t 48)) 18 43 false,
 og 50 (.iaddr 74 1 (.t 49) (.n 2)) 18 43 false,
 og 51 (.load 3 none (.t 50)) 18 43 false,
 og 52 (.bin .neq 3 0 (.t 47) (.t 51) 3) 18 43 false,
 oo 53 (.pick (.t 43) (.c (.bool true)) (.t 52))] [[],[0],[1],[2],[3],[4],[5,4],[6,4],[7,4],[4,8],[9,4],[10],[11,10],[10,12],[13,10],[14],[15,14],[14,16],[17,14],[18],[19,18],[20,18],[21,18],[18],[23,18],[24,18],[25,18],[22,26,18],[18,27]]) (.cond (.t 53) (.seq (.reg [oo 54 (.build 76 [.sl 0 [],.lit (.bool false)] []),
 ov (.store 76 2 (.t 6) (.t 54)),
 oo 7 (.asg (.n 101))]) .ret) .skip)) (.seq (.reg [om 55 0,
 oo 56 (.iaddr 74 1 (.t 55) (.n 0)),
 oo 57 (.load 3 none (.t 56)),
 oo 9 (.asg (.t 57))]) (.seq (.reg [om 58 0,
 oo 59 (.iaddr 74 1 (.t 58) (.n 1)),
 oo 60 (.load 3 none (.t 59)),
 oo 10 (.asg (.t 60))]) (.seq (.seq (.reg [om 61 9,
 oo 62 (.bin .lss 3 0 (.t 61) (.n 1) 3),
 om 63 62,
 og 64 (.mv (.t 9)) 2 63 false,
 og 65 (.bin .gtr 3 0 (.t 64) (.n 16) 3) 2 63 false,
 oo 66 (.pick (.t 63) (.c (.bool true)) (.t 65)),
 om 67 66,
 og 68 (.mv (.t 10)) 6 67 false,
 og 69 (.bin .lss 3 0 (.t 68) (.n 0) 3) 6 67 false,
 oo 70 (.pick (.t 67) (.c (.bool true)) (.t 69)),
 om 71 70,
 og 72 (.mv (.t 10)) 10 71 false,
 og 73 (.bin .gtr 3 0 (.t 72) (.n 15) 3) 10 71 false,
 oo 74 (.pick (.t 71) (.c (.bool true)) (.t 73)),
 om 75 74,
 og 76 (.mv (.t 0)) 14 75 false,
 og 77 (.iaddr 74 1 (.t 76) (.n 2)) 14 75 false,
 og 78 (.load 3 none (.t 77)) 14 75 false,
 ⟨(some 79),.call 136 [(false,(.t 78))] [3],(some (14,75,false))⟩,
 og 80 (.un .not 4 (.t 79)) 14 75 false,
 oo 81 (.pick (.t 75) (.c (.bool true)) (.t 80))]) (.cond (.t 81) (.seq (.reg [oo 82 (.build 76 [.sl 0 [],.lit (.bool false)] []),
 ov (.store 76 2 (.t 6) (.t 82)),
 oo 7 (.asg (.n 102))]) .ret) .skip)) (.seq (.seq (.draw [oo 83 (.faddr 76 0 (.t 5) 0),
 oo 84 (.load 74 none (.t 83)),
 oo 85 (.iaddr 74 1 (.t 84) (.n 0)),
 oo 86 (.load 3 none (.t 85)),
 oo 87 (.faddr 76 0 (.t 4) 0),
 oo 88 (.load 74 none (.t 87)),
 oo 89 (.iaddr 74 1 (.t 88) (.n 0)),
 oo 90 (.load 3 none (.t 89)),
 om 91 10,
 oo 92 (.bin .mul 3 0 (.n 2) (.t 91) 3),
 oo 93 (.bin .add 3 0 (.t 90) (.t 92) 3),
 oo 94 (.bin .gtr 3 0 (.t 86) (.t 93) 3),
 om 95 94,
 og 96 (.faddr 76 0 (.t 5) 0) 12 95 false,
 og 97 (.load 74 none (.t 96)) 12 95 false,
 og 98 (.iaddr 74 1 (.t 97) (.n 1)) 12 95 false,
 og 99 (.load 3 none (.t 98)) 12 95 false,
 og 100 (.faddr 76 0 (.t 4) 0) 12 95 false,
 og 101 (.load 74 none (.t 100)) 12 95 false,
 og 102 (.iaddr 74 1 (.t 101) (.n 1)) 12 95 false,
 og 103 (.load 3 none (.t 102)) 12 95 false,
 og 104 (.mv (.t 10)) 12 95 false,
 og 105 (.bin .mul 3 0 (.n 2) (.t 104) 3) 12 95 false,
 og 106 (.bin .add 3 0 (.t 103) (.t 105) 3) 12 95 false,
 og 107 (.bin .gtr 3 0 (.t 99) (.t 106) 3) 12 95 false,
 oo 108 (.pick (.t 95) (.c (.bool true)) (.t 107))] [[],[0],[1],[2],[],[4],[5],[6],[],[8],[7,9],[3,10],[11],[12],[13,12],[14,12],[15,12],[12],[17,12],[18,12],[19,12],[12],[21,12],[20,22,12],[16,23,12],[12,24]]) (.cond (.t 108) (.seq (.reg [oo 109 (.build 76 [.sl 0 [],.lit (.bool false)] []),
 ov (.store 76 2 (.t 6) (.t 109)),
 oo 7 (.asg (.n 101))]) .ret) .skip)) (.seq (.draw [oo 110 (.faddr 76 0 (.t 4) 0),
 oo 111 (.load 74 none (.t 110)),
 oo 112 (.iaddr 74 1 (.t 111) (.n 0)),
 oo 113 (.load 3 none (.t 112)),
 om 114 10,
 oo 115 (.bin .mul 3 0 (.n 2) (.t 114) 3),
 oo 116 (.bin .add 3 0 (.t 113) (.t 115) 3),
 oo 117 (.faddr 76 0 (.t 5) 0),
 oo 118 (.load 74 none (.t 117)),
 oo 119 (.iaddr 74 1 (.t 118) (.n 0)),
 oo 120 (.load 3 none (.t 119)),
 oo 121 (.bin .sub 3 0 (.t 116) (.t 120) 3),
 om 122 9,
 oo 123 (.bin .quo 3 0 (.t 121) (.t 122) 3),
 oo 124 (.bin .add 3 0 (.t 123) (.n 1) 3),
 oo 11 (.asg (.t 124))] [[],[0],[1],[2],[],[4],[3,5],[],[7],[8],[9],[6,10],[],[11,12],[13],[14,0,1,2,3,4,5,6,7,8,9,10,11,12,13,14]]) (.seq (.draw [oo 125 (.faddr 76 0 (.t 4) 0),
 oo 126 (.load 74 none (.t 125)),
 oo 127 (.iaddr 74 1 (.t 126) (.n 1)),
 oo 128 (.load 3 none (.t 127)),
 om 129 10,
 oo 130 (.bin .mul 3 0 (.n 2) (.t 129) 3),
 oo 131 (.bin .add 3 0 (.t 128) (.t 130) 3),
 oo 132 (.faddr 76 0 (.t 5) 0),
 oo 133 (.load 74 none (.t 132)),
 oo 134 (.iaddr 74 1 (.t 133) (.n 1)),
 oo 135 (.load 3 none (.t 134)),
 oo 136 (.bin .sub 3 0 (.t 131) (.t 135) 3),
 om 137 9,
 oo 138 (.bin .quo 3 0 (.t 136) (.t 137) 3),
 oo 139 (.bin .add 3 0 (.t 138) (.n 1) 3),
 oo 12 (.asg (.t 139))] [[],[0],[1],[2],[],[4],[3,5],[],[7],[8],[9],[6,10],[],[11,12],[13],[14,0,1,2,3,4,5,6,7,8,9,10,11,12,13,14]]) (.seq (.reg [om 140 11,
 om 141 12,
 oo 142 (.faddr 76 0 (.t 5) 0),
 oo 143 (.load 74 none (.t 142)),
 oo 144 (.iaddr 74 1 (.t 143) (.n 3)),
 oo 145 (.load 3 none (.t 144)),
 oo 146 (.bslice 74 3 1 3 [.lit (.int .i64 0)] [(0,(.t 140)),(1,(.t 141)),(2,(.t 145))]),
 oo 147 (.build 76 [.own 1 0 [],.lit (.bool false)] [(0,0,1,(.t 146)),(1,1,1,(.c (.bool true)))]),
 oc 148 92 [(false,(.t 147))] [76],
 oo 149 (.ext (.t 148) 0),
 oo 150 (.ext (.t 148) 1),
 ov (.store 76 2 (.t 6) (.t 149)),
 oo 7 (.asg (.t 150))]) .ret))))))))))))
abbrev a91:Nat:=89
theorem a74:fnC pg 89 151 [(.cells 6 2),(.tmp 7)] a5t:=a0s Go.Proofs.Tryz.f89 [(.cell 6 76),(.tmp 7)] (by kernel_rfl)
def a5u:IC:=(.seq (.reg [oo 3 (.box 76 2 (.t 1)),
 oo 4 (.alloc 76 [.own 1 0 [],.lit (.bool false)]),
 oo 5 (.asg (.n 0))]) (.seq (.seq (.reg [om 9 0,
 oo 10 (.len 74 false (.t 9)),
 oo 11 (.bin .neq 3 0 (.t 10) (.n 2) 3)]) (.cond (.t 11) (.seq (.reg [oo 12 (.build 76 [.sl 0 [],.lit (.bool false)] []),
 ov (.store 76 2 (.t 4) (.t 12)),
 oo 5 (.asg (.n 101))]) .ret) .skip)) (.seq (.reg [oo 13 (.load 76 (some 2) (.t 3)),
 oc 14 39 [(false,(.t 13))] [76],
 oo 6 (.asg (.t 14))]) (.seq (.seq (.reg [om 15 6,
 oo 16 (.bin .neq 3 0 (.t 15) (.n 0) 3)]) (.cond (.t 16) (.seq (.reg [oo 17 (.build 76 [.sl 0 [],.lit (.bool false)] []),
 om 18 6,
 ov (.store 76 2 (.t 4) (.t 17)),
 oo 5 (.asg (.t 18))]) .ret) .skip)) (.seq (.seq (.reg [oo 19 (.faddr 76 0 (.t 3) 0),
 oo 20 (.load 74 none (.t 19)),
 oo 21 (.len 74 false (.t 20)),
 oo 22 (.bin .neq 3 0 (.t 21) (.n 3) 3)]) (.cond (.t 22) (.seq (.reg [oo 23 (.build 76 [.sl 0 [],.lit (.bool false)] []),
 ov (.store 76 2 (.t 4) (.t 23)),
 oo 5 (.asg (.n 101))]) .ret) .skip)) (.seq (.reg [om 24 0,
 oo 25 (.iaddr 74 1 (.t 24) (.n 0)),
 oo 26 (.load 3 none (.t 25)),
 oo 7 (.asg (.t 26))]) (.seq (.reg [om 27 0,
 oo 28 (.iaddr 74 1 (.t 27) (.n 1)),
 oo 29 (.load 3 none (.t 28)),
 oo 8 (.asg (.t 29))]) (.seq (.seq (.reg [om 30 7,
 oo 31 (.bin .lss 3 0 (.t 30) (.n 1) 3),
 om 32 31,
 og 33 (.mv (.t 7)) 2 32 false,
 og 34 (.bin .gtr 3 0 (.t 33) (.n 16) 3) 2 32 false,
 oo 35 (.pick (.t 32) (.c (.bool true)) (.t 34)),
 om 36 35,
 og 37 (.mv (.t 8)) 6 36 false,
 og 38 (.bin .lss 3 0 (.t 37) (.n 1) 3) 6 36 false,
 oo 39 (.pick (.t 36) (.c (.bool true)) (.t 38)),
 om 40 39,
 og 41 (.mv (.t 8)) 10 40 false,
 og 42 (.bin .gtr 3 0 (.t 41) (.n 16) 3) 10 40 false,
 oo 43 (.pick (.t 40) (.c (.bool true)) (.t 42))]) (.cond (.t 43) (.seq (.reg [oo 44 (.build 76 [.sl 0 [],.lit (.bool false)] []),
 ov (.store 76 2 (.t 4) (.t 44)),
 oo 5 (.asg (.n 102))]) .ret) .skip)) (.seq (.seq (.reg [om 45 7,
 oo 46 (.faddr 76 0 (.t 3) 0),
 oo 47 (.load 74 none (.t 46)),
 oo 48 (.iaddr 74 1 (.t 47) (.n 0)),
 oo 49 (.load 3 none (.t 48)),
 oo 50 (.bin .gtr 3 0 (.t 45) (.t 49) 3),
 om 51 50,
 og 52 (.mv (.t 7)) 6 51 false,
 og 53 (.faddr 76 0 (.t 3) 0) 6 51 false,
 og 54 (.load 74 none (.t 53)) 6 51 false,
 og 55 (.iaddr 74 1 (.t 54) (.n 1)) 6 51 false,
 og 56 (.load 3 none (.t 55)) 6 51 false,
 og 57 (.bin .gtr 3 0 (.t 52) (.t 56) 3) 6 51 false,
 oo 58 (.pick (.t 51) (.c (.bool true)) (.t 57))]) (.cond (.t 58) (.seq (.reg [oo 59 (.build 76 [.sl 0 [],.lit (.bool false)] []),
 ov (.store 76 2 (.t 4) (.t 59)),
 oo 5 (.asg (.n 101))]) .ret) .skip)) (.seq (.draw [oo 60 (.faddr 76 0 (.t 3) 0),
 oo 61 (.load 74 none (.t 60)),
 oo 62 (.iaddr 74 1 (.t 61) (.n 0)),
 oo 63 (.load 3 none (.t 62)),
 om 64 7,
 oo 65 (.bin .sub 3 0 (.t 63) (.t 64) 3),
 om 66 8,
 oo 67 (.bin .quo 3 0 (.t 65) (.t 66) 3),
 oo 68 (.bin .add 3 0 (.t 67) (.n 1) 3),
 oo 69 (.faddr 76 0 (.t 3) 0),
 oo 70 (.load 74 none (.t 69)),
 oo 71 (.iaddr 74 1 (.t 70) (.n 1)),
 oo 72 (.load 3 none (.t 71)),
 om 73 7,
 oo 74 (.bin .sub 3 0 (.t 72) (.t 73) 3),
 om 75 8,
 oo 76 (.bin .quo 3 0 (.t 74) (.t 75) 3),
 oo 77 (.bin .add 3 0 (.t 76) (.n 1) 3),
 oo 78 (.faddr 76 0 (.t 3) 0),
 oo 79 (.load 74 none (.t 78)),
 oo 80 (.iaddr 74 1 (.t 79) (.n 2)),
 oo 81 (.load 3 none (.t 80)),
 oo 82 (.bslice 74 3 1 3 [.lit (.int .i64 0)] [(0,(.t 68)),(1,(.t 77)),(2,(.t 81))]),
 oo 83 (.faddr 76 1 (.t 3) 1),
 oo 84 (.load 4 none (.t 83)),
 oo 85 (.build 76 [.own 1 0 [],.lit (.bool false)] [(0,0,1,(.t 82)),(1,1,1,(.t 84))]),
 oc 86 92 [(false,(.t 85))] [76],
 oo 87 (.ext (.t 86) 0),
 oo 88 (.ext (.t 86) 1),
 ov (.store 76 2 (.t 4) (.t 87)),
 oo 5 (.asg (.t 88))] [[],[0],[1],[2],[],[3,4],[],[5,6],[7],[],[9],[10],[11],[],[12,13],[],[14,15],[16],[],[18],[19],[20],[8,17,21],[],[23],[22,24],[25],[26],[26],[27,26,0,1,2,3,4,5,6,7,8,9,10,11,12,13,14,15,16,17,18,19,20,21,22,23,24,25,26,27,28],[28,29,0,1,2,3,4,5,6,7,8,9,10,11,12,13,14,15,16,17,18,19,20,21,22,23,24,25,26,27,28,29]]) .ret))))))))))
abbrev a92:Nat:=90
theorem a75:fnC pg 90 89 [(.cells 4 2),(.tmp 5)] a5u:=a0s Go.Proofs.Tryz.f90 [(.cell 4 76),(.tmp 5)] (by kernel_rfl)
def a11:IC:=(.seq (.reg [oo 4 (.alloc 76 [.own 1 0 [],.lit (.bool false)]),
 oo 5 (.asg (.n 0))]) (.seq (.reg [oo 6 (.asg (.n 1))]) (.seq (.seq (.reg [om 10 0]) (.block 0 (.seq (.seq (.reg [oo 13 (.bin .eql 3 0 (.t 10) (.n 16) 3),
 oo 12 (.asg (.t 13))]) (.cond (.t 12) .skip (.reg [oo 14 (.bin .eql 3 0 (.t 10) (.n 17) 3),
 oo 12 (.asg (.t 14))]))) (.cond (.t 12) (.reg [oo 6 (.asg (.n 2))]) (.seq (.seq (.reg [oo 16 (.bin .eql 3 0 (.t 10) (.n 19) 3),
 oo 15 (.asg (.t 16))]) (.cond (.t 15) .skip (.reg [oo 17 (.bin .eql 3 0 (.t 10) (.n 20) 3),
 oo 15 (.asg (.t 17))]))) (.cond (.t 15) .skip (.seq (.reg [oo 11 (.build 76 [.sl 0 [],.lit (.bool false)] []),
 ov (.store 76 2 (.t 4) (.t 11)),
 oo 5 (.asg (.n 103))]) .ret))))))) (.seq (.seq (.reg [om 18 1,
 oo 19 (.len 24 false (.t 18)),
 om 20 6,
 oo 21 (.bin .neq 3 0 (.t 19) (.t 20) 3)]) (.cond (.t 21) (.seq (.reg [oo 22 (.build 76 [.sl 0 [],.lit (.bool false)] []),
 ov (.store 76 2 (.t 4) (.t 22)),
 oo 5 (.asg (.n 101))]) .ret) .skip)) (.seq (.reg [om 23 1,
 oc 24 135 [(false,(.t 23))] [24],
 oo 7 (.asg (.t 24))]) (.seq (.seq (.reg [om 25 7,
 oo 26 (.bin .neq 3 0 (.t 25) (.n 0) 3)]) (.cond (.t 26) (.seq (.reg [oo 27 (.build 76 [.sl 0 [],.lit (.bool false)] []),
 om 28 7,
 ov (.store 76 2 (.t 4) (.t 27)),
 oo 5 (.asg (.t 28))]) .ret) .skip)) (.seq (.reg [om 29 1,
 oo 30 (.iaddr 24 2 (.t 29) (.n 0)),
 oo 31 (.load 76 (some 2) (.t 30)),
 oo 8 (.alloc 76 [.own 1 0 [],.lit (.bool false)]),
 ov (.store 76 2 (.t 8) (.t 31))]) (.seq (.reg [oo 32 (.faddr 76 0 (.t 8) 0),
 oo 33 (.load 74 none (.t 32)),
 oo 34 (.len 74 false (.t 33)),
 oo 9 (.asg (.t 34))]) (.seq (.seq (.reg [om 35 0]) (.block 1 (.seq (.reg [oo 37 (.bin .eql 3 0 (.t 35) (.n 16) 3),
 oo 36 (.asg (.t 37))]) (.cond (.t 36) (.seq (.seq (.reg [oo 38 (.faddr 76 1 (.t 8) 1),
 oo 39 (.load 4 none (.t 38)),
 om 40 39,
 og 41 (.mv (.t 9)) 2 40 false,
 og 42 (.bin .lss 3 0 (.t 41) (.n 1) 3) 2 40 false,
 oo 43 (.pick (.t 40) (.c (.bool true)) (.t 42)),
 om 44 43,
 og 45 (.mv (.t 1)) 6 44 false,
 og 46 (.iaddr 24 2 (.t 45) (.n 1)) 6 44 false,
 og 47 (.load 76 (some 2) (.t 46)) 6 44 false,
 og 48 (.bslice 74 3 1 1 [.lit (.int .i64 0)] [(0,(.n 256))]) 6 44 false,
 og 49 (.build 76 [.own 1 0 [],.lit (.bool false)] [(0,0,1,(.t 48)),(1,1,1,(.c (.bool true)))]) 6 44 false,
 ⟨(some 50),.call 45 [(false,(.t 47)),(false,(.t 49))] [76,76],(some (6,44,false))⟩,
 og 51 (.un .not 4 (.t 50)) 6 44 false,
 oo 52 (.pick (.t 44) (.c (.bool true)) (.t 51))]) (.cond (.t 52) (.seq (.reg [oo 53 (.build 76 [.sl 0 [],.lit (.bool false)] []),
 ov (.store 76 2 (.t 4) (.t 53)),
 oo 5 (.asg (.n 101))]) .ret) .skip)) (.seq (.reg [oo 54 (.load 76 (some 2) (.t 8)),
 oc 55 92 [(false,(.t 54))] [76],
 oo 56 (.ext (.t 55) 0),
 oo 57 (.ext (.t 55) 1),
 ov (.store 76 2 (.t 4) (.t 56)),
 oo 5 (.asg (.t 57))]) .ret)) (.seq (.reg [oo 59 (.bin .eql 3 0 (.t 35) (.n 17) 3),
 oo 58 (.asg (.t 59))]) (.cond (.t 58) (.seq (.seq (.reg [om 60 9,
 oo 61 (.bin .neq 3 0 (.t 60) (.n 2) 3),
 om 62 61,
 og 63 (.mv (.t 1)) 2 62 false,
 og 64 (.iaddr 24 2 (.t 63) (.n 1)) 2 62 false,
 og 65 (.faddr 76 0 (.t 64) 0) 2 62 false,
 og 66 (.load 74 none (.t 65)) 2 62 false,
 og 67 (.len 74 false (.t 66)) 2 62 false,
 og 68 (.bin .neq 3 0 (.t 67) (.n 1) 3) 2 62 false,
 oo 69 (.pick (.t 62) (.c (.bool true)) (.t 68)),
 om 70 69,
 og 71 (.mv (.t 1)) 10 70 false,
 og 72 (.iaddr 24 2 (.t 71) (.n 1)) 10 70 false,
 og 73 (.faddr 76 1 (.t 72) 1) 10 70 false,
 og 74 (.load 4 none (.t 73)) 10 70 false,
 og 75 (.un .not 4 (.t 74)) 10 70 false,
 oo 76 (.pick (.t 70) (.c (.bool true)) (.t 75))]) (.cond (.t 76) (.seq (.reg [oo 77 (.build 76 [.sl 0 [],.lit (.bool false)] []),
 ov (.store 76 2 (.t 4) (.t 77)),
 oo 5 (.asg (.n 101))]) .ret) .skip)) (.seq (.draw [om 78 1,
 oo 79 (.iaddr 24 2 (.t 78) (.n 1)),
 oo 80 (.faddr 76 0 (.t 79) 0),
 oo 81 (.load 74 none (.t 80)),
 oo 82 (.iaddr 74 1 (.t 81) (.n 0)),
 oo 83 (.load 3 none (.t 82)),
 oo 84 (.faddr 76 0 (.t 8) 0),
 oo 85 (.load 74 none (.t 84)),
 oo 86 (.iaddr 74 1 (.t 85) (.n 1)),
 oo 87 (.load 3 none (.t 86)),
 oo 88 (.bslice 74 3 1 2 [.lit (.int .i64 0)] [(0,(.t 83)),(1,(.t 87))]),
 oo 89 (.faddr 76 1 (.t 8) 1),
 oo 90 (.load 4 none (.t 89)),
 oo 91 (.build 76 [.own 1 0 [],.lit (.bool false)] [(0,0,1,(.t 88)),(1,1,1,(.t 90))]),
 oc 92 92 [(false,(.t 91))] [76],
 oo 93 (.ext (.t 92) 0),
 oo 94 (.ext (.t 92) 1),
 ov (.store 76 2 (.t 4) (.t 93)),
 oo 5 (.asg (.t 94))] [[],[0],[1],[2],[3],[4],[],[6],[7],[8],[5,9],[],[11],[10,12],[13],[14],[14],[15,14,0,1,2,3,4,5,6,7,8,9,10,11,12,13,14,15,16],[16,17,0,1,2,3,4,5,6,7,8,9,10,11,12,13,14,15,16,17]]) .ret)) .skip)))))) (.seq (.seq (.reg [om 95 9,
 oo 96 (.bin .lss 3 0 (.t 95) (.n 1) 3)]) (.cond (.t 96) (.seq (.reg [oo 97 (.build 76 [.sl 0 [],.lit (.bool false)] []),
 ov (.store 76 2 (.t 4) (.t 97)),
 oo 5 (.asg (.n 101))]) .ret) .skip)) (.seq (.reg [oo 98 (.faddr 76 0 (.t 8) 0),
 oo 99 (.load 74 none (.t 98)),
 om 100 9,
 oo 101 (.bin .sub 3 0 (.t 100) (.n 1) 3),
 oo 102 (.slice 74 1 (.t 99) none (some (.t 101)) none),
 oo 103 (.build 76 [.own 1 0 [],.lit (.bool false)] [(0,0,1,(.t 102)),(1,1,1,(.c (.bool true)))]),
 oc 104 92 [(false,(.t 103))] [76],
 oo 105 (.ext (.t 104) 0),
 oo 106 (.ext (.t 104) 1),
 ov (.store 76 2 (.t 4) (.t 105)),
 oo 5 (.asg (.t 106))]) .ret)))))))))))
abbrev a2q:Nat:=91
theorem a15:fnC pg 91 107 [(.cells 4 2),(.tmp 5)] a11:=a0s Go.Proofs.Tryz.f91 [(.cell 4 76),(.tmp 5)] (by kernel_rfl)
def a0l:IC:=(.seq (.reg [oo 6 (.alloc 76 [.own 1 0 [],.lit (.bool false)]),
 oo 7 (.asg (.n 0))]) (.seq (.seq (.reg [om 11 0,
 oc 12 76 [(false,(.t 11))] [3],
 oo 13 (.un .not 4 (.t 12))]) (.cond (.t 13) (.seq (.reg [oo 14 (.build 76 [.sl 0 [],.lit (.bool false)] []),
 ov (.store 76 2 (.t 6) (.t 14)),
 oo 7 (.asg (.n 103))]) .ret) .skip)) (.seq (.seq (.reg [om 15 0,
 oo 16 (.bin .leq 3 0 (.t 15) (.n 11) 3)]) (.cond (.t 16) (.seq (.reg [om 17 0,
 om 18 1,
 om 19 2,
 oc 20 85 [(false,(.t 17)),(false,(.t 18)),(false,(.t 19))] [3,74,24],
 oo 21 (.ext (.t 20) 0),
 oo 22 (.ext (.t 20) 1),
 ov (.store 76 2 (.t 6) (.t 21)),
 oo 7 (.asg (.t 22))]) .ret) .skip)) (.seq (.seq (.reg [om 23 2,
 oo 24 (.len 24 false (.t 23)),
 om 25 0,
 oc 26 86 [(false,(.t 25))] [3],
 oo 27 (.bin .neq 3 0 (.t 24) (.t 26) 3),
 om 28 27,
 og 29 (.mv (.t 0)) 5 28 false,
 og 30 (.bin .neq 3 0 (.t 29) (.n 18) 3) 5 28 false,
 og 31 (.mv (.t 30)) 5 28 false,
 og 32 (.mv (.t 1)) 8 31 true,
 og 33 (.len 74 false (.t 32)) 8 31 true,
 og 34 (.mv (.t 0)) 8 31 true,
 ⟨(some 35),.call 87 [(false,(.t 34))] [3],(some (8,31,true))⟩,
 og 36 (.bin .neq 3 0 (.t 33) (.t 35) 3) 8 31 true,
 og 37 (.pick (.t 31) (.t 36) (.c (.bool false))) 5 28 false,
 oo 38 (.pick (.t 28) (.c (.bool true)) (.t 37))]) (.cond (.t 38) (.seq (.reg [oo 39 (.build 76 [.sl 0 [],.lit (.bool false)] []),
 ov (.store 76 2 (.t 6) (.t 39)),
 oo 7 (.asg (.n 101))]) .ret) .skip)) (.seq (.seq (.reg [om 40 0]) (.block 0 (.seq (.reg [oo 42 (.bin .eql 3 0 (.t 40) (.n 12) 3),
 oo 41 (.asg (.t 42))]) (.cond (.t 41) (.seq (.draw [om 43 1,
 oo 44 (.iaddr 74 1 (.t 43) (.n 0)),
 oo 45 (.load 3 none (.t 44)),
 om 46 1,
 oo 47 (.iaddr 74 1 (.t 46) (.n 1)),
 oo 48 (.load 3 none (.t 47)),
 om 49 2,
 oo 50 (.iaddr 24 2 (.t 49) (.n 0)),
 oo 51 (.load 76 (some 2) (.t 50)),
 om 52 2,
 oo 53 (.iaddr 24 2 (.t 52) (.n 1)),
 oo 54 (.load 76 (some 2) (.t 53)),
 oc 55 88 [(false,(.t 45)),(false,(.t 48)),(false,(.t 51)),(false,(.t 54))] [3,3,76,76],
 oo 56 (.ext (.t 55) 0),
 oo 57 (.ext (.t 55) 1),
 ov (.store 76 2 (.t 6) (.t 56)),
 oo 7 (.asg (.t 57))] [[],[0],[1],[],[3],[4],[],[6],[7],[],[9],[10],[2,5,8,11],[12],[12],[13,12,0,1,2,3,4,5,6,7,8,9,10,11,12,13,14],[14,15,0,1,2,3,4,5,6,7,8,9,10,11,12,13,14,15]]) .ret) (.seq (.reg [oo 59 (.bin .eql 3 0 (.t 40) (.n 13) 3),
 oo 58 (.asg (.t 59))]) (.cond (.t 58) (.seq (.draw [om 60 1,
 om 61 2,
 oo 62 (.iaddr 24 2 (.t 61) (.n 0)),
 oo 63 (.load 76 (some 2) (.t 62)),
 om 64 2,
 oo 65 (.iaddr 24 2 (.t 64) (.n 1)),
 oo 66 (.load 76 (some 2) (.t 65)),
 oc 67 89 [(false,(.t 60)),(false,(.t 63)),(false,(.t 66))] [74,76,76],
 oo 68 (.ext (.t 67) 0),
 oo 69 (.ext (.t 67) 1),
 ov (.store 76 2 (.t 6) (.t 68)),
 oo 7 (.asg (.t 69))] [[],[],[1],[2],[],[4],[5],[0,3,6],[7],[7],[8,7,0,1,2,3,4,5,6,7,8,9],[9,10,0,1,2,3,4,5,6,7,8,9,10]]) .ret) (.seq (.seq (.reg [oo 71 (.bin .eql 3 0 (.t 40) (.n 14) 3),
 oo 70 (.asg (.t 71))]) (.cond (.t 70) .skip (.reg [oo 72 (.bin .eql 3 0 (.t 40) (.n 15) 3),
 oo 70 (.asg (.t 72))]))) (.cond (.t 70) (.seq (.reg [om 73 1,
 om 74 2,
 oo 75 (.iaddr 24 2 (.t 74) (.n 0)),
 oo 76 (.load 76 (some 2) (.t 75)),
 oc 77 90 [(false,(.t 73)),(false,(.t 76))] [74,76],
 oo 78 (.ext (.t 77) 0),
 oo 79 (.ext (.t 77) 1),
 ov (.store 76 2 (.t 6) (.t 78)),
 oo 7 (.asg (.t 79))]) .ret) (.seq (.seq (.reg [oo 81 (.bin .eql 3 0 (.t 40) (.n 16) 3),
 oo 80 (.asg (.t 81))]) (.cond (.t 80) .skip (.seq (.reg [oo 82 (.bin .eql 3 0 (.t 40) (.n 17) 3),
 oo 80 (.asg (.t 82))]) (.cond (.t 80) .skip (.seq (.reg [oo 83 (.bin .eql 3 0 (.t 40) (.n 19) 3),
 oo 80 (.asg (.t 83))]) (.cond (.t 80) .skip (.reg [oo 84 (.bin .eql 3 0 (.t 40) (.n 20) 3),
 oo 80 (.asg (.t 84))]))))))) (.cond (.t 80) (.seq (.reg [om 85 0,
 om 86 2,
 oc 87 91 [(false,(.t 85)),(false,(.t 86))] [3,24],
 oo 88 (.ext (.t 87) 0),
 oo 89 (.ext (.t 87) 1),
 ov (.store 76 2 (.t 6) (.t 88)),
 oo 7 (.asg (.t 89))]) .ret) .skip)))))))))) (.seq (.reg [om 90 2,
 oo 91 (.iaddr 24 2 (.t 90) (.n 0)),
 oo 92 (.load 76 (some 2) (.t 91)),
 oo 8 (.alloc 76 [.own 1 0 [],.lit (.bool false)]),
 ov (.store 76 2 (.t 8) (.t 92))]) (.seq (.reg [oo 93 (.load 76 (some 2) (.t 8)),
 oc 94 39 [(false,(.t 93))] [76],
 oo 9 (.asg (.t 94))]) (.seq (.seq (.reg [om 95 9,
 oo 96 (.bin .neq 3 0 (.t 95) (.n 0) 3)]) (.cond (.t 96) (.seq (.reg [oo 97 (.build 76 [.sl 0 [],.lit (.bool false)] []),
 om 98 9,
 ov (.store 76 2 (.t 6) (.t 97)),
 oo 7 (.asg (.t 98))]) .ret) .skip)) (.seq (.seq (.reg [om 99 0,
 oo 100 (.bin .eql 3 0 (.t 99) (.n 21) 3)]) (.cond (.t 100) (.seq (.seq (.reg [oo 101 (.faddr 76 0 (.t 8) 0),
 oo 102 (.load 74 none (.t 101)),
 oo 103 (.len 74 false (.t 102)),
 oo 104 (.bin .neq 3 0 (.t 103) (.n 2) 3)]) (.cond (.t 104) (.seq (.reg [oo 105 (.build 76 [.sl 0 [],.lit (.bool false)] []),
 ov (.store 76 2 (.t 6) (.t 105)),
 oo 7 (.asg (.n 101))]) .ret) .skip)) (.seq (.draw [oo 106 (.faddr 76 0 (.t 8) 0),
 oo 107 (.load 74 none (.t 106)),
 oo 108 (.iaddr 74 1 (.t 107) (.n 1)),
 oo 109 (.load 3 none (.t 108)),
 oo 110 (.faddr 76 0 (.t 8) 0),
 oo 111 (.load 74 none (.t 110)),
 oo 112 (.iaddr 74 1 (.t 111) (.n 0)),
 oo 113 (.load 3 none (.t 112)),
 oo 114 (.bslice 74 3 1 2 [.lit (.int .i64 0)] [(0,(.t 109)),(1,(.t 113))]),
 oo 115 (.faddr 76 1 (.t 8) 1),
 oo 116 (.load 4 none (.t 115)),
 oo 117 (.build 76 [.own 1 0 [],.lit (.bool false)] [(0,0,1,(.t 114)),(1,1,1,(.t 116))]),
 oc 118 92 [(false,(.t 117))] [76],
 oo 119 (.ext (.t 118) 0),
 oo 120 (.ext (.t 118) 1),
 ov (.store 76 2 (.t 6) (.t 119)),
 oo 7 (.asg (.t 120))] [[],[0],[1],[2],[],[4],[5],[6],[3,7],[],[9],[8,10],[11],[12],[12],[13,12,0,1,2,3,4,5,6,7,8,9,10,11,12,13,14],[14,15,0,1,2,3,4,5,6,7,8,9,10,11,12,13,14,15]]) .ret)) .skip)) (.seq (.draw [om 121 1,
 oc 122 93 [(false,(.t 121))] [74],
 oo 123 (.faddr 76 1 (.t 8) 1),
 oo 124 (.load 4 none (.t 123)),
 oo 125 (.build 76 [.own 1 0 [],.lit (.bool false)] [(0,0,1,(.t 122)),(1,1,1,(.t 124))]),
 oo 10 (.alloc 76 [.own 1 0 [],.lit (.bool false)]),
 ov (.store 76 2 (.t 10) (.t 125))] [[],[0],[],[2],[1,3],[],[5,4,1,0,1,2,3,4,5]]) (.seq (.reg [oo 126 (.load 76 (some 2) (.t 10)),
 oc 127 39 [(false,(.t 126))] [76],
 oo 9 (.asg (.t 127))]) (.seq (.seq (.reg [om 128 9,
 oo 129 (.bin .neq 3 0 (.t 128) (.n 0) 3)]) (.cond (.t 129) (.seq (.reg [oo 130 (.build 76 [.sl 0 [],.lit (.bool false)] []),
 om 131 9,
 ov (.store 76 2 (.t 6) (.t 130)),
 oo 7 (.asg (.t 131))]) .ret) .skip)) (.seq (.seq (.draw [oo 132 (.faddr 76 0 (.t 10) 0),
 oo 133 (.load 74 none (.t 132)),
 oc 134 49 [(false,(.t 133))] [74],
 oo 135 (.faddr 76 0 (.t 8) 0),
 oo 136 (.load 74 none (.t 135)),
 oc 137 49 [(false,(.t 136))] [74],
 oo 138 (.bin .neq 3 0 (.t 134) (.t 137) 3)] [[],[0],[1],[],[3],[4,2],[2,5]]) (.cond (.t 138) (.seq (.reg [oo 139 (.build 76 [.sl 0 [],.lit (.bool false)] []),
 ov (.store 76 2 (.t 6) (.t 139)),
 oo 7 (.asg (.n 101))]) .ret) .skip)) (.seq (.reg [oo 140 (.load 76 (some 2) (.t 10)),
 ov (.store 76 2 (.t 6) (.t 140)),
 oo 7 (.asg (.n 0))]) .ret))))))))))))))
abbrev a07:Nat:=46
theorem a0i:fnC pg 46 141 [(.cells 6 2),(.tmp 7)] a0l:=a0s Go.Proofs.Tryz.f46 [(.cell 6 76),(.tmp 7)] (by kernel_rfl)
def a9x:IC:=(.seq (.reg [oo 1 (.box 76 2 (.t 0)),
 oo 2 (.alloc 76 [.own 1 0 [],.lit (.bool false)]),
 oo 3 (.asg (.n 0))]) (.seq (.reg [oo 5 (.load 76 (some 2) (.t 1)),
 oc 6 39 [(false,(.t 5))] [76],
 oo 4 (.asg (.t 6))]) (.seq (.seq (.reg [om 7 4,
 oo 8 (.bin .neq 3 0 (.t 7) (.n 0) 3)]) (.cond (.t 8) (.seq (.reg [oo 9 (.build 76 [.sl 0 [],.lit (.bool false)] []),
 om 10 4,
 ov (.store 76 2 (.t 2) (.t 9)),
 oo 3 (.asg (.t 10))]) .ret) .skip)) (.seq (.reg [oo 11 (.load 76 (some 2) (.t 1)),
 oc 12 102 [(false,(.t 11))] [76],
 ov (.store 76 2 (.t 2) (.t 12)),
 oo 3 (.asg (.n 0))]) .ret))))
abbrev b54:Nat:=92
theorem b2v:fnC pg 92 13 [(.cells 2 2),(.tmp 3)] a9x:=a0s Go.Proofs.Tryz.f92 [(.cell 2 76),(.tmp 3)] (by kernel_rfl)
def a5d:IC:=(.seq (.seq (.reg [om 5 3,
 om 6 0,
 oo 7 (.len 24 false (.t 6)),
 oo 8 (.bin .lss 3 0 (.t 5) (.t 7) 3)]) (.cond (.t 8) .skip (.exit 0))) (.seq (.block 1 (.seq (.reg [om 11 0,
 om 12 3,
 oo 13 (.iaddr 24 2 (.t 11) (.t 12)),
 oo 14 (.load 76 (some 2) (.t 13)),
 oc 15 39 [(false,(.t 14))] [76],
 oo 4 (.asg (.t 15))]) (.seq (.reg [om 16 4,
 oo 17 (.bin .neq 3 0 (.t 16) (.n 0) 3)]) (.cond (.t 17) (.seq (.reg [om 18 4,
 oo 2 (.asg (.t 18))]) .ret) .skip)))) (.reg [om 9 3,
 oo 10 (.bin .add 3 0 (.t 9) (.n 1) 3),
 oo 3 (.asg (.t 10))])))
def a8y:IC:=(.seq (.reg [oo 2 (.asg (.n 0))]) (.seq (.seq (.reg [oo 3 (.asg (.n 0))]) (.block 0 (.loop a5d))) (.seq (.reg [oo 2 (.asg (.n 0))]) .ret)))
abbrev b4p:Nat:=135
theorem b1v:fnC pg 135 19 [(.tmp 2)] a8y:=a0s Go.Proofs.Tryz.f135 [(.tmp 2)] (by kernel_rfl)
def a7w:IC:=(.seq (.reg [oo 2 (.asg (.c (.bool false)))]) (.seq (.reg [om 3 0,
 oc 4 84 [(false,(.t 3)),(false,(.c (.bool false)))] [3,4],
 oo 2 (.asg (.t 4))]) .ret))
abbrev b26:Nat:=136
theorem b0w:fnC pg 136 5 [(.tmp 2)] a7w:=a0s Go.Proofs.Tryz.f136 [(.tmp 2)] (by kernel_rfl)
section
variable {G:GG} {bk:Nat->Nat×Nat} {Q:Exit->St->Prop} {st:St}
theorem c25 (n:Int):ACalls pg G b93 [li n] (li (max (min n 127) (-128))):=by
 refine b6f rfl ?_
 simp (disch:=omega) [go_sem,b4g]
 split<;>split<;>omega
theorem c24 (n:Int):ACalls pg G c1i [li n] (lb (a1k n)):=by
 refine b7l rfl ?_
 have h:(decide (max (min n 127) (-128)=n))=a1k n:=by
  rw [a1k,<-Bool.decide_and]; exact decide_eq_decide.2 (by omega)
 simp (disch:=omega) [go_sem,b5m]
 refine a0c (c25 n) rfl rfl ?_
 simp (disch:=omega) [go_sem,h]
theorem d20 (n a b:Int):ACalls pg G c8a [li n,li a,li b] (lb (decide (a<=n)&&decide (n<=b))):=by
 refine c2c rfl ?_
 by_cases h:a<=n<;>simp (disch:=omega) [go_sem,c2b,h]
theorem d3f (n:Int) (w:Bool):ACalls pg G c8b [li n,lb w] (lb (b8j n w)):=by
 refine c2d rfl ?_
 cases w
 ·simp (disch:=omega) [go_sem,b63]
  refine a0c (d20 n (-128) 127) rfl rfl ?_
  simp (disch:=omega) [go_sem,b8j,a1k]
 ·simp (disch:=omega) [go_sem,b63]
  refine a0c (d20 n (-2147483648) 2147483647) rfl rfl ?_
  simp (disch:=omega) [go_sem,b8j]
theorem c4w (n:Int):ACalls pg G c6v [li n] (lb (a0t n)):=by
 refine c0q rfl ?_
 by_cases h:4<=n<;>simp (disch:=omega) [go_sem,b9g,h,a0t]
theorem a58 (n:Int) (h:4<=n/\n<=11):ACalls pg G b9w [li n] (.tup [li (a1r n),li (a08 n),lb true]):=by
 refine b59 rfl ?_
 obtain ⟨h1,h2⟩:=h
 obtain rfl | rfl | rfl | rfl | rfl | rfl | rfl | rfl:n=4\/n=5\/n=6\/n=7\/n=8\/n=9\/n=10\/n=11:=by omega
 all_goals simp (disch:=omega) [go_sem,b3k,a1r,a08,a0t]
theorem f0q (n:Int):ACalls pg G d1k [li n] (li (a1r n)):=by
 refine c45 rfl ?_
 by_cases h:n=4\/n=5\/n=6\/n=7\/n=12\/n=13\/n=16\/n=17
 ·rcases h with rfl | rfl | rfl | rfl | rfl | rfl | rfl | rfl<;>simp (disch:=omega) [go_sem,c0p,a1r]
 ·have h':=h
  simp only [not_or] at h'
  obtain ⟨a,b,c,d,e,f,g,i⟩:=h'
  simp (disch:=omega) [go_sem,c0p,a,b,c,d,e,f,g,i]
  refine a0c (c4w n) rfl rfl ?_
  cases k:a0t n<;>simp (disch:=omega) [go_sem,a1r,a,b,c,d,e,f,g,i,k]
theorem e0u (n:Int):ACalls pg G c8d [li n] (li (a08 n)):=by
 refine c3a rfl ?_
 by_cases h:n=9\/n=12\/n=14\/n=15\/n=10\/n=13\/n=11
 ·rcases h with rfl | rfl | rfl | rfl | rfl | rfl | rfl<;>simp (disch:=omega) [go_sem,b7s,a08]
 ·simp only [not_or] at h
  obtain ⟨a,b,c,d,e,f,g⟩:=h
  simp (disch:=omega) [go_sem,b7s,a08,a,b,c,d,e,f,g]
end
end Go.Ideal.Tryz
end
section
namespace Go.Ideal.Tryz
attribute [local go_sem] eD eT eV
section
variable {G:GG} {bk:Nat->Nat×Nat} {Q:Exit->St->Prop} {st:St}
abbrev b8r (bk:Nat->Nat×Nat) (r:Dr):AV:= .tup [.agg (eD r.1),a05 bk r.2]
abbrev zD:AV:= .var [.own 1 0 [],lb false]
theorem a4h {e:Er} (h:¬ e= .nil):e.isNil=false:=by cases e<;>simp_all [Er.isNil]
theorem b6m {α:Type}:∀ {l:List α},l.length=1->∃ x,l=[x]
 | [x],_=>⟨x,rfl⟩
theorem b2b {α:Type}:∀ {l:List α},l.length=2->∃ x y,l=[x,y]
 | [x,y],_=>⟨x,y,rfl⟩
theorem d4x {α:Type}:∀ {l:List α},l.length=3->∃ x y z,l=[x,y,z]
 | [x,y,z],_=>⟨x,y,z,rfl⟩
theorem f4z {α:Type}:∀ {l:List α},l.length=4->∃ x y z u,l=[x,y,z,u]
 | [x,y,z,u],_=>⟨x,y,z,u,rfl⟩
theorem e3m (hS:Sent3 G bk) {za zb:Int} {a b:Ds} (ha:a.shape.length < 2 ^ 62) (hb:b.shape.length < 2 ^ 62)
  (h:st.s 0=li za/\st.s 1=li zb/\st.s 6= .var (eD a)/\st.s 7= .var (eD b)/\st.s 8=zD/\st.s 9= .lit .nilIface/\st.s 17= .own 2 2 (eD a++eD b)/\st.s 18=li 2/\st.s 19=li 0)
  (hbad:∀ e:Er,e≠ .nil->c3v za zb a b=(dn,e)->∀ s,s.s 8= .var [.sl 0 [],lb false]/\s.s 9=a05 bk e->Q .ret s)
  (hex:a01 a.shape= .nil->a01 b.shape= .nil->∀ s,s.s 0=li za/\s.s 1=li zb/\s.s 6= .var (eD a)/\s.s 7= .var (eD b)/\s.s 8=zD/\s.s 9= .lit .nilIface->Q (.exit 0) s):AW pg G 88 (.loop a5g) Q st:=by
 refine a0u Nat (fun i st=>i<=2/\(1<=i->a01 a.shape= .nil)/\(2<=i->a01 b.shape= .nil)/\st.s 0=li za/\st.s 1=li zb/\st.s 6= .var (eD a)/\st.s 7= .var (eD b)/\st.s 8=zD/\st.s 9= .lit .nilIface/\st.s 17= .own 2 2 (eD a++eD b)/\st.s 18=li 2/\st.s 19=li i) (fun i=>2 - i) 0 ⟨by omega,by omega,by omega,h⟩ ?_
 clear h
 rintro i st K ⟨hi,h1,h2,h⟩ hK
 obtain rfl | rfl | rfl:i=0\/i=1\/i=2:=by omega
 ·simp (disch:=omega) [go_sem,a5g,h]
  refine a0g (a1d hS a.shape a.wide ha) (a0z _) (by simp (disch:=omega) [go_sem,h]) ?_
  by_cases he:a01 a.shape= .nil
  ·simp (disch:=omega) [go_sem,h,he,Er.isNil]
   refine hK 1 _ ⟨by omega,fun _=>he,by omega,by simp (disch:=omega) [go_sem,h]⟩ (by omega)
  ·have he':=a4h he
   simp (disch:=omega) [go_sem,h,he']
   exact hbad _ he (by simp only [c3v,chk,he']; rfl) _ (by simp (disch:=omega) [go_sem,h])
 ·simp (disch:=omega) [go_sem,a5g,h]
  have ea:=h1 (by omega)
  refine a0g (a1d hS b.shape b.wide hb) (a0z _) (by simp (disch:=omega) [go_sem,h]) ?_
  by_cases he:a01 b.shape= .nil
  ·simp (disch:=omega) [go_sem,h,he,Er.isNil]
   refine hK 2 _ ⟨by omega,fun _=>ea,fun _=>he,by simp (disch:=omega) [go_sem,h]⟩ (by omega)
  ·have he':=a4h he
   simp (disch:=omega) [go_sem,h,he']
   exact hbad _ he (by simp only [c3v,chk,he',ea,Er.isNil]; rfl) _ (by simp (disch:=omega) [go_sem,h])
 ·simp (disch:=omega) [go_sem,a5g,h]
  exact hex (h1 (by omega)) (h2 (by omega)) _ (by simp (disch:=omega) [go_sem,h])
theorem e3l (hS:SentO G bk) (za zb:Int) (a b:Ds) (ha:a.shape.length < 2 ^ 62) (hb:b.shape.length < 2 ^ 62):ACalls pg G c1h [li za,li zb,.agg (eD a),.agg (eD b)] (b8r bk (c3v za zb a b)):=by
 have h7:=hS.val 6 (by decide)
 have h3:=hS.val 3 (by decide)
 refine b7k rfl ?_
 simp (disch:=omega) [go_sem,b5l,a6s,a0f]
 refine e3m hS.three (za:=za) (zb:=zb) (a:=a) (b:=b) ha hb (by simp (disch:=omega) [go_sem]) (fun e he hm s h=> ?_) (fun ea eb s h=> ?_)
 ·rw [hm]
  simp (disch:=omega) [go_sem,h,dn]
 have hbd:¬ (a.shape.length=2/\b.shape.length=2/\a.shape[1]! =b.shape[0]! /\a.wide=false/\b.wide=false)->c3v za zb a b=(dn,.s 6):=fun k=>by
  simp only [c3v,chk,ea,eb,Er.isNil,if_true,k,if_false]; rfl
 by_cases c1:a.shape.length=2
 ·obtain ⟨ash,aw⟩:=a
  obtain ⟨x,y,rfl⟩:=b2b c1
  by_cases c2:b.shape.length=2
  ·obtain ⟨bsh,bw⟩:=b
   obtain ⟨u,v,rfl⟩:=b2b c2
   by_cases c3:y=u
   ·cases aw
    ·cases bw
     ·have hgd:c3v za zb ⟨[x,y],false⟩ ⟨[u,v],false⟩=if (a1k za&&a1k zb)=true then a6f [x,v] true else bad 3:=by
       simp only [c3v,chk,ea,eb,Er.isNil,if_true]; simp [c3]
      rw [hgd]
      clear hgd
      simp (disch:=omega) [go_sem,h]
      refine a0b ?_
      simp (disch:=omega) [go_sem,h,c3]
      refine a0d (by decide) fun s2 hs2 hes2=> ?_
      simp (disch:=omega) [go_sem,hs2,h,c3]
      refine a0c (c24 za) rfl rfl ?_
      cases ha:a1k za
      ·simp (disch:=omega) [go_sem,hs2,h]
       refine a0b ?_
       simp (disch:=omega) [go_sem,hs2,h,h3]
       refine a0d (by decide) fun s3 hs3 hes3=> ?_
       simp (disch:=omega) [go_sem,hs3,hs2,h,h3,bad,dn,a05]
      simp (disch:=omega) [go_sem,hs2,h]
      refine a0c (c24 zb) rfl rfl ?_
      cases hb:a1k zb
      ·simp (disch:=omega) [go_sem,hs2,h]
       refine a0b ?_
       simp (disch:=omega) [go_sem,hs2,h,h3]
       refine a0d (by decide) fun s3 hs3 hes3=> ?_
       simp (disch:=omega) [go_sem,hs3,hs2,h,h3,bad,dn,a05]
      simp (disch:=omega) [go_sem,hs2,h]
      refine a0b ?_
      simp (disch:=omega) [go_sem,hs2,h,a6s,a0f]
      refine a0d (by decide) fun s3 hs3 hes3=> ?_
      simp (disch:=omega) [go_sem,hs3,hs2,h,a6s,a0f]
      refine a0g (a1d hS.three [x,v] true (by simp)) (a0z _) (by simp (disch:=omega) [go_sem,hs3,hs2,h]) ?_
      by_cases he:a01 [x,v]= .nil
      ·simp (disch:=omega) [go_sem,hs3,hs2,h,he,Er.isNil,a6f,chk,a05]
      ·have he':=a4h he
       simp (disch:=omega) [go_sem,hs3,hs2,h,he',a6f,chk,dn]
     ·
      rw [hbd (by simp)]
      simp (disch:=omega) [go_sem,h]
      refine a0b ?_
      simp (disch:=omega) [go_sem,h,c3]
      refine a0d (by decide) fun s2 hs2 hes2=> ?_
      simp (disch:=omega) [go_sem,hs2,h,c3]
      refine a0b ?_
      simp (disch:=omega) [go_sem,hs2,h,c3,h7]
      refine a0d (by decide) fun s3 hs3 hes3=> ?_
      simp (disch:=omega) [go_sem,hs3,hs2,h,c3,h7,dn,a05]
    ·
     rw [hbd (by simp)]
     simp (disch:=omega) [go_sem,h]
     refine a0b ?_
     simp (disch:=omega) [go_sem,h,c3]
     refine a0d (by decide) fun s2 hs2 hes2=> ?_
     simp (disch:=omega) [go_sem,hs2,h,c3]
     refine a0b ?_
     simp (disch:=omega) [go_sem,hs2,h,c3,h7]
     refine a0d (by decide) fun s3 hs3 hes3=> ?_
     simp (disch:=omega) [go_sem,hs3,hs2,h,c3,h7,dn,a05]
   ·
    rw [hbd (by simp [c3])]
    simp (disch:=omega) [go_sem,h]
    refine a0b ?_
    simp (disch:=omega) [go_sem,h,c3]
    refine a0d (by decide) fun s2 hs2 hes2=> ?_
    simp (disch:=omega) [go_sem,hs2,h,c3]
    refine a0b ?_
    simp (disch:=omega) [go_sem,hs2,h,c3,h7]
    refine a0d (by decide) fun s3 hs3 hes3=> ?_
    simp (disch:=omega) [go_sem,hs3,hs2,h,c3,h7,dn,a05]
  ·have c2':¬ (b.shape.length:Int)=2:=by omega
   rw [hbd (fun k=>c2 k.2.1)]
   simp (disch:=omega) [go_sem,h]
   refine a0b ?_
   simp (disch:=omega) [go_sem,h,c2']
   refine a0d (by decide) fun s2 hs2 hes2=> ?_
   simp (disch:=omega) [go_sem,hs2,h,c2']
   refine a0b ?_
   simp (disch:=omega) [go_sem,hs2,h,c2',h7]
   refine a0d (by decide) fun s3 hs3 hes3=> ?_
   simp (disch:=omega) [go_sem,hs3,hs2,h,c2',h7,dn,a05]
 ·have c1':¬ (a.shape.length:Int)=2:=by omega
  rw [hbd (fun k=>c1 k.1)]
  simp (disch:=omega) [go_sem,h]
  refine a0b ?_
  simp (disch:=omega) [go_sem,h,c1']
  refine a0d (by decide) fun s2 hs2 hes2=> ?_
  simp (disch:=omega) [go_sem,hs2,h,c1']
  refine a0b ?_
  simp (disch:=omega) [go_sem,hs2,h,c1',h7]
  refine a0d (by decide) fun s3 hs3 hes3=> ?_
  simp (disch:=omega) [go_sem,hs3,hs2,h,c1',h7,dn,a05]
end
end Go.Ideal.Tryz
end
section
namespace Go.Ideal
section
variable {G:GG} {N d:Nat} {st:St}
@[go_sem] theorem e17 {T:TypeId}:evS G N (some d) (.mkmap T) st=some (st.thru N d (.mp [] [])):=(rfl)
def d9j (v:AV):Option Int:=match v with
 | .lit (.int .i64 n)=>some n
 | _=>none
@[go_sem] theorem e7b {n:Int}:d9j (.lit (.int .i64 n))=some n:=(rfl)
theorem c6k (x:X):(d6h x).run st=(d9j (rdv st x)).map fun n=>(n,st):=by
 simp only [d6h,Ev.run_bind,a9o,Option.bind]
 cases rdv st x<;>try rfl
 rename_i v; cases v<;>try rfl
 rename_i k n; cases k<;>rfl
def mpK (t:Nat) (q:List Nat) (k:Option AV):Option (Nat×List Nat×List Int×List AV):=match k with
 | some (.mp keys vals)=>some (t,q,keys,vals)
 | _=>none
@[congr] theorem e3r {t:Nat} {q:List Nat} {k k':Option AV} (h:k=k'):mpK t q k=mpK t q k':=by rw [h]
@[go_sem] theorem f48 {t:Nat} {q:List Nat} {keys:List Int} {vals:List AV}:mpK t q (some (.mp keys vals))=some (t,q,keys,vals):=(rfl)
def mpO (st:St) (v:AV):Option (Nat×List Nat×List Int×List AV):=match v with
 | .bor t q _ _ e=>mpK t q (a3m st t q e)
 | _=>none
@[congr] theorem e3s {v v':AV} (h:v=v'):mpO st v=mpO st v':=by rw [h]
@[go_sem] theorem f04 {t lo n e:Nat} {q:List Nat}:mpO st (.bor t q lo n e)=mpK t q (a3m st t q e):=(rfl)
theorem c6l (x:X):(d6r x).run st=(mpO st (rdv st x)).map fun r=>((r.1,r.2.1,st.s r.1,r.2.2.1,r.2.2.2),st):=by
 simp only [d6r,Ev.run_bind,a03,Option.bind]
 cases hv:rdv st x<;>try rfl
 rename_i t q lo n e
 simp only [mpO,Ev.run_bind,a2j,Option.bind]
 by_cases he:e=st.ep t
 ·simp only [he,beq_self_eq_true,a0o,if_true,Ev.run,a1b,Option.bind,c15]
  cases hk:a0h (st.s t) q with
  | none=>rfl
  | some k=>cases k<;>rfl
 ·have:(e==st.ep t)=false:=by simpa using he
  simp only [this,a0o,Bool.false_eq_true,if_false,Ev.run,c14 he]
  rfl
def mgR (st:St) (d:Nat) (zs:List AV) (r:Option AV):Option St:=match r with
 | some v=>iO (a04 v) (some (st.put d (.tup [v,.lit (.bool true)]))) none
 | none=>iO (a1c zs) (some (st.put d (.tup [.agg zs,.lit (.bool false)]))) none
@[congr] theorem e3n {zs:List AV} {r r':Option AV} (h:r=r'):mgR st d zs r=mgR st d zs r':=by rw [h]
@[go_sem] theorem e7q {zs:List AV} {v:AV}:mgR st d zs (some v)=iO (a04 v) (some (st.put d (.tup [v,.lit (.bool true)]))) none:=(rfl)
@[go_sem] theorem e7p {zs:List AV}:mgR st d zs none=iO (a1c zs) (some (st.put d (.tup [.agg zs,.lit (.bool false)]))) none:=(rfl)
def mgS (st:St) (d:Nat) (zs:List AV) (m:Option (Nat×List Nat×List Int×List AV)) (n:Option Int):Option St:=match m,n with
 | some (_,_,keys,vals),some n=>mgR st d zs (a5f keys vals n)
 | _,_=>none
@[congr] theorem e3o {zs:List AV} {m m':Option (Nat×List Nat×List Int×List AV)} {n n':Option Int} (h:m=m') (h2:n=n'):mgS st d zs m n=mgS st d zs m' n':=by rw [h,h2]
@[go_sem] theorem e7r {zs:List AV} {t:Nat} {q:List Nat} {keys:List Int} {vals:List AV} {n:Int}:mgS st d zs (some (t,q,keys,vals)) (some n)=mgR st d zs (a5f keys vals n):=(rfl)
@[go_sem] theorem e6y {T e:TypeId} {zs:List AV} {x k:X}:evS G N (some d) (.mget T e zs x k) st=mgS st d zs (mpO st (rdv st x)) (d9j (rdv st k)):=by
 simp only [evS,a1q,Ev.run_bind,c6l,Option.bind]
 cases mpO st (rdv st x) with
 | none=>rfl
 | some r=>
  obtain ⟨t,q,keys,vals⟩:=r
  simp only [Option.map,c6k]
  cases d9j (rdv st k) with
  | none=>rfl
  | some n=>
   simp only [mgS,mgR]
   cases a5f keys vals n with
   | none=>
    simp only [Ev.run_bind,a0j,Option.bind]
    cases a1c zs<;>rfl
   | some v=>
    simp only [Ev.run_bind,a0j,Option.bind]
    cases a04 v<;>rfl
def msS (st:St) (N:Nat) (m:Option (Nat×List Nat×List Int×List AV)) (n:Option Int) (v:AV):Option St:=match m,n with
 | some (t,q,keys,vals),some n=>iO (b5u v&&decide (t < N)) (some (st.set t (a0x (st.s t) q (.mp (a33 keys vals n v).1 (a33 keys vals n v).2)))) none
 | _,_=>none
@[congr] theorem e3t {m m':Option (Nat×List Nat×List Int×List AV)} {n n':Option Int} {v v':AV} (h:m=m') (h2:n=n') (h3:v=v'):msS st N m n v=msS st N m' n' v':=by rw [h,h2,h3]
@[go_sem] theorem e7u {t:Nat} {q:List Nat} {keys:List Int} {vals:List AV} {n:Int} {v:AV}:msS st N (some (t,q,keys,vals)) (some n) v=iO (b5u v&&decide (t < N)) (some (st.set t (a0x (st.s t) q (.mp (a33 keys vals n v).1 (a33 keys vals n v).2)))) none:=(rfl)
@[go_sem] theorem e6z {T e:TypeId} {x k v:X}:evS G N none (.mset T e x k v) st=msS st N (mpO st (rdv st x)) (d9j (rdv st k)) (rdv st v):=by
 simp only [evS,a1q,Ev.run_bind,a0o,Option.isNone_none,if_true,Ev.run,Option.bind,c6l]
 cases mpO st (rdv st x) with
 | none=>rfl
 | some r=>
  obtain ⟨t,q,keys,vals⟩:=r
  simp only [Option.map,c6k]
  cases d9j (rdv st k) with
  | none=>rfl
  | some n=>
   simp only [msS,a03,Ev.run_bind,a0j,Option.bind]
   cases b5u (rdv st v)&&decide (t < N)<;>rfl
end
end Go.Ideal
end
section
namespace Go.Ideal.Tryz
def a9j:IC:=(.seq (.reg [oo 36 (.bin .lss 3 0 (.t 35) (.t 34) 3)]) (.seq (.cond (.t 36) .skip (.exit 0)) (.seq (.block 1 (.seq (.reg [oo 37 (.iaddr 47 6 (.t 33) (.t 35)),
 oo 38 (.load 108 (some 6) (.t 37)),
 oo 6 (.alloc 108 [.lit (.int .i64 0),.own 1 0 [],.own 1 0 [],.own 1 0 [],.lit (.bool false),.own 1 0 []]),
 ov (.store 108 6 (.t 6) (.t 38))]) (.reg [om 39 4,
 oo 40 (.faddr 108 1 (.t 6) 1),
 oo 41 (.load 74 none (.t 40)),
 oo 42 (.bslice 164 74 1 1 [.own 1 0 []] [(0,(.t 41))]),
 oo 43 (.app 164 74 1 24 (.t 39) (.t 42)),
 oo 4 (.asg (.t 43))]))) (.reg [oo 44 (.bin .add 3 0 (.t 35) (.n 1) 3),
 om 35 44]))))
def a9k:IC:=(.seq (.reg [oo 76 (.bin .lss 3 0 (.t 75) (.t 74) 3)]) (.seq (.cond (.t 76) .skip (.exit 2)) (.seq (.block 3 (.seq (.reg [oo 77 (.iaddr 74 1 (.t 73) (.t 75)),
 oo 78 (.load 3 none (.t 77)),
 oo 10 (.asg (.t 78))]) (.seq (.reg [om 80 7,
 oo 81 (.faddr 49 0 (.t 1) 0),
 oo 82 (.load 47 none (.t 81)),
 om 83 10,
 oo 84 (.iaddr 47 6 (.t 82) (.t 83)),
 oo 85 (.load 108 (some 6) (.t 84)),
 ⟨(some 86),.callx (.f 113) [(false,(.t 85))] [.x (.t 80),.p 0] [165,108],none⟩,
 oo 79 (.mva (.t 86)),
 oo 87 (.ext (.t 79) 0),
 oo 88 (.ext (.t 79) 1),
 oo 11 (.alloc 76 [.own 1 0 [],.lit (.bool false)]),
 ov (.store 76 2 (.t 11) (.t 87)),
 oo 12 (.asg (.t 88))]) (.seq (.seq (.reg [om 89 12,
 oo 90 (.bin .neq 35 2 (.t 89) (.c .nilIface) 35)]) (.cond (.t 90) (.seq (.reg [oo 91 (.build 111 [.sl 0 [],.sl 0 [],.sl 0 [],.lit (.bool false),.sl 0 []] []),
 om 92 10,
 om 93 12,
 oc 94 114 [(false,(.t 92)),(false,(.t 93))] [3,35],
 ov (.store 111 5 (.t 2) (.t 91)),
 oo 3 (.asg (.t 94))]) .ret) .skip)) (.draw [om 95 7,
 oo 96 (.nilck (.t 95)),
 oo 97 (.faddr 168 0 (.t 96) 0),
 oo 98 (.faddr 111 1 (.t 97) 1),
 oo 99 (.load 24 none (.t 98)),
 om 100 10,
 oo 101 (.load 76 (some 2) (.t 11)),
 oo 102 (.iaddr 24 2 (.t 99) (.t 100)),
 ov (.store 76 2 (.t 102) (.t 101))] [[],[0],[1],[2],[3],[],[],[4,5,0,1,2,3,4,5,6],[7,6,0,1,2,3,4,5,6]]))))) (.reg [oo 103 (.bin .add 3 0 (.t 75) (.n 1) 3),
 om 75 103]))))
def a83:IC:=(.seq (.reg [oo 1 (.box 49 2 (.t 0)),
 oo 2 (.alloc 111 [.own 1 0 [],.own 2 0 [],.own 1 0 [],.lit (.bool false),.own 2 0 []]),
 oo 3 (.asg (.c .nilIface))]) (.seq (.seq (.reg [oo 13 (.faddr 49 0 (.t 1) 0),
 oo 14 (.load 47 none (.t 13)),
 oo 15 (.len 47 false (.t 14)),
 oo 16 (.bin .gtr 3 0 (.t 15) (.n 64) 3)]) (.cond (.t 16) (.seq (.draw [oo 17 (.build 111 [.sl 0 [],.sl 0 [],.sl 0 [],.lit (.bool false),.sl 0 []] []),
 oo 18 (.load 35 none (.g 5)),
 ov (.store 111 5 (.t 2) (.t 17)),
 oo 3 (.asg (.t 18))] [[],[],[0,0],[1,2,0,1,2]]) .ret) .skip)) (.seq (.seq (.reg [oo 19 (.faddr 49 1 (.t 1) 1),
 oo 20 (.load 3 none (.t 19)),
 oo 21 (.bin .lss 3 0 (.t 20) (.n 0) 3),
 om 22 21,
 og 23 (.faddr 49 1 (.t 1) 1) 3 22 false,
 og 24 (.load 3 none (.t 23)) 3 22 false,
 og 25 (.faddr 49 0 (.t 1) 0) 3 22 false,
 og 26 (.load 47 none (.t 25)) 3 22 false,
 og 27 (.len 47 false (.t 26)) 3 22 false,
 og 28 (.bin .geq 3 0 (.t 24) (.t 27) 3) 3 22 false,
 oo 29 (.pick (.t 22) (.c (.bool true)) (.t 28))]) (.cond (.t 29) (.seq (.draw [oo 30 (.build 111 [.sl 0 [],.sl 0 [],.sl 0 [],.lit (.bool false),.sl 0 []] []),
 oo 31 (.load 35 none (.g 0)),
 ov (.store 111 5 (.t 2) (.t 30)),
 oo 3 (.asg (.t 31))] [[],[],[0,0],[1,2,0,1,2]]) .ret) .skip)) (.seq (.reg [oo 4 (.asg (.nl 1))]) (.seq (.seq (.reg [oo 32 (.faddr 49 0 (.t 1) 0),
 oo 33 (.load 47 none (.t 32)),
 oo 34 (.len 47 false (.t 33)),
 oo 35 (.mv (.n 0))]) (.block 0 (.loop a9j))) (.seq (.reg [oo 45 (.mkmap 166),
 oo 46 (.build 168 [.own 1 0 [],.own 2 0 [],.sl 0 [],.lit (.bool false),.own 2 0 [],.lit (.bool false),.lit (.map none)] [(2,6,1,(.t 45))]),
 oo 47 (.box 168 7 (.t 46)),
 oo 7 (.asg (.t 47))]) (.seq (.reg [oo 8 (.asg (.c .nilIface))]) (.seq (.seq (.reg [om 49 7,
 om 50 4,
 oc 51 112 [(false,(.t 50))] [164],
 oo 48 (.mva (.t 51)),
 oo 52 (.ext (.t 48) 0),
 oo 53 (.ext (.t 48) 1),
 oo 54 (.nilck (.t 49)),
 oo 55 (.faddr 168 0 (.t 54) 0),
 oo 56 (.faddr 111 0 (.t 55) 0),
 ov (.stf 74 1 (.t 56) (.t 52)),
 oo 8 (.asg (.t 53))]) (.seq (.reg [om 57 8,
 oo 58 (.bin .neq 35 2 (.t 57) (.c .nilIface) 35)]) (.cond (.t 58) (.seq (.reg [oo 59 (.build 111 [.sl 0 [],.sl 0 [],.sl 0 [],.lit (.bool false),.sl 0 []] []),
 om 60 8,
 ov (.store 111 5 (.t 2) (.t 59)),
 oo 3 (.asg (.t 60))]) .ret) .skip))) (.seq (.reg [om 61 7,
 oo 62 (.faddr 49 0 (.t 1) 0),
 oo 63 (.load 47 none (.t 62)),
 oo 64 (.len 47 false (.t 63)),
 oo 65 (.mks 24 76 2 32 [.sl 0 [],.lit (.bool false)] (.t 64) (.t 64)),
 oo 66 (.nilck (.t 61)),
 oo 67 (.faddr 168 0 (.t 66) 0),
 oo 68 (.faddr 111 1 (.t 67) 1),
 ov (.store 24 1 (.t 68) (.t 65))]) (.seq (.seq (.reg [om 69 7,
 oo 70 (.nilck (.t 69)),
 oo 71 (.faddr 168 0 (.t 70) 0),
 oo 72 (.faddr 111 0 (.t 71) 0),
 oo 73 (.load 74 none (.t 72)),
 oo 74 (.len 74 false (.t 73)),
 oo 75 (.mv (.n 0))]) (.block 2 (.loop a9k))) (.seq (.reg [om 104 7,
 oo 105 (.nilck (.t 104)),
 oo 106 (.faddr 168 0 (.t 105) 0),
 oo 107 (.load 111 (some 5) (.t 106)),
 ov (.store 111 5 (.t 2) (.t 107)),
 oo 3 (.asg (.c .nilIface))]) .ret)))))))))))
abbrev c6w:Nat:=65
theorem c0r:fnC pg 65 108 [(.cells 2 5),(.tmp 3)] a83:=a0s Go.Proofs.Tryz.f65 [(.cell 2 111),(.tmp 3)] (by kernel_rfl)
def a22:IC:=(.seq (.reg [oo 18 (.bin .lss 3 0 (.t 17) (.t 16) 3)]) (.seq (.cond (.t 18) .skip (.exit 1)) (.seq (.block 2 (.seq (.reg [oo 19 (.iaddr 74 1 (.t 15) (.t 17)),
 oo 20 (.load 3 none (.t 19)),
 oo 8 (.asg (.t 20))]) (.reg [om 21 6,
 om 22 0,
 oo 23 (.nilck (.t 22)),
 oo 24 (.faddr 168 0 (.t 23) 0),
 oo 25 (.faddr 111 1 (.t 24) 1),
 oo 26 (.load 24 none (.t 25)),
 om 27 8,
 oo 28 (.iaddr 24 2 (.t 26) (.t 27)),
 oo 29 (.load 76 (some 2) (.t 28)),
 oo 30 (.bslice 24 76 2 1 [.own 1 0 [],.lit (.bool false)] [(0,(.t 29))]),
 oo 31 (.app 24 76 2 32 (.t 21) (.t 30)),
 oo 6 (.asg (.t 31))]))) (.reg [oo 32 (.bin .add 3 0 (.t 17) (.n 1) 3),
 om 17 32]))))
def a7i:IC:=(.seq (.reg [oo 3 (.box 108 6 (.t 1)),
 oo 4 (.alloc 76 [.own 1 0 [],.lit (.bool false)]),
 oo 5 (.asg (.c .nilIface))]) (.seq (.block 0 (.seq (.reg [oo 11 (.faddr 108 0 (.t 3) 0),
 oo 12 (.load 3 none (.t 11)),
 oc 13 137 [(false,(.t 12))] [3],
 oo 10 (.asg (.t 13))]) (.cond (.t 10) (.seq (.reg [oo 6 (.asg (.nl 2))]) (.seq (.seq (.reg [oo 14 (.faddr 108 1 (.t 3) 1),
 oo 15 (.load 74 none (.t 14)),
 oo 16 (.len 74 false (.t 15)),
 oo 17 (.mv (.n 0))]) (.block 1 (.loop a22))) (.seq (.reg [oo 33 (.faddr 108 0 (.t 3) 0),
 oo 34 (.load 3 none (.t 33)),
 oo 35 (.faddr 108 2 (.t 3) 2),
 oo 36 (.load 74 none (.t 35)),
 om 37 6,
 oc 38 139 [(false,(.t 34)),(false,(.t 36)),(false,(.t 37))] [3,74,24],
 oo 39 (.ext (.t 38) 0),
 oo 40 (.ext (.t 38) 1),
 ov (.store 76 2 (.t 4) (.t 39)),
 oo 5 (.asg (.t 40))]) .ret))) (.seq (.reg [oo 42 (.faddr 108 0 (.t 3) 0),
 oo 43 (.load 3 none (.t 42)),
 oo 44 (.bin .lss 3 0 (.t 43) (.n 1) 3),
 om 45 44,
 og 46 (.faddr 108 0 (.t 3) 0) 3 45 false,
 og 47 (.load 3 none (.t 46)) 3 45 false,
 og 48 (.bin .gtr 3 0 (.t 47) (.n 3) 3) 3 45 false,
 oo 49 (.pick (.t 45) (.c (.bool true)) (.t 48)),
 oo 41 (.asg (.t 49))]) (.cond (.t 41) (.seq (.draw [oo 50 (.build 76 [.sl 0 [],.lit (.bool false)] []),
 oo 51 (.load 35 none (.g 2)),
 ov (.store 76 2 (.t 4) (.t 50)),
 oo 5 (.asg (.t 51))] [[],[],[0,0],[1,2,0,1,2]]) .ret) (.seq (.reg [oo 53 (.faddr 108 1 (.t 3) 1),
 oo 54 (.load 74 none (.t 53)),
 oo 55 (.len 74 false (.t 54)),
 oo 56 (.bin .gtr 3 0 (.t 55) (.n 0) 3),
 oo 52 (.asg (.t 56))]) (.cond (.t 52) (.seq (.draw [oo 57 (.build 76 [.sl 0 [],.lit (.bool false)] []),
 oo 58 (.load 35 none (.g 6)),
 ov (.store 76 2 (.t 4) (.t 57)),
 oo 5 (.asg (.t 58))] [[],[],[0,0],[1,2,0,1,2]]) .ret) (.seq (.reg [oo 60 (.faddr 108 0 (.t 3) 0),
 oo 61 (.load 3 none (.t 60)),
 oo 62 (.bin .eql 3 0 (.t 61) (.n 1) 3),
 oo 59 (.asg (.t 62))]) (.cond (.t 59) (.seq (.reg [om 63 0,
 oo 64 (.load 108 (some 6) (.t 3)),
 ⟨(some 65),.callx (.f 152) [(false,(.t 64))] [.x (.t 63),.p 0] [165,108],none⟩,
 oo 66 (.ext (.t 65) 0),
 oo 67 (.ext (.t 65) 1),
 ov (.store 76 2 (.t 4) (.t 66)),
 oo 5 (.asg (.t 67))]) .ret) (.seq (.reg [oo 69 (.faddr 108 0 (.t 3) 0),
 oo 70 (.load 3 none (.t 69)),
 oo 71 (.bin .eql 3 0 (.t 70) (.n 3) 3),
 oo 68 (.asg (.t 71))]) (.cond (.t 68) (.seq (.reg [om 72 0,
 oo 73 (.load 108 (some 6) (.t 3)),
 ⟨(some 74),.callx (.f 153) [(false,(.t 73))] [.x (.t 72),.p 0] [165,108],none⟩,
 oo 75 (.ext (.t 74) 0),
 oo 76 (.ext (.t 74) 1),
 ov (.store 76 2 (.t 4) (.t 75)),
 oo 5 (.asg (.t 76))]) .ret) (.seq (.reg [oo 78 (.faddr 108 2 (.t 3) 2),
 oo 79 (.load 74 none (.t 78)),
 oo 80 (.len 74 false (.t 79)),
 oo 81 (.bin .gtr 3 0 (.t 80) (.n 0) 3),
 oo 77 (.asg (.t 81))]) (.cond (.t 77) (.seq (.draw [oo 82 (.build 76 [.sl 0 [],.lit (.bool false)] []),
 oo 83 (.load 35 none (.g 6)),
 ov (.store 76 2 (.t 4) (.t 82)),
 oo 5 (.asg (.t 83))] [[],[],[0,0],[1,2,0,1,2]]) .ret) .skip))))))))))))) (.seq (.seq (.reg [oo 84 (.faddr 108 3 (.t 3) 3),
 oo 85 (.load 85 (some 3) (.t 84)),
 oc 86 107 [(false,(.t 85))] [85],
 oo 9 (.asg (.t 86))]) (.seq (.reg [om 87 9,
 oo 88 (.bin .neq 35 2 (.t 87) (.c .nilIface) 35)]) (.cond (.t 88) (.seq (.reg [oo 89 (.build 76 [.sl 0 [],.lit (.bool false)] []),
 om 90 9,
 ov (.store 76 2 (.t 4) (.t 89)),
 oo 5 (.asg (.t 90))]) .ret) .skip))) (.seq (.reg [oo 91 (.faddr 108 3 (.t 3) 3),
 oo 92 (.faddr 85 0 (.t 91) 0),
 oo 93 (.load 76 (some 2) (.t 92)),
 oc 94 154 [(false,(.t 93))] [76],
 ov (.store 76 2 (.t 4) (.t 94)),
 oo 5 (.asg (.c .nilIface))]) .ret))))
abbrev b2k:Nat:=113
@[go_sem] theorem c3c:fnB pg 113=true:=by kernel_rfl
theorem a9m:fnX pg 113 95 [(.cells 4 2),(.tmp 5)] [(.cell 4 76),(.tmp 5)] a7i:=c9d Go.Proofs.Tryz.f113 (by kernel_rfl)
def a84:IC:=(.seq (.reg [oo 3 (.box 108 6 (.t 1)),
 oo 4 (.alloc 76 [.own 1 0 [],.lit (.bool false)]),
 oo 5 (.asg (.c .nilIface))]) (.seq (.reg [oo 9 (.faddr 108 2 (.t 3) 2),
 oo 10 (.load 74 none (.t 9)),
 oc 11 171 [(false,(.t 10)),(false,(.n 0))] [74,3],
 oo 8 (.mva (.t 11)),
 oo 12 (.ext (.t 8) 0),
 oo 13 (.ext (.t 8) 1),
 oo 6 (.alloc 76 [.own 1 0 [],.lit (.bool false)]),
 ov (.store 76 2 (.t 6) (.t 12)),
 oo 7 (.asg (.t 13))]) (.seq (.seq (.reg [om 14 7,
 oo 15 (.bin .neq 35 2 (.t 14) (.c .nilIface) 35)]) (.cond (.t 15) (.seq (.reg [oo 16 (.build 76 [.sl 0 [],.lit (.bool false)] []),
 om 17 7,
 ov (.store 76 2 (.t 4) (.t 16)),
 oo 5 (.asg (.t 17))]) .ret) .skip)) (.seq (.seq (.draw [om 18 0,
 oo 19 (.nilck (.t 18)),
 oo 20 (.faddr 168 5 (.t 19) 1),
 oo 21 (.load 4 none (.t 20)),
 om 22 21,
 og 23 (.load 76 (some 2) (.t 6)) 4 22 true,
 og 24 (.mv (.t 0)) 4 22 true,
 og 25 (.nilck (.t 24)) 4 22 true,
 og 26 (.faddr 168 0 (.t 25) 0) 4 22 true,
 og 27 (.faddr 111 2 (.t 26) 2) 4 22 true,
 og 28 (.load 76 (some 2) (.t 27)) 4 22 true,
 ⟨(some 29),.call 138 [(false,(.t 23)),(false,(.t 28))] [76,76],(some (4,22,true))⟩,
 og 30 (.un .not 4 (.t 29)) 4 22 true,
 oo 31 (.pick (.t 22) (.t 30) (.c (.bool false)))] [[],[0],[1],[2],[3],[4],[4],[6,4],[7,4],[8,4],[9,4],[5,10,4,4],[11,4],[4,12]]) (.cond (.t 31) (.seq (.draw [oo 32 (.build 76 [.sl 0 [],.lit (.bool false)] []),
 oo 33 (.load 35 none (.g 6)),
 ov (.store 76 2 (.t 4) (.t 32)),
 oo 5 (.asg (.t 33))] [[],[],[0,0],[1,2,0,1,2]]) .ret) .skip)) (.seq (.reg [om 34 0,
 om 35 0,
 oo 36 (.load 76 (some 2) (.t 6)),
 oc 37 154 [(false,(.t 36))] [76],
 oo 38 (.nilck (.t 34)),
 oo 39 (.faddr 168 5 (.t 38) 1),
 ov (.store 4 1 (.t 39) (.c (.bool true))),
 oo 40 (.nilck (.t 35)),
 oo 41 (.faddr 168 0 (.t 40) 0),
 oo 42 (.faddr 111 2 (.t 41) 2),
 ov (.store 76 2 (.t 42) (.t 37))]) (.seq (.reg [oo 43 (.load 76 (some 2) (.t 6)),
 ov (.store 76 2 (.t 4) (.t 43)),
 oo 5 (.asg (.c .nilIface))]) .ret))))))
abbrev b4r:Nat:=152
@[go_sem] theorem c46:fnB pg 152=true:=by kernel_rfl
theorem b04:fnX pg 152 44 [(.cells 4 2),(.tmp 5)] [(.cell 4 76),(.tmp 5)] a84:=c9d Go.Proofs.Tryz.f152 (by kernel_rfl)
@[go_sem] def order_looker_weight_r12:List AO:=[om 57 0,
 oo 58 (.nilck (.t 57)),
 oo 59 (.faddr 168 6 (.t 58) 2),
 oo 60 (.load 166 none (.t 59)),
 om 61 6,
 oo 62 (.load 76 (some 2) (.t 7)),
 ov (.mset 166 76 (.t 60) (.t 61) (.t 62))]
def a13:IC:=(.seq (.seq (.reg [om 63 0,
 oo 64 (.nilck (.t 63)),
 oo 65 (.faddr 168 0 (.t 64) 0),
 oo 66 (.faddr 111 4 (.t 65) 3),
 oo 67 (.load 24 none (.t 66)),
 oo 68 (.len 24 false (.t 67)),
 om 69 6,
 oo 70 (.bin .leq 3 0 (.t 68) (.t 69) 3)]) (.cond (.t 70) .skip (.exit 0))) (.block 1 (.reg [om 71 0,
 om 72 0,
 oo 73 (.nilck (.t 72)),
 oo 74 (.faddr 168 0 (.t 73) 0),
 oo 75 (.faddr 111 4 (.t 74) 3),
 oo 76 (.load 24 none (.t 75)),
 oo 77 (.build 76 [.sl 0 [],.lit (.bool false)] []),
 oo 78 (.bslice 24 76 2 1 [.own 1 0 [],.lit (.bool false)] [(0,(.t 77))]),
 oo 79 (.app 24 76 2 32 (.t 76) (.t 78)),
 oo 80 (.nilck (.t 71)),
 oo 81 (.faddr 168 0 (.t 80) 0),
 oo 82 (.faddr 111 4 (.t 81) 3),
 ov (.store 24 1 (.t 82) (.t 79))])))
@[go_sem] def order_looker_weight_r15:List AO:=[om 83 0,
 oo 84 (.nilck (.t 83)),
 oo 85 (.faddr 168 0 (.t 84) 0),
 oo 86 (.faddr 111 4 (.t 85) 3),
 oo 87 (.load 24 none (.t 86)),
 om 88 6,
 oo 89 (.load 76 (some 2) (.t 7)),
 oc 90 154 [(false,(.t 89))] [76],
 oo 91 (.iaddr 24 2 (.t 87) (.t 88)),
 ov (.store 76 2 (.t 91) (.t 90))]
@[go_sem] def order_looker_weight_r16:List AO:=[oo 92 (.load 76 (some 2) (.t 7)),
 ov (.store 76 2 (.t 4) (.t 92)),
 oo 5 (.asg (.c .nilIface))]
def a19:IC:=(.seq (.reg [oo 3 (.box 108 6 (.t 1)),
 oo 4 (.alloc 76 [.own 1 0 [],.lit (.bool false)]),
 oo 5 (.asg (.c .nilIface))]) (.seq (.seq (.reg [oo 11 (.faddr 108 2 (.t 3) 2),
 oo 12 (.load 74 none (.t 11)),
 oo 13 (.len 74 false (.t 12)),
 oo 14 (.bin .lss 3 0 (.t 13) (.n 2) 3)]) (.cond (.t 14) (.seq (.draw [oo 15 (.build 76 [.sl 0 [],.lit (.bool false)] []),
 oo 16 (.load 35 none (.g 6)),
 ov (.store 76 2 (.t 4) (.t 15)),
 oo 5 (.asg (.t 16))] [[],[],[0,0],[1,2,0,1,2]]) .ret) .skip)) (.seq (.reg [oo 17 (.faddr 108 2 (.t 3) 2),
 oo 18 (.load 74 none (.t 17)),
 oo 19 (.iaddr 74 1 (.t 18) (.n 0)),
 oo 20 (.load 3 none (.t 19)),
 oo 6 (.asg (.t 20))]) (.seq (.seq (.reg [om 21 6,
 oo 22 (.bin .lss 3 0 (.t 21) (.n 0) 3),
 om 23 22,
 og 24 (.mv (.t 6)) 2 23 false,
 og 25 (.bin .geq 3 0 (.t 24) (.n 8) 3) 2 23 false,
 oo 26 (.pick (.t 23) (.c (.bool true)) (.t 25))]) (.cond (.t 26) (.seq (.draw [oo 27 (.build 76 [.sl 0 [],.lit (.bool false)] []),
 oo 28 (.load 35 none (.g 3)),
 ov (.store 76 2 (.t 4) (.t 27)),
 oo 5 (.asg (.t 28))] [[],[],[0,0],[1,2,0,1,2]]) .ret) .skip)) (.seq (.reg [oo 30 (.faddr 108 2 (.t 3) 2),
 oo 31 (.load 74 none (.t 30)),
 oc 32 171 [(false,(.t 31)),(false,(.n 1))] [74,3],
 oo 29 (.mva (.t 32)),
 oo 33 (.ext (.t 29) 0),
 oo 34 (.ext (.t 29) 1),
 oo 7 (.alloc 76 [.own 1 0 [],.lit (.bool false)]),
 ov (.store 76 2 (.t 7) (.t 33)),
 oo 8 (.asg (.t 34))]) (.seq (.seq (.reg [om 35 8,
 oo 36 (.bin .neq 35 2 (.t 35) (.c .nilIface) 35)]) (.cond (.t 36) (.seq (.reg [oo 37 (.build 76 [.sl 0 [],.lit (.bool false)] []),
 om 38 8,
 ov (.store 76 2 (.t 4) (.t 37)),
 oo 5 (.asg (.t 38))]) .ret) .skip)) (.seq (.seq (.reg [om 40 0,
 oo 41 (.nilck (.t 40)),
 oo 42 (.faddr 168 6 (.t 41) 2),
 oo 43 (.load 166 none (.t 42)),
 om 44 6,
 oo 45 (.mget 166 76 [.sl 0 [],.lit (.bool false)] (.t 43) (.t 44)),
 om 39 45,
 oo 46 (.ext (.t 39) 0),
 oo 47 (.ext (.t 39) 1),
 oo 9 (.alloc 76 [.own 1 0 [],.lit (.bool false)]),
 ov (.store 76 2 (.t 9) (.t 46)),
 oo 10 (.asg (.t 47))]) (.seq (.reg [om 48 10,
 om 49 48,
 og 50 (.load 76 (some 2) (.t 7)) 1 49 true,
 og 51 (.load 76 (some 2) (.t 9)) 1 49 true,
 ⟨(some 52),.call 138 [(false,(.t 50)),(false,(.t 51))] [76,76],(some (1,49,true))⟩,
 og 53 (.un .not 4 (.t 52)) 1 49 true,
 oo 54 (.pick (.t 49) (.t 53) (.c (.bool false)))]) (.cond (.t 54) (.seq (.draw [oo 55 (.build 76 [.sl 0 [],.lit (.bool false)] []),
 oo 56 (.load 35 none (.g 6)),
 ov (.store 76 2 (.t 4) (.t 55)),
 oo 5 (.asg (.t 56))] [[],[],[0,0],[1,2,0,1,2]]) .ret) .skip))) (.seq (.draw order_looker_weight_r12 [[],[0],[1],[2],[],[],[3,4,5,0,1,2,3,4,5]]) (.seq (.block 0 (.loop a13)) (.seq (.draw order_looker_weight_r15 [[],[0],[1],[2],[3],[],[],[6],[4,5,0,1,2,3,4,5,6,7],[8,7,7,0,1,2,3,4,5,6,7]]) (.seq (.reg order_looker_weight_r16) .ret)))))))))))
abbrev b0h:Nat:=153
@[go_sem] theorem c0s:fnB pg 153=true:=by kernel_rfl
theorem a8a:fnX pg 153 93 [(.cells 4 2),(.tmp 5)] [(.cell 4 76),(.tmp 5)] a19:=c9d Go.Proofs.Tryz.f153 (by kernel_rfl)
def a6c:IC:=(.seq (.reg [oo 4 (.alloc 76 [.own 1 0 [],.lit (.bool false)]),
 oo 5 (.asg (.c .nilIface))]) (.seq (.seq (.reg [om 8 0,
 oo 9 (.len 74 false (.t 8)),
 om 10 1,
 oo 11 (.bin .leq 3 0 (.t 9) (.t 10) 3)]) (.cond (.t 11) (.seq (.draw [oo 12 (.build 76 [.sl 0 [],.lit (.bool false)] []),
 oo 13 (.load 35 none (.g 6)),
 ov (.store 76 2 (.t 4) (.t 12)),
 oo 5 (.asg (.t 13))] [[],[],[0,0],[1,2,0,1,2]]) .ret) .skip)) (.seq (.seq (.reg [om 14 0,
 om 15 1,
 oo 16 (.iaddr 74 1 (.t 14) (.t 15)),
 oo 17 (.load 3 none (.t 16)),
 oo 18 (.bin .neq 3 0 (.t 17) (.n 0) 3),
 om 19 18,
 og 20 (.mv (.t 0)) 5 19 true,
 og 21 (.mv (.t 1)) 5 19 true,
 og 22 (.iaddr 74 1 (.t 20) (.t 21)) 5 19 true,
 og 23 (.load 3 none (.t 22)) 5 19 true,
 og 24 (.bin .neq 3 0 (.t 23) (.n 1) 3) 5 19 true,
 oo 25 (.pick (.t 19) (.t 24) (.c (.bool false)))]) (.cond (.t 25) (.seq (.draw [oo 26 (.build 76 [.sl 0 [],.lit (.bool false)] []),
 oo 27 (.load 35 none (.g 3)),
 ov (.store 76 2 (.t 4) (.t 26)),
 oo 5 (.asg (.t 27))] [[],[],[0,0],[1,2,0,1,2]]) .ret) .skip)) (.seq (.draw [om 28 0,
 om 29 1,
 oo 30 (.bin .add 3 0 (.t 29) (.n 1) 3),
 oo 31 (.slice 74 1 (.t 28) (some (.t 30)) none none),
 oc 32 123 [(false,(.t 31))] [74],
 om 33 0,
 om 34 1,
 oo 35 (.iaddr 74 1 (.t 33) (.t 34)),
 oo 36 (.load 3 none (.t 35)),
 oo 37 (.bin .eql 3 0 (.t 36) (.n 1) 3),
 oo 38 (.build 76 [.own 1 0 [],.lit (.bool false)] [(0,0,1,(.t 32)),(1,1,1,(.t 37))]),
 oo 6 (.alloc 76 [.own 1 0 [],.lit (.bool false)]),
 ov (.store 76 2 (.t 6) (.t 38))] [[],[],[1],[0,2],[3],[],[],[5,6],[7],[8],[4,9],[],[11,10,4,0,1,2,3,4,5,6,7,8,9,10,11]]) (.seq (.seq (.reg [oo 39 (.load 76 (some 2) (.t 6)),
 oc 40 105 [(false,(.t 39))] [76],
 oo 7 (.asg (.t 40))]) (.seq (.reg [om 41 7,
 oo 42 (.bin .neq 35 2 (.t 41) (.c .nilIface) 35)]) (.cond (.t 42) (.seq (.reg [oo 43 (.build 76 [.sl 0 [],.lit (.bool false)] []),
 om 44 7,
 ov (.store 76 2 (.t 4) (.t 43)),
 oo 5 (.asg (.t 44))]) .ret) .skip))) (.seq (.reg [oo 45 (.load 76 (some 2) (.t 6)),
 ov (.store 76 2 (.t 4) (.t 45)),
 oo 5 (.asg (.c .nilIface))]) .ret))))))
abbrev c1l:Nat:=171
theorem b7w:fnC pg 171 46 [(.cells 4 2),(.tmp 5)] a6c:=a0s Go.Proofs.Tryz.f171 [(.cell 4 76),(.tmp 5)] (by kernel_rfl)
end Go.Ideal.Tryz
end
section
namespace Go.Ideal
section
variable (P:Program) (G:GG) (N:Nat) (aft:DA)
def c65 (ex:List Nat) (d:Option Nat) (f:FuncId) (args:List (Bool×X)) (rest:List AO) (fps:List (List Nat×List Nat)) (K:St->Prop) (st:St) (o1 o2:Option St):Prop:=match o1,o2 with
 | some st1,some st2=>c50 P G N aft d f (a61 N args.length st2) (ex++(d.toList++a0r st (args.map (·.2)))) rest fps K st st1 st2
 | _,_=>False
def c64 (ex:List Nat) (d:Option Nat) (f:FuncId) (args:List (Bool×X)) (rest:List AO) (fps:List (List Nat×List Nat)) (K:St->Prop) (st:St) (o1:Option St):Prop:=c65 P G N aft ex d f args rest fps K st o1 (pss N (N+2) args o1)
def d84 (v:AV) (want:Bool) (t:Nat) (d:Option Nat) (f:FuncId) (args:List (Bool×X)) (rest:List AO) (fps:List (List Nat×List Nat)) (K:St->Prop) (st:St):Prop:=match v with
 | .lit v=>if b8x want v then c64 P G N aft [t] d f args rest fps K st (gvs N (N+2) args (some st)) else (∀ u∈t::d.toList,u < N)/\a99 aft.2 (a4j d st)/\a93 P G N aft rest (fps++[([t],d.toList)]) K (a4j d st)
 | _=>False
end
section
variable {P:Program} {G:GG} {N:Nat} {aft:DA} {fps:List (List Nat×List Nat)} {K:St->Prop} {st:St} {d:Option Nat} {rest:List AO} {t:Nat} {f:FuncId} {args:List (Bool×X)} {ex:List Nat}
@[congr] theorem d85 {v v':AV} {w:Bool} (h:v=v'):d84 P G N aft v w t d f args rest fps K st=d84 P G N aft v' w t d f args rest fps K st:=by rw [h]
@[congr] theorem d5x {o o':Option St} (h:o=o'):c64 P G N aft ex d f args rest fps K st o=c64 P G N aft ex d f args rest fps K st o':=by rw [h]
@[congr] theorem d5y {o1 o o':Option St} (h:o=o'):c65 P G N aft ex d f args rest fps K st o1 o=c65 P G N aft ex d f args rest fps K st o1 o':=by rw [h]
@[go_sem] theorem d8z {st1:St}:c64 P G N aft ex d f args rest fps K st (some st1)=c65 P G N aft ex d f args rest fps K st (some st1) (pss N (N+2) args (some st1)):=(rfl)
@[go_sem] theorem d80 {st1 st2:St}:c65 P G N aft ex d f args rest fps K st (some st1) (some st2)=c50 P G N aft d f (a61 N args.length st2) (ex++(d.toList++a0r st (args.map (·.2)))) rest fps K st st1 st2:=(rfl)
@[go_sem] theorem e9i {j:Nat} {want:Bool} {tys:List TypeId}:a93 P G N aft (⟨d,.call f args tys,some (j,t,want)⟩::rest) fps K st=d84 P G N aft (st.s t) want t d f args rest fps K st:=by
 simp only [a93,d84]
 cases st.s t<;>try rfl
 simp only [d1h,c64,c65,c50]
 split
 ·cases gvs N (N+2) args (some st) with
  | none=>rfl
  | some st1=>
   simp only
   cases pss N (N+2) args (some st1)<;>rfl
 ·rfl
@[go_sem] theorem e9h:d84 P G N aft (.lit (.bool true)) true t d f args rest fps K st=c64 P G N aft [t] d f args rest fps K st (gvs N (N+2) args (some st)):=(rfl)
@[go_sem] theorem e9g:d84 P G N aft (.lit (.bool false)) true t d f args rest fps K st=((∀ u∈t::d.toList,u < N)/\a99 aft.2 (a4j d st)/\a93 P G N aft rest (fps++[([t],d.toList)]) K (a4j d st)):=(rfl)
end
end Go.Ideal
end
section
namespace Go.Ideal.Tryz
attribute [local go_sem] eD
def a2n (args:List Int) (a:Nat):Dr:=
 if args.length<=a then bad 6
 else if args[a]! ≠0/\args[a]! ≠1 then bad 3
 else chk (a01 (args.drop (a+1))) (⟨args.drop (a+1),decide (args[a]! =1)⟩,.nil)
section
variable {G:GG} {bk:Nat->Nat×Nat} {Q:Exit->St->Prop} {st:St}
theorem d4o (hS:SentO G bk) (args:List Int) (a:Nat) (hlen:args.length < 2 ^ 36) (ha:a<=1):ACalls pg G c1l [slI args,li a] (b8r bk (a2n args a)):=by
 have h7:=hS.val 6 (by decide)
 have h3:=hS.val 3 (by decide)
 refine b7w rfl ?_
 by_cases h1:args.length<=a
 ·have h1':(args.length:Int)<=a:=by omega
  simp (disch:=omega) [go_sem,a6c,h1,h1']
  refine a0b ?_
  simp (disch:=omega) [go_sem,h1,h7]
  refine a0d (by decide) fun s2 hs he=> ?_
  simp (disch:=omega) [go_sem,hs,a2n,h1,bad,dn,a05]
 ·have h1':¬ (args.length:Int)<=a:=by omega
  have hlt:a < args.length:=by omega
  have hg:args[a]! =args[a]:=by simp [hlt]
  obtain ⟨tl,htl⟩:∃ tl,tl=args.drop (a+1):=⟨_,rfl⟩
  have hd:tl.length < 2 ^ 36:=by rw [htl]; simp; omega
  have e1:((args.length:Int) - ((a:Int)+1)).toNat=tl.length:=by rw [htl]; simp; omega
  have e2:List.take tl.length (List.drop (a+1) (List.map li args))=List.map li tl:=by rw [htl,<-List.map_drop,List.take_of_length_le (by simp)]
  by_cases z:args[a]=0
  ·simp (disch:=omega) [go_sem,a6c,h1,h1',hlt,z]
   refine a0b ?_
   simp (disch:=omega) [go_sem,hlt,z]
   simp only [e1,e2]
   refine a0m (b60 tl (by omega)) rfl (b3u _) (by simp) [32] (by simp) (by simp (disch:=omega) [go_sem]) ?_
   simp (disch:=omega) [go_sem,hlt,z]
   refine a0d (by decide) fun s2 hs he=> ?_
   simp (disch:=omega) [go_sem,hs,a0f]
   refine a0g (a1d hS.three tl false (by omega)) (a0z _) (by simp (disch:=omega) [go_sem]) ?_
   cases hv:(a01 tl).isNil with
   | true=>simp (disch:=omega) [go_sem,hs,hv,a2n,h1,hg,z,<-htl,chk,a05]
   | false=>simp (disch:=omega) [go_sem,hs,hv,a2n,h1,hg,z,<-htl,chk,a05,dn]
  ·by_cases o:args[a]=1
   ·have z':¬ (1:Int)=0:=by omega
    simp (disch:=omega) [go_sem,a6c,h1,h1',hlt,o]
    refine a0b ?_
    simp (disch:=omega) [go_sem,hlt,o]
    simp only [e1,e2]
    refine a0m (b60 tl (by omega)) rfl (b3u _) (by simp) [32] (by simp) (by simp (disch:=omega) [go_sem]) ?_
    simp (disch:=omega) [go_sem,hlt,o]
    refine a0d (by decide) fun s2 hs he=> ?_
    simp (disch:=omega) [go_sem,hs,a0f]
    refine a0g (a1d hS.three tl true (by omega)) (a0z _) (by simp (disch:=omega) [go_sem]) ?_
    cases hv:(a01 tl).isNil with
    | true=>simp (disch:=omega) [go_sem,hs,hv,a2n,h1,hg,o,<-htl,chk,a05]
    | false=>simp (disch:=omega) [go_sem,hs,hv,a2n,h1,hg,o,<-htl,chk,a05,dn]
   ·simp (disch:=omega) [go_sem,a6c,h1,h1',hlt,z,o]
    refine a0b ?_
    simp (disch:=omega) [go_sem,h3]
    refine a0d (by decide) fun s2 hs he=> ?_
    simp (disch:=omega) [go_sem,hs,a2n,h1,hg,z,o,bad,dn,a05]
end
structure Lk where
 ord:List Int
 descs:List Ds
 hin:Ds
 ws:List Ds
 input:Bool
 keys:List Int
 vals:List Ds
def eLk (l:Lk):List AV:=[slI l.ord,.own 2 l.descs.length (fm eD l.descs),slI l.hin.shape,lb l.hin.wide,.own 2 l.ws.length (fm eD l.ws),lb l.input,.mp l.keys (l.vals.map fun d=> .agg (eD d))]
def inR (l:Lk) (args:List Int):Dr×Lk:=
 if (a2n args 0).2.isNil=true then
  if l.input=true/\(a2n args 0).1≠l.hin then (bad 6,l) else (a2n args 0,{ l with input:=true,hin:=(a2n args 0).1 })
 else ((dn,(a2n args 0).2),l)
section
variable {G:GG} {bk:Nat->Nat×Nat} {Q:Exit->St->Prop} {st:St}
theorem f6b (hS:SentO G bk) (l:Lk) (n:Nd) (hl:l.hin.shape.length < 2 ^ 36) (hn:n.args.length < 2 ^ 36) (hf:(a2n n.args 0).1.shape.length < 2 ^ 36):ACallsX pg G b4r [.var (eLk l),.agg (a5q n)] (b8r bk (inR l n.args).1) [(0,.var (eLk (inR l n.args).2))]:=by
 have h7:=hS.val 6 (by decide)
 refine b04 (pins:=[0]) (by kernel_rfl) rfl rfl (by simp [go_sem]) rfl ?_
 simp (disch:=omega) [go_sem,a84,eLk,a5q]
 refine a0g (d4o hS n.args 0 hn (by omega)) (by simp [go_sem]) (by simp (disch:=omega) [go_sem]) ?_
 generalize hr:a2n n.args 0=r at *
 obtain ⟨d,e⟩:=r
 simp only at hf
 cases he:e.isNil with
 | false=>
  simp (disch:=omega) [go_sem,he,inR,hr,dn]
 | true=>
  obtain rfl:e= .nil:=by cases e<;>simp_all [Er.isNil]
  simp (disch:=omega) [go_sem,he]
  refine a0b ?_
  cases hi:l.input with
  | false=>
   simp (disch:=omega) [go_sem,hi]
   refine a0d (by decide) fun s2 hs hep=> ?_
   simp (disch:=omega) [go_sem,hs,hep]
   refine a0g ((a35 d.shape d.wide (by omega)).shown (res':= .agg [slI d.shape,lb d.wide]) (by simp (disch:=omega) [go_sem])) (by simp (disch:=omega) [go_sem]) (by simp (disch:=omega) [go_sem]) ?_
   simp (disch:=omega) [go_sem,hs,hep,a0f,inR,hr,he,hi,a05]
  | true=>
   simp (disch:=omega) [go_sem,hi]
   refine a0m (a7k d l.hin (by omega) (by omega)) rfl rfl (by simp) [29] (by simp) (by simp (disch:=omega) [go_sem]) ?_
   simp (disch:=omega) [go_sem,hi]
   refine a0d (by decide) fun s2 hs hep=> ?_
   by_cases hd:d=l.hin
   ·simp (disch:=omega) [go_sem,hs,hep,hd]
    subst hd
    refine a0g ((a35 l.hin.shape l.hin.wide (by omega)).shown (res':= .agg [slI l.hin.shape,lb l.hin.wide]) (by simp (disch:=omega) [go_sem])) (by simp (disch:=omega) [go_sem]) (by simp (disch:=omega) [go_sem]) ?_
    simp (disch:=omega) [go_sem,hs,hep,a0f,inR,hr,he,hi,a05]
   ·simp (disch:=omega) [go_sem,hs,hep,hd]
    refine a0b ?_
    simp (disch:=omega) [go_sem,hs,hep,h7]
    refine a0d (by decide) fun s3 hs3 hep3=> ?_
    simp (disch:=omega) [go_sem,hs3,hep3,hs,hep,inR,hr,he,hi,hd,bad,dn,a05]
end
def c2o:List Int->List Ds->Int->Option Ds
 | k::ks,v::vs,n=>if k=n then some v else c2o ks vs n
 | _,_,_=>none
def b6k:List Int->List Ds->Int->Ds->List Int×List Ds
 | k::ks,v::vs,n,x=>if k=n then (k::ks,x::vs) else (k::(b6k ks vs n x).1,v::(b6k ks vs n x).2)
 | _,_,n,x=>([n],[x])
theorem b44 (f:Ds->AV):∀ (keys:List Int) (vals:List Ds) (n:Int),a5f keys (vals.map f) n=(c2o keys vals n).map f
 | [],_,n=>rfl
 | k::ks,[],n=>rfl
 | k::ks,v::vs,n=>by
  simp only [List.map_cons,a5f,c2o]
  split
  ·rfl
  ·exact b44 f ks vs n
theorem b9f (f:Ds->AV):∀ (keys:List Int) (vals:List Ds) (n:Int) (x:Ds),a33 keys (vals.map f) n (f x)=((b6k keys vals n x).1,(b6k keys vals n x).2.map f)
 | [],_,n,x=>rfl
 | k::ks,[],n,x=>rfl
 | k::ks,v::vs,n,x=>by
  simp only [List.map_cons,a33,b6k]
  split
  ·rfl
  ·rw [b9f f ks vs n x]; rfl
theorem c6b:∀ {keys:List Int} {vals:List Ds} {n:Int} {d:Ds},c2o keys vals n=some d->d∈vals
 | [],_,n,d,h=>by simp [c2o] at h
 | k::ks,[],n,d,h=>by simp [c2o] at h
 | k::ks,v::vs,n,d,h=>by
  simp only [c2o] at h
  split at h
  ·simp only [Option.some.injEq] at h; simp [h]
  ·exact List.mem_cons_of_mem _ (c6b h)
def a6o (ws:List Ds) (k:Nat):List Ds:=ws++List.replicate (k+1 - ws.length) dn
def wtR (l:Lk) (args:List Int):Dr×Lk:=
 if args.length < 2 then (bad 6,l)
 else if args[0]! < 0\/8<=args[0]! then (bad 3,l)
 else if (a2n args 1).2.isNil=true then
  if (c2o l.keys l.vals args[0]!).all (fun was=>decide ((a2n args 1).1=was))=true then
   (a2n args 1,{ l with keys:=(b6k l.keys l.vals args[0]! (a2n args 1).1).1,vals:=(b6k l.keys l.vals args[0]! (a2n args 1).1).2,ws:=(a6o l.ws args[0]!.toNat).set args[0]!.toNat (a2n args 1).1 })
  else (bad 6,l)
 else ((dn,(a2n args 1).2),l)
section
variable {G:GG} {bk:Nat->Nat×Nat} {Q:Exit->St->Prop} {st:St}
theorem c9z (keys:List Int) (vals:List Ds) (n:Int) (x:Ds):a33 keys (vals.map fun d=>AV.agg [AV.sl d.shape.length (List.map li d.shape),lb d.wide]) n (.agg [AV.sl x.shape.length (List.map li x.shape),lb x.wide])=((b6k keys vals n x).1,(b6k keys vals n x).2.map fun d=>AV.agg [AV.sl d.shape.length (List.map li d.shape),lb d.wide]):=b9f (fun d=>AV.agg [AV.sl d.shape.length (List.map li d.shape),lb d.wide]) keys vals n x
theorem c3e {ws:List Ds} {k:Nat}:k < (a6o ws k).length:=by simp [a6o]; omega
theorem d38 {α:Type} {a r vs:List α} {j:Nat}:a0f (a++r) (a.length+j) vs=a++a0f r j vs:=by
 simp only [a0f]
 rw [List.take_append,List.drop_append]
 rw [List.take_of_length_le (by omega),show a.length+j - a.length=j by omega,List.drop_eq_nil_of_le (by omega),show a.length+j+vs.length - a.length=j+vs.length by omega]
 simp
theorem b66 {α:Type} {f:α->List AV} {c:Nat} (hf:∀ x,(f x).length=c) (y:α):∀ {xs:List α} {i:Nat},i < xs.length->a0f (fm f xs) (i*c) (f y)=fm f (xs.set i y)
 | x::xs,0,_=>by
  simp only [List.set_cons_zero,a7a,a0f,Nat.zero_mul,Nat.zero_add,hf,List.take_zero,List.nil_append]
  rw [List.drop_append,List.drop_eq_nil_of_le (by rw [hf]; omega),hf,Nat.sub_self]
  simp
 | x::xs,i+1,h=>by
  have ih:=b66 hf y (xs:=xs) (i:=i) (by simpa using h)
  rw [List.set_cons_succ,a7a,a7a,<-ih,show (i+1)*c=(f x).length+i*c by rw [hf,Nat.succ_mul]; omega,d38]
theorem b62 {xs:List Ds} {i:Nat} {d:Ds} (h:i < xs.length):a0f (fm eD xs) (i*2) [slI d.shape,lb d.wide]=fm eD (xs.set i d):=b66 (f:=eD) (c:=2) (fun _=>rfl) d h
theorem f27 {l:Lk} {k:Nat} {d:Ds} (hk:k < 8) (hw:l.ws.length<=8)
  (h:st.s 0= .var (eLk l)/\st.s 4= .var [.own 1 0 [],lb false]/\st.s 6=li k/\st.s 7= .var (eD d))
  (hex:∀ s:St,s.s 0= .var (eLk { l with ws:=a6o l.ws k })/\s.s 4= .var [.own 1 0 [],lb false]/\s.s 6=li k/\s.s 7= .var (eD d)->Q (.exit 0) s):AW pg G 93 (.loop a13) Q st:=by
 refine a0u Nat (fun j st=>j<=k+1 - l.ws.length/\st.s 0= .var (eLk { l with ws:=l.ws++List.replicate j dn })/\st.s 4= .var [.own 1 0 [],lb false]/\st.s 6=li k/\st.s 7= .var (eD d)) (fun j=>k+1 - l.ws.length - j) 0 ⟨by omega,by simpa using h⟩ ?_
 clear h
 rintro j st K ⟨hj,h⟩ hK
 obtain ⟨v,hv⟩:∃ v,v=l.ws++List.replicate j dn:=⟨_,rfl⟩
 have hvl:v.length=l.ws.length+j:=by rw [hv]; simp
 rw [<-hv] at h
 by_cases c:v.length<=k
 ·have c':(v.length:Int)<=k:=by omega
  simp only [eLk] at h
  simp (disch:=omega) [go_sem,a13,h,c,c']
  refine hK (j+1) _ ⟨by omega,?_⟩ (by omega)
  rw [show l.ws++List.replicate (j+1) dn=v++[dn] by rw [hv,List.replicate_succ',List.append_assoc]]
  simp (disch:=omega) [go_sem,h,eLk,b17,a9v,dn]
 ·have c':¬ (v.length:Int)<=k:=by omega
  simp only [eLk] at h
  simp (disch:=omega) [go_sem,a13,h,c,c']
  have e:a6o l.ws k=v:=by rw [hv,a6o,show k+1 - l.ws.length=j by omega]
  refine hex _ ?_
  rw [e]
  simp (disch:=omega) [go_sem,h,eLk]
theorem d1f {l:Lk} {kk:Nat} {d:Ds} (hk8:kk < 8) (hw:l.ws.length<=8) (hf:d.shape.length < 2 ^ 36)
  (h0:st.s 0= .var (eLk l)/\st.s 4= .var [.own 1 0 [],lb false]/\st.s 6=li kk/\st.s 7= .var (eD d))
  (hex:∀ s:St,s.s 0= .var (eLk { l with keys:=(b6k l.keys l.vals kk d).1,vals:=(b6k l.keys l.vals kk d).2,ws:=(a6o l.ws kk).set kk d })/\s.s 4= .var (eD d)/\s.s 5= .lit .nilIface->Q .ret s) :
  AW pg G 93 (.draw order_looker_weight_r12 [[],[0],[1],[2],[],[],[3,4,5,0,1,2,3,4,5]]) (b1z (AW pg G 93 (.seq (.block 0 (.loop a13)) (.seq (.draw order_looker_weight_r15 [[],[0],[1],[2],[3],[],[],[6],[4,5,0,1,2,3,4,5,6,7],[8,7,7,0,1,2,3,4,5,6,7]]) (.seq (.reg order_looker_weight_r16) .ret))) Q) Q) st:=by
 simp only [eLk] at h0
 refine a0b ?_
 simp (disch:=omega) [go_sem,h0,b5u,b5n,c9z]
 refine a0d (by decide) fun s2 hs hep=> ?_
 simp (disch:=omega) [go_sem,hs,hep,h0]
 refine f27 (l:={ l with keys:=(b6k l.keys l.vals kk d).1,vals:=(b6k l.keys l.vals kk d).2 }) (k:=kk) (d:=d) hk8 hw (by simp (disch:=omega) [go_sem,hs,hep,eLk,h0]) (fun s h=> ?_)
 simp only [eLk] at h
 simp (disch:=omega) [go_sem,h]
 refine a0b ?_
 simp (disch:=omega) [go_sem,h,c3e]
 refine a47 ((a35 d.shape d.wide (by omega)).shown (res':= .agg [slI d.shape,lb d.wide]) (by simp (disch:=omega) [go_sem])) (by simp (disch:=omega) [go_sem]) (by simp (disch:=omega) [go_sem,h]) (by simp (disch:=omega) [go_sem,a0r,a3e]) [90] (by simp) (by simp (disch:=omega) [go_sem,h]) ?_
 have hp:=c3e (ws:=l.ws) (k:=kk)
 have hp2:kk*2+2<=(a6o l.ws kk).length*2:=by omega
 simp (disch:=omega) [go_sem,h,hp,hp2]
 refine a0d (by decide) fun s3 hs3 hep3=> ?_
 simp (disch:=omega) [go_sem,hs3,hep3,h,hp,hp2,b62]
 refine hex _ ?_
 simp (disch:=omega) [go_sem,hs3,hep3,h,hp,hp2,b62,eLk]
theorem f6o (hS:SentO G bk) (l:Lk) (n:Nd) (hl:∀ d∈l.vals,d.shape.length < 2 ^ 36) (hw:l.ws.length<=8) (hn:n.args.length < 2 ^ 36) (hf:(a2n n.args 1).1.shape.length < 2 ^ 36):ACallsX pg G b0h [.var (eLk l),.agg (a5q n)] (b8r bk (wtR l n.args).1) [(0,.var (eLk (wtR l n.args).2))]:=by
 have h7:=hS.val 6 (by decide)
 have h3:=hS.val 3 (by decide)
 refine a8a (pins:=[0]) (by kernel_rfl) rfl rfl (by simp [go_sem]) rfl ?_
 by_cases h2:n.args.length < 2
 ·have h2':(n.args.length:Int) < 2:=by omega
  simp (disch:=omega) [go_sem,a19,eLk,a5q,h2']
  refine a0b ?_
  simp (disch:=omega) [go_sem,h7]
  refine a0d (by decide) fun s2 hs hep=> ?_
  simp (disch:=omega) [go_sem,hs,hep,wtR,h2,bad,dn,a05]
 have h2':¬ (n.args.length:Int) < 2:=by omega
 have h0:0 < n.args.length:=by omega
 have hg:n.args[0]! =n.args[0]:=by simp [h0]
 generalize hk:n.args[0]=k at *
 by_cases z:k < 0
 ·simp (disch:=omega) [go_sem,a19,eLk,a5q,h2',h0,hk,z]
  refine a0b ?_
  simp (disch:=omega) [go_sem,h3]
  refine a0d (by decide) fun s2 hs hep=> ?_
  simp (disch:=omega) [go_sem,hs,hep,wtR,h2,hk,z,bad,dn,a05]
 by_cases o:8<=k
 ·simp (disch:=omega) [go_sem,a19,eLk,a5q,h2',h0,hk,z,o]
  refine a0b ?_
  simp (disch:=omega) [go_sem,h3]
  refine a0d (by decide) fun s2 hs hep=> ?_
  simp (disch:=omega) [go_sem,hs,hep,wtR,h2,hk,z,o,bad,dn,a05]
 obtain ⟨kk,rfl⟩:∃ kk:Nat,k=kk:=⟨k.toNat,by omega⟩
 simp (disch:=omega) [go_sem,a19,eLk,a5q,h2',h0,hk,z,o]
 refine a0g (d4o hS n.args 1 hn (by omega)) (by simp [go_sem]) (by simp (disch:=omega) [go_sem]) ?_
 generalize hr:a2n n.args 1=r at *
 obtain ⟨d,e⟩:=r
 simp only at hf
 cases he:e.isNil with
 | false=>
  simp (disch:=omega) [go_sem,he,wtR,h2,hk,z,o,hr,dn]
 | true=>
  obtain rfl:e= .nil:=by cases e<;>simp_all [Er.isNil]
  cases hq:c2o l.keys l.vals kk with
  | none=>
   simp (disch:=omega) [go_sem,he,b44,hq,a0f]
   refine d1f (l:=l) (kk:=kk) (d:=d) (by omega) hw hf (by simp (disch:=omega) [go_sem,eLk]) (fun s h=> ?_)
   simp only [eLk] at h
   simp (disch:=omega) [go_sem,h,wtR,h2,hk,z,o,hr,he,hq,a05]
  | some was=>
   have hwas:was.shape.length < 2 ^ 36:=hl _ (c6b hq)
   simp (disch:=omega) [go_sem,he,b44,hq,a0f]
   refine a0c (a7k d was (by omega) (by omega)) rfl rfl ?_
   by_cases hd:d=was
   ·subst hd
    simp (disch:=omega) [go_sem]
    refine d1f (l:=l) (kk:=kk) (d:=d) (by omega) hw hf (by simp (disch:=omega) [go_sem,eLk]) (fun s h=> ?_)
    simp only [eLk] at h
    simp (disch:=omega) [go_sem,h,wtR,h2,hk,z,o,hr,he,hq,a05]
   ·simp (disch:=omega) [go_sem,hd]
    refine a0b ?_
    simp (disch:=omega) [go_sem,h7]
    refine a0d (by decide) fun s3 hs3 hep3=> ?_
    simp (disch:=omega) [go_sem,hs3,hep3,wtR,h2,hk,z,o,hr,he,hq,hd,bad,dn,a05]
end
end Go.Ideal.Tryz
end
section
namespace Go.Ideal.Tryz
attribute [local go_sem] eD eT eV
section
variable {G:GG} {bk:Nat->Nat×Nat} {Q:Exit->St->Prop} {st:St}
theorem e5z (hS:SentO G bk) (a:Ds) (ha:a.shape.length < 2 ^ 62):ACalls pg G c8e [.agg (eD a)] (b8r bk (b4i a)):=by
 have h7:=hS.val 6 (by decide)
 by_cases he:a01 a.shape= .nil
 ·by_cases c1:a.shape.length=2
  ·obtain ⟨ash,aw⟩:=a
   obtain ⟨x,y,rfl⟩:=b2b c1
   have hr:b4i ⟨[x,y],aw⟩=(⟨[y,x],aw⟩,.nil):=by simp [b4i,chk,he,Er.isNil]
   rw [hr]
   refine ACalls.shown (res:= .tup [.agg [owI [y,x],lb aw],.lit .nilIface]) ?_ rfl
   refine b03 rfl ?_
   simp (disch:=omega) [go_sem,b3w]
   refine a0g (a1d hS.three [x,y] aw (by simp)) (a0z _) (by simp (disch:=omega) [go_sem]) ?_
   simp (disch:=omega) [go_sem,he,Er.isNil]
   refine a0b ?_
   simp (disch:=omega) [go_sem]
   refine a0d (by decide) fun s2 hs2 hes2=> ?_
   simp (disch:=omega) [go_sem,hs2]
  ·have c1':¬ (a.shape.length:Int)=2:=by omega
   have hr:b4i a=(dn,.s 6):=by simp only [b4i,chk,he,Er.isNil,if_true,c1,if_false]; rfl
   rw [hr]
   refine b03 rfl ?_
   simp (disch:=omega) [go_sem,b3w]
   refine a0g (a1d hS.three a.shape a.wide ha) (a0z _) (by simp (disch:=omega) [go_sem]) ?_
   simp (disch:=omega) [go_sem,he,Er.isNil,c1']
   refine a0b ?_
   simp (disch:=omega) [go_sem,h7,dn,a05]
   refine a0d (by decide) fun s2 hs2 hes2=> ?_
   simp (disch:=omega) [go_sem,hs2,h7,dn,a05]
 ·have he':=a4h he
  have hr:b4i a=(dn,a01 a.shape):=by simp only [b4i,chk,he']; rfl
  rw [hr]
  refine b03 rfl ?_
  simp (disch:=omega) [go_sem,b3w]
  refine a0g (a1d hS.three a.shape a.wide ha) (a0z _) (by simp (disch:=omega) [go_sem]) ?_
  simp (disch:=omega) [go_sem,he',dn]
theorem wq {x y:Int} (h:0<=x/\1<=y/\x < 4611686018427387904):IntKind.i64.wrap (IntKind.i64.wrap (x.tdiv y)+1)=x / y+1:=by
 have h1:=Int.ediv_nonneg h.1 (by omega:0<=y)
 have h2:=Int.ediv_le_self y h.1
 rw [Int.tdiv_eq_ediv_of_nonneg h.1,b1e (n:=x / y) (by omega),b1e (by omega)]
theorem a4w {sh:List Int} (h:a01 sh= .nil):∀ x∈sh,1<=x/\x<=256:=by
 have:=a52.1 h
 simp only [c02,Bool.and_eq_true,List.all_eq_true,a3x,decide_eq_true_eq] at this
 intro x hx
 exact this.1.2 x hx
theorem d42 (hS:SentO G bk) (p q:Int) (a:Ds) (ha:a.shape.length < 2 ^ 62):ACalls pg G b9x [slI [p,q],.agg (eD a)] (b8r bk (b20 [p,q] a)):=by
 have h7:=hS.val 6 (by decide)
 have h3:=hS.val 3 (by decide)
 by_cases he:a01 a.shape= .nil
 ·have hr:b20 [p,q] a=(if a.shape.length=3 then
   (if 1<=p/\p<=16/\1<=q/\q<=16 then
    (if 0<=a.shape[0]! - p/\0<=a.shape[1]! - p then
     (⟨[(a.shape[0]! - p) / q+1,(a.shape[1]! - p) / q+1,a.shape[2]!],a.wide⟩,.nil) else bad 6) else bad 3) else bad 6):=by simp [b20,chk,he,Er.isNil]
  rw [hr]
  clear hr
  by_cases c1:a.shape.length=3
  ·obtain ⟨ash,aw⟩:=a
   obtain ⟨x,y,z,rfl⟩:=d4x c1
   have hd:a01 [x,y,z]= .nil:=he
   have hx:=a4w hd x (by simp)
   have hy:=a4w hd y (by simp)
   by_cases p1:p < 1
   ·rw [if_pos (by simp),if_neg (by omega)]
    refine a1s rfl ?_
    simp (disch:=omega) [go_sem,a16]
    refine a0g (a1d hS.three [x,y,z] aw (by simp)) (a0z _) (by simp (disch:=omega) [go_sem]) ?_
    simp (disch:=omega) [go_sem,hd,Er.isNil]
    refine a0b ?_
    simp (disch:=omega) [go_sem]
    refine a0d (by decide) fun s2 hs2 hes2=> ?_
    simp (disch:=omega) [go_sem,hs2,p1]
    refine a0b ?_
    simp (disch:=omega) [go_sem,hs2,h3,bad,dn,a05]
    refine a0d (by decide) fun s4 hs4 hes4=> ?_
    simp (disch:=omega) [go_sem,hs4,hs2,h3,bad,dn,a05]
   by_cases p2:16 < p
   ·rw [if_pos (by simp),if_neg (by omega)]
    refine a1s rfl ?_
    simp (disch:=omega) [go_sem,a16]
    refine a0g (a1d hS.three [x,y,z] aw (by simp)) (a0z _) (by simp (disch:=omega) [go_sem]) ?_
    simp (disch:=omega) [go_sem,hd,Er.isNil]
    refine a0b ?_
    simp (disch:=omega) [go_sem]
    refine a0d (by decide) fun s2 hs2 hes2=> ?_
    simp (disch:=omega) [go_sem,hs2,p1,p2]
    refine a0b ?_
    simp (disch:=omega) [go_sem,hs2,h3,bad,dn,a05]
    refine a0d (by decide) fun s4 hs4 hes4=> ?_
    simp (disch:=omega) [go_sem,hs4,hs2,h3,bad,dn,a05]
   by_cases p3:q < 1
   ·rw [if_pos (by simp),if_neg (by omega)]
    refine a1s rfl ?_
    simp (disch:=omega) [go_sem,a16]
    refine a0g (a1d hS.three [x,y,z] aw (by simp)) (a0z _) (by simp (disch:=omega) [go_sem]) ?_
    simp (disch:=omega) [go_sem,hd,Er.isNil]
    refine a0b ?_
    simp (disch:=omega) [go_sem]
    refine a0d (by decide) fun s2 hs2 hes2=> ?_
    simp (disch:=omega) [go_sem,hs2,p1,p2,p3]
    refine a0b ?_
    simp (disch:=omega) [go_sem,hs2,h3,bad,dn,a05]
    refine a0d (by decide) fun s4 hs4 hes4=> ?_
    simp (disch:=omega) [go_sem,hs4,hs2,h3,bad,dn,a05]
   by_cases p4:16 < q
   ·rw [if_pos (by simp),if_neg (by omega)]
    refine a1s rfl ?_
    simp (disch:=omega) [go_sem,a16]
    refine a0g (a1d hS.three [x,y,z] aw (by simp)) (a0z _) (by simp (disch:=omega) [go_sem]) ?_
    simp (disch:=omega) [go_sem,hd,Er.isNil]
    refine a0b ?_
    simp (disch:=omega) [go_sem]
    refine a0d (by decide) fun s2 hs2 hes2=> ?_
    simp (disch:=omega) [go_sem,hs2,p1,p2,p3,p4]
    refine a0b ?_
    simp (disch:=omega) [go_sem,hs2,h3,bad,dn,a05]
    refine a0d (by decide) fun s4 hs4 hes4=> ?_
    simp (disch:=omega) [go_sem,hs4,hs2,h3,bad,dn,a05]
   by_cases p5:x - p < 0
   ·rw [if_pos (by simp),if_pos (by omega),if_neg (by simp; omega)]
    refine a1s rfl ?_
    simp (disch:=omega) [go_sem,a16]
    refine a0g (a1d hS.three [x,y,z] aw (by simp)) (a0z _) (by simp (disch:=omega) [go_sem]) ?_
    simp (disch:=omega) [go_sem,hd,Er.isNil]
    refine a0b ?_
    simp (disch:=omega) [go_sem]
    refine a0d (by decide) fun s2 hs2 hes2=> ?_
    simp (disch:=omega) [go_sem,hs2,p1,p2,p3,p4]
    refine a0b ?_
    simp (disch:=omega) [go_sem,hs2]
    refine a0d (by decide) fun s4 hs4 hes4=> ?_
    simp (disch:=omega) [go_sem,hs4,hs2,p5]
    refine a0b ?_
    simp (disch:=omega) [go_sem,hs4,hs2,h7,bad,dn,a05]
    refine a0d (by decide) fun s6 hs6 hes6=> ?_
    simp (disch:=omega) [go_sem,hs6,hs4,hs2,h7,bad,dn,a05]
   by_cases p6:y - p < 0
   ·rw [if_pos (by simp),if_pos (by omega),if_neg (by simp; omega)]
    refine a1s rfl ?_
    simp (disch:=omega) [go_sem,a16]
    refine a0g (a1d hS.three [x,y,z] aw (by simp)) (a0z _) (by simp (disch:=omega) [go_sem]) ?_
    simp (disch:=omega) [go_sem,hd,Er.isNil]
    refine a0b ?_
    simp (disch:=omega) [go_sem]
    refine a0d (by decide) fun s2 hs2 hes2=> ?_
    simp (disch:=omega) [go_sem,hs2,p1,p2,p3,p4]
    refine a0b ?_
    simp (disch:=omega) [go_sem,hs2]
    refine a0d (by decide) fun s4 hs4 hes4=> ?_
    simp (disch:=omega) [go_sem,hs4,hs2,p5,p6]
    refine a0b ?_
    simp (disch:=omega) [go_sem,hs4,hs2,h7,bad,dn,a05]
    refine a0d (by decide) fun s6 hs6 hes6=> ?_
    simp (disch:=omega) [go_sem,hs6,hs4,hs2,h7,bad,dn,a05]
   rw [if_pos (by simp),if_pos (by omega),if_pos (by simp; omega)]
   refine ACalls.shown (res:= .tup [.agg [owI [(x - p) / q+1,(y - p) / q+1,z],lb aw],.lit .nilIface]) ?_ (by simp [go_sem,frz,a2z,owI]; rfl)
   refine a1s rfl ?_
   simp (disch:=omega) [go_sem,a16]
   refine a0g (a1d hS.three [x,y,z] aw (by simp)) (a0z _) (by simp (disch:=omega) [go_sem]) ?_
   simp (disch:=omega) [go_sem,hd,Er.isNil]
   refine a0b ?_
   simp (disch:=omega) [go_sem]
   refine a0d (by decide) fun s2 hs2 hes2=> ?_
   simp (disch:=omega) [go_sem,hs2,p1,p2,p3,p4]
   refine a0b ?_
   simp (disch:=omega) [go_sem,hs2]
   refine a0d (by decide) fun s4 hs4 hes4=> ?_
   simp (disch:=omega) [go_sem,hs4,hs2,p5,p6]
   refine a0b ?_
   simp (disch:=omega) [go_sem,hs4,hs2,a6s]
   refine a0d (by decide) fun s6 hs6 hes6=> ?_
   simp (disch:=omega) [go_sem,hs6,hs4,hs2,a6s,wq (x:=x - p) (y:=q) (by omega),wq (x:=y - p) (y:=q) (by omega)]
  ·have c1':¬ (a.shape.length:Int)=3:=by omega
   rw [if_neg c1]
   refine a1s rfl ?_
   simp (disch:=omega) [go_sem,a16]
   refine a0g (a1d hS.three a.shape a.wide ha) (a0z _) (by simp (disch:=omega) [go_sem]) ?_
   simp (disch:=omega) [go_sem,he,Er.isNil,c1']
   refine a0b ?_
   simp (disch:=omega) [go_sem,h7,bad,dn,a05]
   refine a0d (by decide) fun s2 hs2 hes2=> ?_
   simp (disch:=omega) [go_sem,hs2,h7,bad,dn,a05]
 ·have he':=a4h he
  have hr:b20 [p,q] a=(dn,a01 a.shape):=by simp only [b20,chk,he']; rfl
  rw [hr]
  refine a1s rfl ?_
  simp (disch:=omega) [go_sem,a16]
  refine a0g (a1d hS.three a.shape a.wide ha) (a0z _) (by simp (disch:=omega) [go_sem]) ?_
  simp (disch:=omega) [go_sem,he',dn]
end
end Go.Ideal.Tryz
end
