/- Part Qah of the proof: walks on a machine that is proved sound. -/
import Derived.Test.YtploijbaclgehaaDoorQag
set_option linter.unusedVariables false
set_option linter.unusedSimpArgs false
set_option maxRecDepth 10000
section
namespace Go.Ideal
theorem ACalls.frz {P:Program} {G:GG} {f:FuncId} {pre:List AV} {res:AV} (h:ACalls P G f pre res):ACalls P G f pre (Ideal.frz res):=by
 intro w args A ow h1 h2 h3 h4 h5
 refine (h w args A ow h1 h2 h3 h4 h5).mono ?_
 rintro e w' ⟨v,rfl,hr⟩
 refine ⟨v,rfl,hr.le,hr.os,hr.tape,hr.output,hr.frame,noB,fun _ h=>h.elim,?_⟩
 obtain ⟨F,hF,hR⟩:=hr.own
 exact b6g (fun b hb=>⟨hb.1,fun h=>h,hb.2.2⟩) res (fun b hb=>⟨(hF b hb).2,fun h=>h,(hF b hb).1.elim (fun h=> .inr (.inl h)) fun h=> .inr (.inr h)⟩) hR
theorem ACalls.shown {P:Program} {G:GG} {f:FuncId} {pre:List AV} {res res':AV} (h:ACalls P G f pre res) (he:Ideal.frz res=res'):ACalls P G f pre res':=he ▸ h.frz
end Go.Ideal
end
section
namespace Go.Ideal.Tryd
def a6c:IC:=(.seq (.reg [oo 36 (.bin .lss 3 0 (.t 35) (.t 34) 3)]) (.seq (.cond (.t 36) .skip (.exit 0)) (.seq (.block 1 (.seq (.reg [oo 37 (.iaddr 22 3 (.t 33) (.t 35)),
 oo 38 (.load 41 (some 3) (.t 37)),
 oo 7 (.alloc 41 [.lit (.int .i64 0),.own 1 0 [],.lit (.bool false)]),
 ov (.store 41 3 (.t 7) (.t 38))]) (.seq (.reg [om 39 5,
 oo 40 (.faddr 41 0 (.t 7) 0),
 oo 41 (.load 3 none (.t 40)),
 ⟨(some 42),.callx (.f 52) [(false,(.t 41))] [.x (.t 39),.p 0] [115,3],none⟩]) (.reg [om 43 5,
 oo 44 (.faddr 41 1 (.t 7) 1),
 oo 45 (.load 39 (some 2) (.t 44)),
 ⟨(some 46),.callx (.f 54) [(false,(.t 45))] [.x (.t 43),.p 0] [115,39],none⟩])))) (.reg [oo 47 (.bin .add 3 0 (.t 35) (.n 1) 3),
 om 35 47]))))
def a6d:IC:=(.seq (.reg [oo 57 (.bin .lss 3 0 (.t 56) (.t 55) 3)]) (.seq (.cond (.t 57) .skip (.exit 2)) (.seq (.block 3 (.seq (.reg [oo 58 (.iaddr 23 3 (.t 54) (.t 56)),
 oo 59 (.load 44 (some 3) (.t 58)),
 oo 9 (.alloc 44 [.own 1 0 [],.lit (.bool false),.own 1 0 []]),
 ov (.store 44 3 (.t 9) (.t 59))]) (.draw [om 60 5,
 om 61 5,
 oo 62 (.nilck (.t 61)),
 oo 63 (.faddr 117 0 (.t 62) 0),
 oo 64 (.load 69 none (.t 63)),
 oo 65 (.load 44 (some 3) (.t 9)),
 oc 66 55 [(false,(.t 65))] [44],
 oo 67 (.app 69 5 1 1 (.t 64) (.t 66)),
 oo 68 (.nilck (.t 60)),
 oo 69 (.faddr 117 0 (.t 68) 0),
 ov (.store 69 1 (.t 69) (.t 67))] [[],[],[1],[2],[3],[],[5],[4,6,6],[0,0,1,2,3,4,5,6,7],[8,0,1,2,3,4,5,6,7],[9,7,7,0,1,2,3,4,5,6,7]]))) (.reg [oo 70 (.bin .add 3 0 (.t 56) (.n 1) 3),
 om 56 70]))))
def a6e:IC:=(.seq (.reg [oo 80 (.bin .lss 3 0 (.t 79) (.t 78) 3)]) (.seq (.cond (.t 80) .skip (.exit 4)) (.seq (.block 5 (.seq (.reg [oo 81 (.iaddr 24 2 (.t 77) (.t 79)),
 oo 82 (.load 39 (some 2) (.t 81)),
 oo 11 (.alloc 39 [.own 1 0 [],.lit (.bool false)]),
 ov (.store 39 2 (.t 11) (.t 82))]) (.reg [om 83 5,
 oo 84 (.load 39 (some 2) (.t 11)),
 ⟨(some 85),.callx (.f 54) [(false,(.t 84))] [.x (.t 83),.p 0] [115,39],none⟩]))) (.reg [oo 86 (.bin .add 3 0 (.t 79) (.n 1) 3),
 om 79 86]))))
def a6f:IC:=(.seq (.reg [oo 96 (.bin .lss 3 0 (.t 95) (.t 94) 3)]) (.seq (.cond (.t 96) .skip (.exit 6)) (.seq (.block 7 (.seq (.reg [oo 97 (.iaddr 25 6 (.t 93) (.t 95)),
 oo 98 (.load 36 (some 6) (.t 97)),
 oo 13 (.alloc 36 [.lit (.int .i64 0),.lit (.int .i64 0),.own 1 0 [],.own 1 0 [],.lit (.int .i64 0),.lit (.int .i64 0)]),
 ov (.store 36 6 (.t 13) (.t 98))]) (.reg [om 99 5,
 oo 100 (.load 36 (some 6) (.t 13)),
 ⟨(some 101),.callx (.f 56) [(false,(.t 100))] [.x (.t 99),.p 0] [115,36],none⟩]))) (.reg [oo 102 (.bin .add 3 0 (.t 95) (.n 1) 3),
 om 95 102]))))
def a9s:IC:=(.seq (.reg [oo 1 (.box 27 7 (.t 0)),
 oo 2 (.asg (.nl 1)),
 oo 3 (.asg (.c .nilIface))]) (.seq (.seq (.reg [oo 14 (.load 27 (some 7) (.t 1)),
 oc 15 51 [(false,(.t 14))] [27],
 oo 4 (.asg (.t 15))]) (.seq (.reg [om 16 4,
 oo 17 (.bin .neq 53 2 (.t 16) (.c .nilIface) 53)]) (.cond (.t 17) (.seq (.reg [om 18 4,
 oo 2 (.asg (.nl 1)),
 oo 3 (.asg (.t 18))]) .ret) .skip))) (.seq (.reg [oo 19 (.bslice 69 5 1 2 [.lit (.int .u8 0)] [(0,(.c (.int .u8 (76)))),(1,(.c (.int .u8 (80))))]),
 oo 20 (.conv 69 69 .keep (.t 19)),
 oo 21 (.build 117 [.own 1 0 []] [(0,0,1,(.t 20))]),
 oo 22 (.box 117 1 (.t 21)),
 oo 5 (.asg (.t 22))]) (.seq (.reg [om 23 5,
 oo 24 (.faddr 27 0 (.t 1) 0),
 oo 25 (.load 3 none (.t 24)),
 ⟨(some 26),.callx (.f 52) [(false,(.t 25))] [.x (.t 23),.p 0] [115,3],none⟩]) (.seq (.reg [om 27 5,
 oo 28 (.faddr 27 1 (.t 1) 1),
 oo 29 (.load 22 none (.t 28)),
 oo 30 (.len 22 false (.t 29)),
 ⟨(some 31),.callx (.f 53) [(false,(.t 30))] [.x (.t 27),.p 0] [115,3],none⟩]) (.seq (.seq (.reg [oo 32 (.faddr 27 1 (.t 1) 1),
 oo 33 (.load 22 none (.t 32)),
 oo 34 (.len 22 false (.t 33)),
 oo 35 (.mv (.n 0))]) (.block 0 (.loop a6c))) (.seq (.reg [om 48 5,
 oo 49 (.faddr 27 2 (.t 1) 2),
 oo 50 (.load 23 none (.t 49)),
 oo 51 (.len 23 false (.t 50)),
 ⟨(some 52),.callx (.f 53) [(false,(.t 51))] [.x (.t 48),.p 0] [115,3],none⟩]) (.seq (.seq (.reg [oo 53 (.faddr 27 2 (.t 1) 2),
 oo 54 (.load 23 none (.t 53)),
 oo 55 (.len 23 false (.t 54)),
 oo 56 (.mv (.n 0))]) (.block 2 (.loop a6d))) (.seq (.reg [om 71 5,
 oo 72 (.faddr 27 3 (.t 1) 3),
 oo 73 (.load 24 none (.t 72)),
 oo 74 (.len 24 false (.t 73)),
 ⟨(some 75),.callx (.f 53) [(false,(.t 74))] [.x (.t 71),.p 0] [115,3],none⟩]) (.seq (.seq (.reg [oo 76 (.faddr 27 3 (.t 1) 3),
 oo 77 (.load 24 none (.t 76)),
 oo 78 (.len 24 false (.t 77)),
 oo 79 (.mv (.n 0))]) (.block 4 (.loop a6e))) (.seq (.reg [om 87 5,
 oo 88 (.faddr 27 4 (.t 1) 4),
 oo 89 (.load 25 none (.t 88)),
 oo 90 (.len 25 false (.t 89)),
 ⟨(some 91),.callx (.f 53) [(false,(.t 90))] [.x (.t 87),.p 0] [115,3],none⟩]) (.seq (.seq (.reg [oo 92 (.faddr 27 4 (.t 1) 4),
 oo 93 (.load 25 none (.t 92)),
 oo 94 (.len 25 false (.t 93)),
 oo 95 (.mv (.n 0))]) (.block 6 (.loop a6f))) (.seq (.reg [om 103 5,
 oo 104 (.faddr 27 5 (.t 1) 5),
 oo 105 (.load 3 none (.t 104)),
 ⟨(some 106),.callx (.f 52) [(false,(.t 105))] [.x (.t 103),.p 0] [115,3],none⟩]) (.seq (.reg [om 107 5,
 oo 108 (.faddr 27 6 (.t 1) 6),
 oo 109 (.load 3 none (.t 108)),
 ⟨(some 110),.callx (.f 52) [(false,(.t 109))] [.x (.t 107),.p 0] [115,3],none⟩]) (.seq (.reg [om 111 5,
 oo 112 (.nilck (.t 111)),
 oo 113 (.faddr 117 0 (.t 112) 0),
 oo 114 (.load 69 none (.t 113)),
 oo 2 (.asg (.t 114)),
 oo 3 (.asg (.c .nilIface))]) .ret)))))))))))))))
abbrev b35:Nat:=23
theorem b0x:fnC pg 23 115 [(.tmp 2),(.tmp 3)] a9s:=a1k Go.Proofs.Tryd.f23 [(.tmp 2),(.tmp 3)] (by kernel_rfl)
@[go_sem] theorem c1k:fnB pg 23=true:=by kernel_rfl
def a69:IC:=(.seq (.reg [oo 56 (.bin .lss 3 0 (.t 55) (.t 54) 3)]) (.seq (.cond (.t 56) .skip (.exit 0)) (.seq (.block 1 (.seq (.reg [oo 57 (.iaddr 22 3 (.t 53) (.t 55)),
 oo 58 (.load 41 (some 3) (.t 57)),
 oo 6 (.alloc 41 [.lit (.int .i64 0),.own 1 0 [],.lit (.bool false)]),
 ov (.store 41 3 (.t 6) (.t 58))]) (.reg [om 59 4,
 oo 60 (.faddr 41 0 (.t 6) 0),
 oo 61 (.load 3 none (.t 60)),
 oo 62 (.bslice 34 3 1 1 [.lit (.int .i64 0)] [(0,(.t 61))]),
 oo 63 (.app 34 3 1 8 (.t 59) (.t 62)),
 oo 4 (.asg (.t 63))]))) (.reg [oo 64 (.bin .add 3 0 (.t 55) (.n 1) 3),
 om 55 64]))))
def a7a:IC:=(.seq (.reg [oo 68 (.bin .lss 3 0 (.t 67) (.t 66) 3)]) (.seq (.cond (.t 68) .skip (.exit 2)) (.seq (.block 3 (.seq (.reg [oo 69 (.iaddr 24 2 (.t 65) (.t 67)),
 oo 70 (.load 39 (some 2) (.t 69)),
 oo 8 (.alloc 39 [.own 1 0 [],.lit (.bool false)]),
 ov (.store 39 2 (.t 8) (.t 70))]) (.seq (.reg [oo 71 (.faddr 39 0 (.t 8) 0),
 oo 72 (.load 34 none (.t 71)),
 ⟨(some 73),.callx (.f 80) [(false,(.t 72))] [.p 0,.x (.f 81)] [34,125],none⟩]) (.cond (.t 73) (.seq (.reg [oo 74 (.load 53 none (.g 7)),
 oo 2 (.asg (.t 74))]) .ret) .skip)))) (.reg [oo 75 (.bin .add 3 0 (.t 67) (.n 1) 3),
 om 67 75]))))
def a7b:IC:=(.seq (.reg [oo 88 (.bin .lss 3 0 (.t 87) (.t 86) 3)]) (.seq (.cond (.t 88) .skip (.exit 4)) (.seq (.block 5 (.seq (.reg [oo 89 (.iaddr 23 3 (.t 85) (.t 87)),
 oo 90 (.load 44 (some 3) (.t 89)),
 oo 10 (.alloc 44 [.own 1 0 [],.lit (.bool false),.own 1 0 []]),
 ov (.store 44 3 (.t 10) (.t 90))]) (.seq (.reg [oo 91 (.load 44 (some 3) (.t 10)),
 oc 92 67 [(false,(.t 91))] [44],
 oo 11 (.asg (.t 92))]) (.seq (.reg [om 93 11,
 oo 94 (.bin .neq 53 2 (.t 93) (.c .nilIface) 53)]) (.cond (.t 94) (.seq (.reg [om 95 11,
 oo 2 (.asg (.t 95))]) .ret) .skip))))) (.reg [oo 96 (.bin .add 3 0 (.t 87) (.n 1) 3),
 om 87 96]))))
def b02:IC:=(.seq (.reg [oo 1 (.box 27 7 (.t 0)),
 oo 2 (.asg (.c .nilIface))]) (.seq (.seq (.reg [oo 12 (.faddr 27 1 (.t 1) 1),
 oo 13 (.load 22 none (.t 12)),
 oo 14 (.len 22 false (.t 13)),
 oo 15 (.bin .gtr 3 0 (.t 14) (.n 128) 3),
 om 16 15,
 og 17 (.faddr 27 2 (.t 1) 2) 4 16 false,
 og 18 (.load 23 none (.t 17)) 4 16 false,
 og 19 (.len 23 false (.t 18)) 4 16 false,
 og 20 (.bin .gtr 3 0 (.t 19) (.n 64) 3) 4 16 false,
 oo 21 (.pick (.t 16) (.c (.bool true)) (.t 20)),
 om 22 21,
 og 23 (.faddr 27 3 (.t 1) 3) 10 22 false,
 og 24 (.load 24 none (.t 23)) 10 22 false,
 og 25 (.len 24 false (.t 24)) 10 22 false,
 og 26 (.bin .gtr 3 0 (.t 25) (.n 8) 3) 10 22 false,
 oo 27 (.pick (.t 22) (.c (.bool true)) (.t 26)),
 om 28 27,
 og 29 (.faddr 27 4 (.t 1) 4) 16 28 false,
 og 30 (.load 25 none (.t 29)) 16 28 false,
 og 31 (.len 25 false (.t 30)) 16 28 false,
 og 32 (.bin .gtr 3 0 (.t 31) (.n 2048) 3) 16 28 false,
 oo 33 (.pick (.t 28) (.c (.bool true)) (.t 32)),
 om 34 33,
 og 35 (.faddr 27 4 (.t 1) 4) 22 34 false,
 og 36 (.load 25 none (.t 35)) 22 34 false,
 ⟨(some 37),.callx (.f 75) [(false,(.t 36))] [.p 0,.x (.f 76)] [25,139],(some (22,34,false))⟩,
 oo 38 (.pick (.t 34) (.c (.bool true)) (.t 37))]) (.cond (.t 38) (.seq (.reg [oo 39 (.load 53 none (.g 0)),
 oo 2 (.asg (.t 39))]) .ret) .skip)) (.seq (.reg [oo 40 (.load 27 (some 7) (.t 1)),
 oc 41 77 [(false,(.t 40))] [27],
 oo 3 (.asg (.t 41))]) (.seq (.seq (.reg [om 42 3,
 ⟨(some 43),.callx (.f 78) [(false,(.t 42))] [.p 0,.x (.f 79)] [24,73],none⟩]) (.cond (.t 43) (.seq (.reg [oo 44 (.load 53 none (.g 0)),
 oo 2 (.asg (.t 44))]) .ret) .skip)) (.seq (.reg [oo 45 (.faddr 27 0 (.t 1) 0),
 oo 46 (.load 3 none (.t 45)),
 oo 47 (.faddr 27 5 (.t 1) 5),
 oo 48 (.load 3 none (.t 47)),
 oo 49 (.faddr 27 6 (.t 1) 6),
 oo 50 (.load 3 none (.t 49)),
 oo 51 (.bslice 34 3 1 3 [.lit (.int .i64 0)] [(0,(.t 46)),(1,(.t 48)),(2,(.t 50))]),
 oo 4 (.asg (.t 51))]) (.seq (.seq (.reg [oo 52 (.faddr 27 1 (.t 1) 1),
 oo 53 (.load 22 none (.t 52)),
 oo 54 (.len 22 false (.t 53)),
 oo 55 (.mv (.n 0))]) (.block 0 (.loop a69))) (.seq (.seq (.reg [om 65 3,
 oo 66 (.len 24 false (.t 65)),
 oo 67 (.mv (.n 0))]) (.block 2 (.loop a7a))) (.seq (.seq (.reg [om 76 4,
 ⟨(some 77),.callx (.f 80) [(false,(.t 76))] [.p 0,.x (.f 82)] [34,125],none⟩,
 om 78 77,
 og 79 (.faddr 27 4 (.t 1) 4) 2 78 false,
 og 80 (.load 25 none (.t 79)) 2 78 false,
 ⟨(some 81),.callx (.f 75) [(false,(.t 80))] [.p 0,.x (.f 84)] [25,139],(some (2,78,false))⟩,
 oo 82 (.pick (.t 78) (.c (.bool true)) (.t 81))]) (.cond (.t 82) (.seq (.reg [oo 83 (.load 53 none (.g 7)),
 oo 2 (.asg (.t 83))]) .ret) .skip)) (.seq (.seq (.reg [oo 84 (.faddr 27 2 (.t 1) 2),
 oo 85 (.load 23 none (.t 84)),
 oo 86 (.len 23 false (.t 85)),
 oo 87 (.mv (.n 0))]) (.block 4 (.loop a7b))) (.seq (.reg [oo 2 (.asg (.c .nilIface))]) .ret))))))))))
abbrev b5u:Nat:=51
theorem b1w:fnC pg 51 97 [(.tmp 2)] b02:=a1k Go.Proofs.Tryd.f51 [(.tmp 2)] (by kernel_rfl)
@[go_sem] theorem c2y:fnB pg 51=true:=by kernel_rfl
def a2j:IC:=(.seq (.reg [oo 4 (.asg (.c (.bool false)))]) (.seq (.reg [om 5 0,
 om 6 1,
 ⟨(some 7),.callx (.f 108) [(false,(.t 5))] [.p 0,.x (.t 6)] [25,139],none⟩,
 oo 8 (.bin .geq 3 0 (.t 7) (.n 0) 3),
 oo 4 (.asg (.t 8))]) .ret))
abbrev a4r:Nat:=75
@[go_sem] theorem a96:fnB pg 75=true:=by kernel_rfl
theorem a3u:fnX pg 75 9 [(.tmp 4)] [(.tmp 4)] a2j:=a6o Go.Proofs.Tryd.f75 (by kernel_rfl)
def a8u:IC:=(.seq (.reg [oo 10 (.bin .lss 3 0 (.t 9) (.t 8) 3)]) (.seq (.cond (.t 10) .skip (.exit 0)) (.seq (.block 1 (.seq (.reg [oo 11 (.iaddr 22 3 (.t 7) (.t 9)),
 oo 12 (.load 41 (some 3) (.t 11)),
 oo 5 (.alloc 41 [.lit (.int .i64 0),.own 1 0 [],.lit (.bool false)]),
 ov (.store 41 3 (.t 5) (.t 12))]) (.reg [om 13 3,
 oo 14 (.faddr 41 1 (.t 5) 1),
 oo 15 (.load 39 (some 2) (.t 14)),
 oo 16 (.bslice 24 39 2 1 [.own 1 0 [],.lit (.bool false)] [(0,(.t 15))]),
 oo 17 (.app 24 39 2 32 (.t 13) (.t 16)),
 oo 3 (.asg (.t 17))]))) (.reg [oo 18 (.bin .add 3 0 (.t 9) (.n 1) 3),
 om 9 18]))))
def a9t:IC:=(.seq (.reg [oo 1 (.box 27 7 (.t 0)),
 oo 2 (.asg (.nl 2))]) (.seq (.reg [oo 3 (.asg (.nl 2))]) (.seq (.seq (.reg [oo 6 (.faddr 27 1 (.t 1) 1),
 oo 7 (.load 22 none (.t 6)),
 oo 8 (.len 22 false (.t 7)),
 oo 9 (.mv (.n 0))]) (.block 0 (.loop a8u))) (.seq (.reg [om 19 3,
 oo 20 (.faddr 27 3 (.t 1) 3),
 oo 21 (.load 24 none (.t 20)),
 oo 22 (.app 24 39 2 32 (.t 19) (.t 21)),
 oo 2 (.asg (.t 22))]) .ret))))
abbrev b36:Nat:=77
theorem b00:fnC pg 77 23 [(.tmp 2)] a9t:=a1k Go.Proofs.Tryd.f77 [(.tmp 2)] (by kernel_rfl)
@[go_sem] theorem c1l:fnB pg 77=true:=by kernel_rfl
def a2n:IC:=(.seq (.reg [oo 4 (.asg (.c (.bool false)))]) (.seq (.reg [om 5 0,
 om 6 1,
 ⟨(some 7),.callx (.f 109) [(false,(.t 5))] [.p 0,.x (.t 6)] [24,73],none⟩,
 oo 8 (.bin .geq 3 0 (.t 7) (.n 0) 3),
 oo 4 (.asg (.t 8))]) .ret))
abbrev a48:Nat:=78
@[go_sem] theorem b0c:fnB pg 78=true:=by kernel_rfl
theorem a36:fnX pg 78 9 [(.tmp 4)] [(.tmp 4)] a2n:=a6o Go.Proofs.Tryd.f78 (by kernel_rfl)
def a8v:IC:=(.seq (.reg [oo 2 (.asg (.c (.bool false)))]) (.seq (.reg [om 3 0,
 oc 4 83 [(false,(.t 3))] [3],
 oo 5 (.un .not 4 (.t 4)),
 oo 2 (.asg (.t 5))]) .ret))
abbrev a8g:Nat:=82
theorem a94:fnC pg 82 6 [(.tmp 2)] a8v:=a1k Go.Proofs.Tryd.f82 [(.tmp 2)] (by kernel_rfl)
@[go_sem] theorem b01:fnB pg 82=true:=by kernel_rfl
def a2x:IC:=(.seq (.reg [oo 9 (.bin .lss 3 0 (.t 8) (.t 7) 3)]) (.seq (.cond (.t 9) .skip (.exit 0)) (.seq (.block 1 (.seq (.reg [om 10 8,
 oo 5 (.asg (.t 10))]) (.seq (.reg [om 11 1,
 om 12 0,
 om 13 5,
 oo 14 (.iaddr 25 6 (.t 12) (.t 13)),
 oo 15 (.load 36 (some 6) (.t 14)),
 ⟨(some 16),.callx (.t 11) [(false,(.t 15))] [.p 0] [36],none⟩]) (.cond (.t 16) (.seq (.reg [om 17 5,
 oo 4 (.asg (.t 17))]) .ret) .skip)))) (.reg [oo 18 (.bin .add 3 0 (.t 8) (.n 1) 3),
 om 8 18]))))
def a3a:IC:=(.seq (.reg [oo 4 (.asg (.n 0))]) (.seq (.seq (.reg [om 6 0,
 oo 7 (.len 25 false (.t 6)),
 oo 8 (.mv (.n 0))]) (.block 0 (.loop a2x))) (.seq (.reg [oo 4 (.asg (.n (-1)))]) .ret)))
abbrev a5o:Nat:=108
@[go_sem] theorem b1n:fnB pg 108=true:=by kernel_rfl
theorem a4l:fnX pg 108 19 [(.tmp 4)] [(.tmp 4)] a3a:=a6o Go.Proofs.Tryd.f108 (by kernel_rfl)
def a29:IC:=(.seq (.reg [oo 9 (.bin .lss 3 0 (.t 8) (.t 7) 3)]) (.seq (.cond (.t 9) .skip (.exit 0)) (.seq (.block 1 (.seq (.reg [om 10 8,
 oo 5 (.asg (.t 10))]) (.seq (.reg [om 11 1,
 om 12 0,
 om 13 5,
 oo 14 (.iaddr 24 2 (.t 12) (.t 13)),
 oo 15 (.load 39 (some 2) (.t 14)),
 ⟨(some 16),.callx (.t 11) [(false,(.t 15))] [.p 0] [39],none⟩]) (.cond (.t 16) (.seq (.reg [om 17 5,
 oo 4 (.asg (.t 17))]) .ret) .skip)))) (.reg [oo 18 (.bin .add 3 0 (.t 8) (.n 1) 3),
 om 8 18]))))
def a3i:IC:=(.seq (.reg [oo 4 (.asg (.n 0))]) (.seq (.seq (.reg [om 6 0,
 oo 7 (.len 24 false (.t 6)),
 oo 8 (.mv (.n 0))]) (.block 0 (.loop a29))) (.seq (.reg [oo 4 (.asg (.n (-1)))]) .ret)))
abbrev a53:Nat:=109
@[go_sem] theorem b11:fnB pg 109=true:=by kernel_rfl
theorem a45:fnX pg 109 19 [(.tmp 4)] [(.tmp 4)] a3i:=a6o Go.Proofs.Tryd.f109 (by kernel_rfl)
end Go.Ideal.Tryd
end
section
namespace Go.Ideal
section
variable {N:Nat} {st st1 st2:St} {P:Program} {G:GG} {K:St->Prop}
def b1r (N:Nat) (a b:St):Prop:=(∀ u,u < N->b.s u=a.s u)/\∀ u,b.ep u=a.ep u
@[congr] theorem c42 {a b b':St} (h:b=b'):b1r N a b=b1r N a b':=by rw [h]
@[go_sem] theorem c7s:b1r N st st=True:=by simp [b1r]
def c3n (N:Nat) (a b:St):Prop:=b1r N a b
@[go_sem] theorem d1t {t:Nat} {v:AV}:b1r N st1 (st2.put t v)=frI (decide (N<=t)&& !nm v) (b1r N st1 st2) (c3n N st1 (st2.put t v)):=by
 simp only [frI,c3n]
 split
 ·rename_i h
  simp only [Bool.and_eq_true,decide_eq_true_eq,Bool.not_eq_true'] at h
  apply propext
  simp only [b1r,St.put_s,St.put_ep,h.2,Bool.false_eq_true,and_false,if_false]
  constructor
  ·rintro ⟨h1,h2⟩
   exact ⟨fun u hu=>by have:=h1 u hu; rwa [if_neg (by omega)] at this,h2⟩
  ·rintro ⟨h1,h2⟩
   exact ⟨fun u hu=>by rw [if_neg (by omega)]; exact h1 u hu,h2⟩
 ·rfl
theorem b8h {d:Option Nat} {res:AV} (h:b1r N st1 st2):b0g st2 N d res=b0g st1 N d res:=by
 have e:st2.clear N=st1.clear N:=by
  refine St.ext' (fun u=> ?_) (fun u=>h.2 u)
  simp only [St.clear]
  by_cases hu:u < N
  ·simp [hu,h.1 u hu]
  ·simp [hu]
 cases d<;>simp only [b0g,e]
theorem c1s {d:Option Nat} {f:FuncId} {pre:List AV} {res:AV} (hA:ACalls P G f pre res) (hn:noRef res=true) (h12:b1r N st1 st2) (h:K (b0g st1 N d res)):cal P G N d f pre st1 st2 K:=c4m hA hn h (by rw [b8h h12]; exact h)
end
namespace Tryd
section
variable {bk:Nat->Nat×Nat} {e:Er} {st:St} {N d t j:Nat} {x:X}
@[go_sem] theorem e5u:nm (a47 bk e)=false:=by cases e<;>rfl
@[go_sem] theorem c9k:a0l (a47 bk e)=none:=by cases e<;>rfl
@[go_sem] theorem c37:a1y (a47 bk e)=none:=by cases e<;>rfl
@[go_sem] theorem d81:frz (a47 bk e)=a47 bk e:=by cases e<;>simp only [a47,frz]
@[go_sem] theorem c8a {kl:Nat->List Nat->Bool}:a0x kl (a47 bk e)=a47 bk e:=by cases e<;>simp only [a47,a0x]
@[go_sem] theorem d9z:mvS st d x (a47 bk e)=some (st.put d (a47 bk e)):=by cases e<;>simp [a47,mvS,a0i]
@[go_sem] theorem d0c:b2x st N d (.t t) (a47 bk e)=some (st.put d (a47 bk e)):=by cases e<;>simp [a47,go_sem]
@[go_sem] theorem d9e {q:List Nat} {o:Nat}:ldK st t q o (some (a47 bk e))=some (a47 bk e):=by cases e<;>simp [a47,ldK,a0i]
@[go_sem] theorem e0q:psS st N (.t t) j (a47 bk e)=some (st.put j (a47 bk e)):=by cases e<;>simp [a47,go_sem]
@[go_sem] theorem d86:gvS st N (.t t) j (a47 bk e)=some (st.put j (a47 bk e)):=by cases e<;>simp [a47,go_sem]
@[go_sem] theorem d18 {i:Nat} {ks:List AV}:c44 st N d (.t t) i ks (some (a47 bk e))=some (st.put d (a47 bk e)):=by cases e<;>simp [a47,go_sem]
@[go_sem] theorem d8k:a2e .eql 2 (a47 bk e) (.lit .nilIface)=some (.lit (.bool e.isNil)):=by cases e<;>rfl
@[go_sem] theorem d92:a2e .neq 2 (a47 bk e) (.lit .nilIface)=some (.lit (.bool !e.isNil)):=by cases e<;>rfl
def kE (st:St) (t:Nat):Er->St
 | .at _ _=>st.put t .dead
 | _=>st
@[go_sem] theorem d85:giv st N (.t t) (a47 bk e)=some (kE st t e,[a47 bk e]):=by cases e<;>simp [a47,go_sem,kE,c1g]
@[go_sem] theorem f4a {u:Nat} (h:u≠t):(kE st t e).s u=st.s u:=by cases e<;>simp [kE,h]
@[go_sem] theorem f2n {u:Nat}:(kE st t e).ep u=st.ep u:=by cases e<;>simp [kE,St.put_ep,a0l]
end
end Tryd
end Go.Ideal
end
section
namespace Go.Ideal.Tryd
attribute [local go_sem] eD eI
def p0:Pl:=⟨0,[],[],[],[],0,0⟩
def p0V:AV:= .var [li 0,.sl 0 [],.sl 0 [],.sl 0 [],.sl 0 [],li 0,li 0]
section
variable {G:GG} {bk:Nat->Nat×Nat} {Q:Exit->St->Prop} {st:St}
theorem c5h {f:FuncId}:ACallsX pg G a5o [.sl 0 [],.fn f [] []] (li (-1)) []:=by
 refine a4l (pins:=[]) (by kernel_rfl) rfl rfl rfl rfl ?_
 simp (disch:=omega) [go_sem,a3a]
 refine a03 Unit (fun _ st=>st.s 7=li 0/\st.s 8=li 0) (fun _=>0) () (by simp (disch:=omega) [go_sem]) ?_
 rintro _ st K h hK
 simp (disch:=omega) [go_sem,a2x,h]
theorem c3k {f:FuncId}:ACallsX pg G a4r [.sl 0 [],.fn f [] []] (lb false) []:=by
 refine a3u (pins:=[]) (by kernel_rfl) rfl rfl rfl rfl ?_
 simp (disch:=omega) [go_sem,a2j]
 refine a04 c5h rfl rfl rfl rfl ?_
 simp (disch:=omega) [go_sem]
theorem c5g {f:FuncId}:ACallsX pg G a53 [.sl 0 [],.fn f [] []] (li (-1)) []:=by
 refine a45 (pins:=[]) (by kernel_rfl) rfl rfl rfl rfl ?_
 simp (disch:=omega) [go_sem,a3i]
 refine a03 Unit (fun _ st=>st.s 7=li 0/\st.s 8=li 0) (fun _=>0) () (by simp (disch:=omega) [go_sem]) ?_
 rintro _ st K h hK
 simp (disch:=omega) [go_sem,a29,h]
theorem d1a {f:FuncId}:ACallsX pg G a48 [.sl 0 [],.fn f [] []] (lb false) []:=by
 refine a36 (pins:=[]) (by kernel_rfl) rfl rfl rfl rfl ?_
 simp (disch:=omega) [go_sem,a2n]
 refine a04 c5g rfl rfl rfl rfl ?_
 simp (disch:=omega) [go_sem]
theorem d1m:ACalls pg G b36 [.agg (eP p0)] (.own 2 0 []):=by
 refine b00 rfl ?_
 simp (disch:=omega) [go_sem,a9t,eP,p0]
 refine a03 Unit (fun _ st=>st.s 1=p0V/\st.s 3= .own 2 0 []/\st.s 8=li 0/\st.s 9=li 0) (fun _=>0) () (by simp (disch:=omega) [go_sem,p0V,b0i]) ?_
 rintro _ st K h hK
 simp (disch:=omega) [go_sem,a8u,h,p0V]
theorem f2v (k:Int):ACalls pg G a8g [li k] (lb (e0h k)):=by
 refine a94 rfl ?_
 simp (disch:=omega) [go_sem,a8v]
 refine a0p (c45 k) rfl rfl ?_
 simp (disch:=omega) [go_sem,e0h]
theorem e3t {b c:AV} (h:st.s 1=p0V/\st.s 3=b/\st.s 4=c/\st.s 54=li 0/\st.s 55=li 0) (hex:∀ s,s.s 1=p0V/\s.s 3=b/\s.s 4=c->Q (.exit 0) s):AW pg G 97 (.loop a69) Q st:=by
 refine a03 Unit (fun _ st=>st.s 1=p0V/\st.s 3=b/\st.s 4=c/\st.s 54=li 0/\st.s 55=li 0) (fun _=>0) () h ?_
 clear h
 rintro _ st K h hK
 simp (disch:=omega) [go_sem,a69,h]
 exact hex _ (by simp (disch:=omega) [go_sem,h])
theorem e3u {c:AV} (h:st.s 1=p0V/\st.s 4=c/\st.s 66=li 0/\st.s 67=li 0) (hex:∀ s,s.s 1=p0V/\s.s 4=c->Q (.exit 2) s):AW pg G 97 (.loop a7a) Q st:=by
 refine a03 Unit (fun _ st=>st.s 1=p0V/\st.s 4=c/\st.s 66=li 0/\st.s 67=li 0) (fun _=>0) () h ?_
 clear h
 rintro _ st K h hK
 simp (disch:=omega) [go_sem,a7a,h]
 exact hex _ (by simp (disch:=omega) [go_sem,h])
theorem e3v (h:st.s 86=li 0/\st.s 87=li 0) (hex:∀ s,Q (.exit 4) s):AW pg G 97 (.loop a7b) Q st:=by
 refine a03 Unit (fun _ st=>st.s 86=li 0/\st.s 87=li 0) (fun _=>0) () h ?_
 clear h
 rintro _ st K h hK
 simp (disch:=omega) [go_sem,a7b,h]
 exact hex _
theorem e3x:ACalls pg G b5u [.agg (eP p0)] (.lit .nilIface):=by
 refine b1w rfl ?_
 have c4:=b57 (G:=G) (f:=a8g) b01 (p:=e0h) [0,0,0] (fun x _=>(f2v x).toX (by simp [noRef])) (by simp)
 have e:[(0:Int),0,0].any e0h=false:=by decide
 rw [e] at c4
 have d0:=d1m (G:=G)
 simp only [eP,p0] at d0
 simp (disch:=omega) [go_sem,b02,eP,p0]
 refine a04 c3k rfl rfl rfl rfl ?_
 simp (disch:=omega) [go_sem]
 refine a0p d0 rfl rfl ?_
 simp (disch:=omega) [go_sem]
 refine a04 d1a rfl rfl rfl rfl ?_
 simp (disch:=omega) [go_sem]
 refine e3t (b:= .own 2 0 []) (c:=owI [0,0,0]) (by simp (disch:=omega) [go_sem,p0V,b0i]) (fun s h=> ?_)
 simp (disch:=omega) [go_sem,h]
 refine e3u (c:=owI [0,0,0]) (by simp (disch:=omega) [go_sem,h]) (fun s h=> ?_)
 simp (disch:=omega) [go_sem,h]
 refine a04 c4 rfl rfl rfl rfl ?_
 simp (disch:=omega) [go_sem,h,p0V]
 refine a04 c3k rfl rfl rfl rfl ?_
 simp (disch:=omega) [go_sem,h,p0V]
 refine e3v (by simp (disch:=omega) [go_sem,h,p0V]) (fun s=> ?_)
 simp (disch:=omega) [go_sem]
theorem e18 {b:List Int} (h:st.s 1=p0V/\st.s 5= .var [owU b]/\st.s 34=li 0/\st.s 35=li 0) (hex:∀ s,s.s 1=p0V/\s.s 5= .var [owU b]->Q (.exit 0) s):AW pg G 115 (.loop a6c) Q st:=by
 refine a03 Unit (fun _ st=>st.s 1=p0V/\st.s 5= .var [owU b]/\st.s 34=li 0/\st.s 35=li 0) (fun _=>0) () h ?_
 clear h
 rintro _ st K h hK
 simp (disch:=omega) [go_sem,a6c,h]
 exact hex _ (by simp (disch:=omega) [go_sem,h])
theorem e19 {b:List Int} (h:st.s 1=p0V/\st.s 5= .var [owU b]/\st.s 55=li 0/\st.s 56=li 0) (hex:∀ s,s.s 1=p0V/\s.s 5= .var [owU b]->Q (.exit 2) s):AW pg G 115 (.loop a6d) Q st:=by
 refine a03 Unit (fun _ st=>st.s 1=p0V/\st.s 5= .var [owU b]/\st.s 55=li 0/\st.s 56=li 0) (fun _=>0) () h ?_
 clear h
 rintro _ st K h hK
 simp (disch:=omega) [go_sem,a6d,h]
 exact hex _ (by simp (disch:=omega) [go_sem,h])
theorem e2a {b:List Int} (h:st.s 1=p0V/\st.s 5= .var [owU b]/\st.s 78=li 0/\st.s 79=li 0) (hex:∀ s,s.s 1=p0V/\s.s 5= .var [owU b]->Q (.exit 4) s):AW pg G 115 (.loop a6e) Q st:=by
 refine a03 Unit (fun _ st=>st.s 1=p0V/\st.s 5= .var [owU b]/\st.s 78=li 0/\st.s 79=li 0) (fun _=>0) () h ?_
 clear h
 rintro _ st K h hK
 simp (disch:=omega) [go_sem,a6e,h]
 exact hex _ (by simp (disch:=omega) [go_sem,h])
theorem e2b {b:List Int} (h:st.s 1=p0V/\st.s 5= .var [owU b]/\st.s 94=li 0/\st.s 95=li 0) (hex:∀ s,s.s 1=p0V/\s.s 5= .var [owU b]->Q (.exit 6) s):AW pg G 115 (.loop a6f) Q st:=by
 refine a03 Unit (fun _ st=>st.s 1=p0V/\st.s 5= .var [owU b]/\st.s 94=li 0/\st.s 95=li 0) (fun _=>0) () h ?_
 clear h
 rintro _ st K h hK
 simp (disch:=omega) [go_sem,a6f,h]
 exact hex _ (by simp (disch:=omega) [go_sem,h])
def b0:List Int:=[76,80]++b5p true 0++le2 0++le2 0++le2 0++le2 0++b5p true 0++b5p true 0
theorem d0y:ACalls pg G b35 [.agg (eP p0)] (.tup [slU b0,.lit .nilIface]):=by
 refine b0x rfl ?_
 have hf:=e3x (G:=G)
 simp only [eP,p0] at hf
 have hle:∀ k:Int,(le2 k).length=2:=fun k=>rfl
 have z:(b5p true 0).length=4:=rfl
 simp (disch:=omega) [go_sem,a9s,eP,p0]
 refine a0p hf rfl rfl ?_
 simp (disch:=omega) [go_sem]
 refine a04 (b3k [76,80] 0 (by simp)) rfl rfl rfl (c5p _) ?_
 simp (disch:=omega) [go_sem]
 refine a04 (b24 ([76,80]++b5p true 0) 0 (by simp [z])) rfl rfl rfl (c5p _) ?_
 simp (disch:=omega) [go_sem]
 refine e18 (b:=[76,80]++b5p true 0++le2 0) (by simp (disch:=omega) [go_sem,p0V,le2,b0i]) (fun s h=> ?_)
 simp (disch:=omega) [go_sem,h,p0V]
 refine a04 (b24 _ 0 (by simp [z,hle])) rfl rfl rfl (c5p _) ?_
 simp (disch:=omega) [go_sem,h,p0V]
 refine e19 (b:=[76,80]++b5p true 0++le2 0++le2 0) (by simp (disch:=omega) [go_sem,h,p0V,le2]) (fun s h=> ?_)
 simp (disch:=omega) [go_sem,h,p0V]
 refine a04 (b24 _ 0 (by simp [z,hle])) rfl rfl rfl (c5p _) ?_
 simp (disch:=omega) [go_sem,h,p0V]
 refine e2a (b:=[76,80]++b5p true 0++le2 0++le2 0++le2 0) (by simp (disch:=omega) [go_sem,h,p0V,le2]) (fun s h=> ?_)
 simp (disch:=omega) [go_sem,h,p0V]
 refine a04 (b24 _ 0 (by simp [z,hle])) rfl rfl rfl (c5p _) ?_
 simp (disch:=omega) [go_sem,h,p0V]
 refine e2b (b:=[76,80]++b5p true 0++le2 0++le2 0++le2 0++le2 0) (by simp (disch:=omega) [go_sem,h,p0V,le2]) (fun s h=> ?_)
 simp (disch:=omega) [go_sem,h,p0V]
 refine a04 (b3k _ 0 (by simp [z,hle])) rfl rfl rfl (c5p _) ?_
 simp (disch:=omega) [go_sem,h,p0V]
 have cl:=b3k (G:=G) ([76,80]++b5p true 0++le2 0++le2 0++le2 0++le2 0++b5p true 0) 0 (by simp [z,hle])
 rw [show [76,80]++b5p true 0++le2 0++le2 0++le2 0++le2 0++b5p true 0++b5p true 0=b0 from rfl] at cl
 refine a04 cl rfl rfl rfl (c5p _) ?_
 simp (disch:=omega) [go_sem,h,p0V]
theorem d2g:ACalls pg G a8f [] (lb true):=by
 refine a64 rfl ?_
 have hb:=d0y (G:=G)
 have hl:b0.length=22:=by rfl
 simp only [eP,p0] at hb
 generalize b0=b at *
 simp (disch:=omega) [go_sem,a5c]
 refine c1s hb rfl (by simp (disch:=omega) [go_sem]) ?_
 simp (disch:=omega) [go_sem,hl]
end
end Go.Ideal.Tryd
end
