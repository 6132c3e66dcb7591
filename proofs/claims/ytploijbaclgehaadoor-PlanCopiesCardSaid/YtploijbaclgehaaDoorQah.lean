/- Part Qah of the proof: walks on a machine that is proved sound. -/
import Derived.Test.YtploijbaclgehaaDoorQag
set_option linter.unusedVariables false
set_option linter.unusedSimpArgs false
set_option maxRecDepth 10000
section
namespace Go.Ideal
theorem ACalls.frz {P:Program} {G:GG} {f:FuncId} {pre:List AV} {res:AV} (h:ACalls P G f pre res):ACalls P G f pre (Ideal.frz res):=by
 intro w args A ow h1 h2 h3 h4 h5
 refine (h w args A ow h1 h2 h3 h4 h5).mono ?_
 rintro e w' ⟨v,rfl,hr⟩
 refine ⟨v,rfl,hr.le,hr.os,hr.tape,hr.output,hr.frame,noB,fun _ h=>h.elim,?_⟩
 obtain ⟨F,hF,hR⟩:=hr.own
 exact b6u (fun b hb=>⟨hb.1,fun h=>h,hb.2.2⟩) res (fun b hb=>⟨(hF b hb).2,fun h=>h,(hF b hb).1.elim (fun h=> .inr (.inl h)) fun h=> .inr (.inr h)⟩) hR
theorem ACalls.shown {P:Program} {G:GG} {f:FuncId} {pre:List AV} {res res':AV} (h:ACalls P G f pre res) (he:Ideal.frz res=res'):ACalls P G f pre res':=he ▸ h.frz
end Go.Ideal
end
section
namespace Go.Ideal.Tryd
def a6k:IC:=(.seq (.reg [oo 36 (.bin .lss 3 0 (.t 35) (.t 34) 3)]) (.seq (.cond (.t 36) .skip (.exit 0)) (.seq (.block 1 (.seq (.reg [oo 37 (.iaddr 22 3 (.t 33) (.t 35)),
 oo 38 (.load 41 (some 3) (.t 37)),
 oo 7 (.alloc 41 [.lit (.int .i64 0),.own 1 0 [],.lit (.bool false)]),
 ov (.store 41 3 (.t 7) (.t 38))]) (.seq (.reg [om 39 5,
 oo 40 (.faddr 41 0 (.t 7) 0),
 oo 41 (.load 3 none (.t 40)),
 ⟨(some 42),.callx (.f 52) [(false,(.t 41))] [.x (.t 39),.p 0] [115,3],none⟩]) (.reg [om 43 5,
 oo 44 (.faddr 41 1 (.t 7) 1),
 oo 45 (.load 39 (some 2) (.t 44)),
 ⟨(some 46),.callx (.f 54) [(false,(.t 45))] [.x (.t 43),.p 0] [115,39],none⟩])))) (.reg [oo 47 (.bin .add 3 0 (.t 35) (.n 1) 3),
 om 35 47]))))
def a6l:IC:=(.seq (.reg [oo 57 (.bin .lss 3 0 (.t 56) (.t 55) 3)]) (.seq (.cond (.t 57) .skip (.exit 2)) (.seq (.block 3 (.seq (.reg [oo 58 (.iaddr 23 3 (.t 54) (.t 56)),
 oo 59 (.load 44 (some 3) (.t 58)),
 oo 9 (.alloc 44 [.own 1 0 [],.lit (.bool false),.own 1 0 []]),
 ov (.store 44 3 (.t 9) (.t 59))]) (.draw [om 60 5,
 om 61 5,
 oo 62 (.nilck (.t 61)),
 oo 63 (.faddr 117 0 (.t 62) 0),
 oo 64 (.load 69 none (.t 63)),
 oo 65 (.load 44 (some 3) (.t 9)),
 oc 66 55 [(false,(.t 65))] [44],
 oo 67 (.app 69 5 1 1 (.t 64) (.t 66)),
 oo 68 (.nilck (.t 60)),
 oo 69 (.faddr 117 0 (.t 68) 0),
 ov (.store 69 1 (.t 69) (.t 67))] [[],[],[1],[2],[3],[],[5],[4,6,6],[0,0,1,2,3,4,5,6,7],[8,0,1,2,3,4,5,6,7],[9,7,7,0,1,2,3,4,5,6,7]]))) (.reg [oo 70 (.bin .add 3 0 (.t 56) (.n 1) 3),
 om 56 70]))))
def a6m:IC:=(.seq (.reg [oo 80 (.bin .lss 3 0 (.t 79) (.t 78) 3)]) (.seq (.cond (.t 80) .skip (.exit 4)) (.seq (.block 5 (.seq (.reg [oo 81 (.iaddr 24 2 (.t 77) (.t 79)),
 oo 82 (.load 39 (some 2) (.t 81)),
 oo 11 (.alloc 39 [.own 1 0 [],.lit (.bool false)]),
 ov (.store 39 2 (.t 11) (.t 82))]) (.reg [om 83 5,
 oo 84 (.load 39 (some 2) (.t 11)),
 ⟨(some 85),.callx (.f 54) [(false,(.t 84))] [.x (.t 83),.p 0] [115,39],none⟩]))) (.reg [oo 86 (.bin .add 3 0 (.t 79) (.n 1) 3),
 om 79 86]))))
def a6n:IC:=(.seq (.reg [oo 96 (.bin .lss 3 0 (.t 95) (.t 94) 3)]) (.seq (.cond (.t 96) .skip (.exit 6)) (.seq (.block 7 (.seq (.reg [oo 97 (.iaddr 25 6 (.t 93) (.t 95)),
 oo 98 (.load 36 (some 6) (.t 97)),
 oo 13 (.alloc 36 [.lit (.int .i64 0),.lit (.int .i64 0),.own 1 0 [],.own 1 0 [],.lit (.int .i64 0),.lit (.int .i64 0)]),
 ov (.store 36 6 (.t 13) (.t 98))]) (.reg [om 99 5,
 oo 100 (.load 36 (some 6) (.t 13)),
 ⟨(some 101),.callx (.f 56) [(false,(.t 100))] [.x (.t 99),.p 0] [115,36],none⟩]))) (.reg [oo 102 (.bin .add 3 0 (.t 95) (.n 1) 3),
 om 95 102]))))
def a91:IC:=(.seq (.reg [oo 1 (.box 27 7 (.t 0)),
 oo 2 (.asg (.nl 1)),
 oo 3 (.asg (.c .nilIface))]) (.seq (.seq (.reg [oo 14 (.load 27 (some 7) (.t 1)),
 oc 15 51 [(false,(.t 14))] [27],
 oo 4 (.asg (.t 15))]) (.seq (.reg [om 16 4,
 oo 17 (.bin .neq 53 2 (.t 16) (.c .nilIface) 53)]) (.cond (.t 17) (.seq (.reg [om 18 4,
 oo 2 (.asg (.nl 1)),
 oo 3 (.asg (.t 18))]) .ret) .skip))) (.seq (.reg [oo 19 (.bslice 69 5 1 2 [.lit (.int .u8 0)] [(0,(.c (.int .u8 (76)))),(1,(.c (.int .u8 (80))))]),
 oo 20 (.conv 69 69 .keep (.t 19)),
 oo 21 (.build 117 [.own 1 0 []] [(0,0,1,(.t 20))]),
 oo 22 (.box 117 1 (.t 21)),
 oo 5 (.asg (.t 22))]) (.seq (.reg [om 23 5,
 oo 24 (.faddr 27 0 (.t 1) 0),
 oo 25 (.load 3 none (.t 24)),
 ⟨(some 26),.callx (.f 52) [(false,(.t 25))] [.x (.t 23),.p 0] [115,3],none⟩]) (.seq (.reg [om 27 5,
 oo 28 (.faddr 27 1 (.t 1) 1),
 oo 29 (.load 22 none (.t 28)),
 oo 30 (.len 22 false (.t 29)),
 ⟨(some 31),.callx (.f 53) [(false,(.t 30))] [.x (.t 27),.p 0] [115,3],none⟩]) (.seq (.seq (.reg [oo 32 (.faddr 27 1 (.t 1) 1),
 oo 33 (.load 22 none (.t 32)),
 oo 34 (.len 22 false (.t 33)),
 oo 35 (.mv (.n 0))]) (.block 0 (.loop a6k))) (.seq (.reg [om 48 5,
 oo 49 (.faddr 27 2 (.t 1) 2),
 oo 50 (.load 23 none (.t 49)),
 oo 51 (.len 23 false (.t 50)),
 ⟨(some 52),.callx (.f 53) [(false,(.t 51))] [.x (.t 48),.p 0] [115,3],none⟩]) (.seq (.seq (.reg [oo 53 (.faddr 27 2 (.t 1) 2),
 oo 54 (.load 23 none (.t 53)),
 oo 55 (.len 23 false (.t 54)),
 oo 56 (.mv (.n 0))]) (.block 2 (.loop a6l))) (.seq (.reg [om 71 5,
 oo 72 (.faddr 27 3 (.t 1) 3),
 oo 73 (.load 24 none (.t 72)),
 oo 74 (.len 24 false (.t 73)),
 ⟨(some 75),.callx (.f 53) [(false,(.t 74))] [.x (.t 71),.p 0] [115,3],none⟩]) (.seq (.seq (.reg [oo 76 (.faddr 27 3 (.t 1) 3),
 oo 77 (.load 24 none (.t 76)),
 oo 78 (.len 24 false (.t 77)),
 oo 79 (.mv (.n 0))]) (.block 4 (.loop a6m))) (.seq (.reg [om 87 5,
 oo 88 (.faddr 27 4 (.t 1) 4),
 oo 89 (.load 25 none (.t 88)),
 oo 90 (.len 25 false (.t 89)),
 ⟨(some 91),.callx (.f 53) [(false,(.t 90))] [.x (.t 87),.p 0] [115,3],none⟩]) (.seq (.seq (.reg [oo 92 (.faddr 27 4 (.t 1) 4),
 oo 93 (.load 25 none (.t 92)),
 oo 94 (.len 25 false (.t 93)),
 oo 95 (.mv (.n 0))]) (.block 6 (.loop a6n))) (.seq (.reg [om 103 5,
 oo 104 (.faddr 27 5 (.t 1) 5),
 oo 105 (.load 3 none (.t 104)),
 ⟨(some 106),.callx (.f 52) [(false,(.t 105))] [.x (.t 103),.p 0] [115,3],none⟩]) (.seq (.reg [om 107 5,
 oo 108 (.faddr 27 6 (.t 1) 6),
 oo 109 (.load 3 none (.t 108)),
 ⟨(some 110),.callx (.f 52) [(false,(.t 109))] [.x (.t 107),.p 0] [115,3],none⟩]) (.seq (.reg [om 111 5,
 oo 112 (.nilck (.t 111)),
 oo 113 (.faddr 117 0 (.t 112) 0),
 oo 114 (.load 69 none (.t 113)),
 oo 2 (.asg (.t 114)),
 oo 3 (.asg (.c .nilIface))]) .ret)))))))))))))))
abbrev b4f:Nat:=23
theorem b05:fnC pg 23 115 [(.tmp 2),(.tmp 3)] a91:=a1g Go.Proofs.Tryd.f23 [(.tmp 2),(.tmp 3)] (by kernel_rfl)
@[go_sem] theorem c1y:fnB pg 23=true:=by kernel_rfl
def a7g:IC:=(.seq (.reg [oo 56 (.bin .lss 3 0 (.t 55) (.t 54) 3)]) (.seq (.cond (.t 56) .skip (.exit 0)) (.seq (.block 1 (.seq (.reg [oo 57 (.iaddr 22 3 (.t 53) (.t 55)),
 oo 58 (.load 41 (some 3) (.t 57)),
 oo 6 (.alloc 41 [.lit (.int .i64 0),.own 1 0 [],.lit (.bool false)]),
 ov (.store 41 3 (.t 6) (.t 58))]) (.reg [om 59 4,
 oo 60 (.faddr 41 0 (.t 6) 0),
 oo 61 (.load 3 none (.t 60)),
 oo 62 (.bslice 34 3 1 1 [.lit (.int .i64 0)] [(0,(.t 61))]),
 oo 63 (.app 34 3 1 8 (.t 59) (.t 62)),
 oo 4 (.asg (.t 63))]))) (.reg [oo 64 (.bin .add 3 0 (.t 55) (.n 1) 3),
 om 55 64]))))
def a7h:IC:=(.seq (.reg [oo 68 (.bin .lss 3 0 (.t 67) (.t 66) 3)]) (.seq (.cond (.t 68) .skip (.exit 2)) (.seq (.block 3 (.seq (.reg [oo 69 (.iaddr 24 2 (.t 65) (.t 67)),
 oo 70 (.load 39 (some 2) (.t 69)),
 oo 8 (.alloc 39 [.own 1 0 [],.lit (.bool false)]),
 ov (.store 39 2 (.t 8) (.t 70))]) (.seq (.reg [oo 71 (.faddr 39 0 (.t 8) 0),
 oo 72 (.load 34 none (.t 71)),
 ⟨(some 73),.callx (.f 80) [(false,(.t 72))] [.p 0,.x (.f 81)] [34,125],none⟩]) (.cond (.t 73) (.seq (.reg [oo 74 (.load 53 none (.g 7)),
 oo 2 (.asg (.t 74))]) .ret) .skip)))) (.reg [oo 75 (.bin .add 3 0 (.t 67) (.n 1) 3),
 om 67 75]))))
def a7i:IC:=(.seq (.reg [oo 88 (.bin .lss 3 0 (.t 87) (.t 86) 3)]) (.seq (.cond (.t 88) .skip (.exit 4)) (.seq (.block 5 (.seq (.reg [oo 89 (.iaddr 23 3 (.t 85) (.t 87)),
 oo 90 (.load 44 (some 3) (.t 89)),
 oo 10 (.alloc 44 [.own 1 0 [],.lit (.bool false),.own 1 0 []]),
 ov (.store 44 3 (.t 10) (.t 90))]) (.seq (.reg [oo 91 (.load 44 (some 3) (.t 10)),
 oc 92 67 [(false,(.t 91))] [44],
 oo 11 (.asg (.t 92))]) (.seq (.reg [om 93 11,
 oo 94 (.bin .neq 53 2 (.t 93) (.c .nilIface) 53)]) (.cond (.t 94) (.seq (.reg [om 95 11,
 oo 2 (.asg (.t 95))]) .ret) .skip))))) (.reg [oo 96 (.bin .add 3 0 (.t 87) (.n 1) 3),
 om 87 96]))))
def b1b:IC:=(.seq (.reg [oo 1 (.box 27 7 (.t 0)),
 oo 2 (.asg (.c .nilIface))]) (.seq (.seq (.reg [oo 12 (.faddr 27 1 (.t 1) 1),
 oo 13 (.load 22 none (.t 12)),
 oo 14 (.len 22 false (.t 13)),
 oo 15 (.bin .gtr 3 0 (.t 14) (.n 128) 3),
 om 16 15,
 og 17 (.faddr 27 2 (.t 1) 2) 4 16 false,
 og 18 (.load 23 none (.t 17)) 4 16 false,
 og 19 (.len 23 false (.t 18)) 4 16 false,
 og 20 (.bin .gtr 3 0 (.t 19) (.n 64) 3) 4 16 false,
 oo 21 (.pick (.t 16) (.c (.bool true)) (.t 20)),
 om 22 21,
 og 23 (.faddr 27 3 (.t 1) 3) 10 22 false,
 og 24 (.load 24 none (.t 23)) 10 22 false,
 og 25 (.len 24 false (.t 24)) 10 22 false,
 og 26 (.bin .gtr 3 0 (.t 25) (.n 8) 3) 10 22 false,
 oo 27 (.pick (.t 22) (.c (.bool true)) (.t 26)),
 om 28 27,
 og 29 (.faddr 27 4 (.t 1) 4) 16 28 false,
 og 30 (.load 25 none (.t 29)) 16 28 false,
 og 31 (.len 25 false (.t 30)) 16 28 false,
 og 32 (.bin .gtr 3 0 (.t 31) (.n 2048) 3) 16 28 false,
 oo 33 (.pick (.t 28) (.c (.bool true)) (.t 32)),
 om 34 33,
 og 35 (.faddr 27 4 (.t 1) 4) 22 34 false,
 og 36 (.load 25 none (.t 35)) 22 34 false,
 ⟨(some 37),.callx (.f 75) [(false,(.t 36))] [.p 0,.x (.f 76)] [25,139],(some (22,34,false))⟩,
 oo 38 (.pick (.t 34) (.c (.bool true)) (.t 37))]) (.cond (.t 38) (.seq (.reg [oo 39 (.load 53 none (.g 0)),
 oo 2 (.asg (.t 39))]) .ret) .skip)) (.seq (.reg [oo 40 (.load 27 (some 7) (.t 1)),
 oc 41 77 [(false,(.t 40))] [27],
 oo 3 (.asg (.t 41))]) (.seq (.seq (.reg [om 42 3,
 ⟨(some 43),.callx (.f 78) [(false,(.t 42))] [.p 0,.x (.f 79)] [24,73],none⟩]) (.cond (.t 43) (.seq (.reg [oo 44 (.load 53 none (.g 0)),
 oo 2 (.asg (.t 44))]) .ret) .skip)) (.seq (.reg [oo 45 (.faddr 27 0 (.t 1) 0),
 oo 46 (.load 3 none (.t 45)),
 oo 47 (.faddr 27 5 (.t 1) 5),
 oo 48 (.load 3 none (.t 47)),
 oo 49 (.faddr 27 6 (.t 1) 6),
 oo 50 (.load 3 none (.t 49)),
 oo 51 (.bslice 34 3 1 3 [.lit (.int .i64 0)] [(0,(.t 46)),(1,(.t 48)),(2,(.t 50))]),
 oo 4 (.asg (.t 51))]) (.seq (.seq (.reg [oo 52 (.faddr 27 1 (.t 1) 1),
 oo 53 (.load 22 none (.t 52)),
 oo 54 (.len 22 false (.t 53)),
 oo 55 (.mv (.n 0))]) (.block 0 (.loop a7g))) (.seq (.seq (.reg [om 65 3,
 oo 66 (.len 24 false (.t 65)),
 oo 67 (.mv (.n 0))]) (.block 2 (.loop a7h))) (.seq (.seq (.reg [om 76 4,
 ⟨(some 77),.callx (.f 80) [(false,(.t 76))] [.p 0,.x (.f 82)] [34,125],none⟩,
 om 78 77,
 og 79 (.faddr 27 4 (.t 1) 4) 2 78 false,
 og 80 (.load 25 none (.t 79)) 2 78 false,
 ⟨(some 81),.callx (.f 75) [(false,(.t 80))] [.p 0,.x (.f 84)] [25,139],(some (2,78,false))⟩,
 oo 82 (.pick (.t 78) (.c (.bool true)) (.t 81))]) (.cond (.t 82) (.seq (.reg [oo 83 (.load 53 none (.g 7)),
 oo 2 (.asg (.t 83))]) .ret) .skip)) (.seq (.seq (.reg [oo 84 (.faddr 27 2 (.t 1) 2),
 oo 85 (.load 23 none (.t 84)),
 oo 86 (.len 23 false (.t 85)),
 oo 87 (.mv (.n 0))]) (.block 4 (.loop a7i))) (.seq (.reg [oo 2 (.asg (.c .nilIface))]) .ret))))))))))
abbrev b58:Nat:=51
theorem b16:fnC pg 51 97 [(.tmp 2)] b1b:=a1g Go.Proofs.Tryd.f51 [(.tmp 2)] (by kernel_rfl)
@[go_sem] theorem c3c:fnB pg 51=true:=by kernel_rfl
def a2j:IC:=(.seq (.reg [oo 4 (.asg (.c (.bool false)))]) (.seq (.reg [om 5 0,
 om 6 1,
 ⟨(some 7),.callx (.f 108) [(false,(.t 5))] [.p 0,.x (.t 6)] [25,139],none⟩,
 oo 8 (.bin .geq 3 0 (.t 7) (.n 0) 3),
 oo 4 (.asg (.t 8))]) .ret))
abbrev a4w:Nat:=75
@[go_sem] theorem b0g:fnB pg 75=true:=by kernel_rfl
theorem a3x:fnX pg 75 9 [(.tmp 4)] [(.tmp 4)] a2j:=a6v Go.Proofs.Tryd.f75 (by kernel_rfl)
def a81:IC:=(.seq (.reg [oo 10 (.bin .lss 3 0 (.t 9) (.t 8) 3)]) (.seq (.cond (.t 10) .skip (.exit 0)) (.seq (.block 1 (.seq (.reg [oo 11 (.iaddr 22 3 (.t 7) (.t 9)),
 oo 12 (.load 41 (some 3) (.t 11)),
 oo 5 (.alloc 41 [.lit (.int .i64 0),.own 1 0 [],.lit (.bool false)]),
 ov (.store 41 3 (.t 5) (.t 12))]) (.reg [om 13 3,
 oo 14 (.faddr 41 1 (.t 5) 1),
 oo 15 (.load 39 (some 2) (.t 14)),
 oo 16 (.bslice 24 39 2 1 [.own 1 0 [],.lit (.bool false)] [(0,(.t 15))]),
 oo 17 (.app 24 39 2 32 (.t 13) (.t 16)),
 oo 3 (.asg (.t 17))]))) (.reg [oo 18 (.bin .add 3 0 (.t 9) (.n 1) 3),
 om 9 18]))))
def a93:IC:=(.seq (.reg [oo 1 (.box 27 7 (.t 0)),
 oo 2 (.asg (.nl 2))]) (.seq (.reg [oo 3 (.asg (.nl 2))]) (.seq (.seq (.reg [oo 6 (.faddr 27 1 (.t 1) 1),
 oo 7 (.load 22 none (.t 6)),
 oo 8 (.len 22 false (.t 7)),
 oo 9 (.mv (.n 0))]) (.block 0 (.loop a81))) (.seq (.reg [om 19 3,
 oo 20 (.faddr 27 3 (.t 1) 3),
 oo 21 (.load 24 none (.t 20)),
 oo 22 (.app 24 39 2 32 (.t 19) (.t 21)),
 oo 2 (.asg (.t 22))]) .ret))))
abbrev b4h:Nat:=77
theorem b09:fnC pg 77 23 [(.tmp 2)] a93:=a1g Go.Proofs.Tryd.f77 [(.tmp 2)] (by kernel_rfl)
@[go_sem] theorem c10:fnB pg 77=true:=by kernel_rfl
def a2n:IC:=(.seq (.reg [oo 4 (.asg (.c (.bool false)))]) (.seq (.reg [om 5 0,
 om 6 1,
 ⟨(some 7),.callx (.f 109) [(false,(.t 5))] [.p 0,.x (.t 6)] [24,73],none⟩,
 oo 8 (.bin .geq 3 0 (.t 7) (.n 0) 3),
 oo 4 (.asg (.t 8))]) .ret))
abbrev a5d:Nat:=78
@[go_sem] theorem b0l:fnB pg 78=true:=by kernel_rfl
theorem a39:fnX pg 78 9 [(.tmp 4)] [(.tmp 4)] a2n:=a6v Go.Proofs.Tryd.f78 (by kernel_rfl)
def a82:IC:=(.seq (.reg [oo 2 (.asg (.c (.bool false)))]) (.seq (.reg [om 3 0,
 oc 4 83 [(false,(.t 3))] [3],
 oo 5 (.un .not 4 (.t 4)),
 oo 2 (.asg (.t 5))]) .ret))
abbrev a8n:Nat:=82
theorem b0e:fnC pg 82 6 [(.tmp 2)] a82:=a1g Go.Proofs.Tryd.f82 [(.tmp 2)] (by kernel_rfl)
@[go_sem] theorem b1a:fnB pg 82=true:=by kernel_rfl
def a2x:IC:=(.seq (.reg [oo 9 (.bin .lss 3 0 (.t 8) (.t 7) 3)]) (.seq (.cond (.t 9) .skip (.exit 0)) (.seq (.block 1 (.seq (.reg [om 10 8,
 oo 5 (.asg (.t 10))]) (.seq (.reg [om 11 1,
 om 12 0,
 om 13 5,
 oo 14 (.iaddr 25 6 (.t 12) (.t 13)),
 oo 15 (.load 36 (some 6) (.t 14)),
 ⟨(some 16),.callx (.t 11) [(false,(.t 15))] [.p 0] [36],none⟩]) (.cond (.t 16) (.seq (.reg [om 17 5,
 oo 4 (.asg (.t 17))]) .ret) .skip)))) (.reg [oo 18 (.bin .add 3 0 (.t 8) (.n 1) 3),
 om 8 18]))))
def a3a:IC:=(.seq (.reg [oo 4 (.asg (.n 0))]) (.seq (.seq (.reg [om 6 0,
 oo 7 (.len 25 false (.t 6)),
 oo 8 (.mv (.n 0))]) (.block 0 (.loop a2x))) (.seq (.reg [oo 4 (.asg (.n (-1)))]) .ret)))
abbrev a5v:Nat:=108
@[go_sem] theorem b1w:fnB pg 108=true:=by kernel_rfl
theorem a4s:fnX pg 108 19 [(.tmp 4)] [(.tmp 4)] a3a:=a6v Go.Proofs.Tryd.f108 (by kernel_rfl)
def a29:IC:=(.seq (.reg [oo 9 (.bin .lss 3 0 (.t 8) (.t 7) 3)]) (.seq (.cond (.t 9) .skip (.exit 0)) (.seq (.block 1 (.seq (.reg [om 10 8,
 oo 5 (.asg (.t 10))]) (.seq (.reg [om 11 1,
 om 12 0,
 om 13 5,
 oo 14 (.iaddr 24 2 (.t 12) (.t 13)),
 oo 15 (.load 39 (some 2) (.t 14)),
 ⟨(some 16),.callx (.t 11) [(false,(.t 15))] [.p 0] [39],none⟩]) (.cond (.t 16) (.seq (.reg [om 17 5,
 oo 4 (.asg (.t 17))]) .ret) .skip)))) (.reg [oo 18 (.bin .add 3 0 (.t 8) (.n 1) 3),
 om 8 18]))))
def a3j:IC:=(.seq (.reg [oo 4 (.asg (.n 0))]) (.seq (.seq (.reg [om 6 0,
 oo 7 (.len 24 false (.t 6)),
 oo 8 (.mv (.n 0))]) (.block 0 (.loop a29))) (.seq (.reg [oo 4 (.asg (.n (-1)))]) .ret)))
abbrev a6b:Nat:=109
@[go_sem] theorem b2b:fnB pg 109=true:=by kernel_rfl
theorem a5a:fnX pg 109 19 [(.tmp 4)] [(.tmp 4)] a3j:=a6v Go.Proofs.Tryd.f109 (by kernel_rfl)
end Go.Ideal.Tryd
end
section
namespace Go.Ideal
section
variable {N:Nat} {st st1 st2:St} {P:Program} {G:GG} {K:St->Prop}
def b10 (N:Nat) (a b:St):Prop:=(∀ u,u < N->b.s u=a.s u)/\∀ u,b.ep u=a.ep u
@[congr] theorem c5g {a b b':St} (h:b=b'):b10 N a b=b10 N a b':=by rw [h]
@[go_sem] theorem c77:b10 N st st=True:=by simp [b10]
def c31 (N:Nat) (a b:St):Prop:=b10 N a b
@[go_sem] theorem d2a {t:Nat} {v:AV}:b10 N st1 (st2.put t v)=frI (decide (N<=t)&& !nm v) (b10 N st1 st2) (c31 N st1 (st2.put t v)):=by
 simp only [frI,c31]
 split
 ·rename_i h
  simp only [Bool.and_eq_true,decide_eq_true_eq,Bool.not_eq_true'] at h
  apply propext
  simp only [b10,St.put_s,St.put_ep,h.2,Bool.false_eq_true,and_false,if_false]
  constructor
  ·rintro ⟨h1,h2⟩
   exact ⟨fun u hu=>by have:=h1 u hu; rwa [if_neg (by omega)] at this,h2⟩
  ·rintro ⟨h1,h2⟩
   exact ⟨fun u hu=>by rw [if_neg (by omega)]; exact h1 u hu,h2⟩
 ·rfl
theorem b8v {d:Option Nat} {res:AV} (h:b10 N st1 st2):b0p st2 N d res=b0p st1 N d res:=by
 have e:st2.clear N=st1.clear N:=by
  refine St.ext' (fun u=> ?_) (fun u=>h.2 u)
  simp only [St.clear]
  by_cases hu:u < N
  ·simp [hu,h.1 u hu]
  ·simp [hu]
 cases d<;>simp only [b0p,e]
theorem c17 {d:Option Nat} {f:FuncId} {pre:List AV} {res:AV} (hA:ACalls P G f pre res) (hn:noRef res=true) (h12:b10 N st1 st2) (h:K (b0p st1 N d res)):cal P G N d f pre st1 st2 K:=c40 hA hn h (by rw [b8v h12]; exact h)
end
namespace Tryd
section
variable {bk:Nat->Nat×Nat} {e:Er} {st:St} {N d t j:Nat} {x:X}
@[go_sem] theorem e6d:nm (a5c bk e)=false:=by cases e<;>rfl
@[go_sem] theorem c91:a0l (a5c bk e)=none:=by cases e<;>rfl
@[go_sem] theorem c4l:a1z (a5c bk e)=none:=by cases e<;>rfl
@[go_sem] theorem d9k:frz (a5c bk e)=a5c bk e:=by cases e<;>simp only [a5c,frz]
@[go_sem] theorem c8r {kl:Nat->List Nat->Bool}:a0x kl (a5c bk e)=a5c bk e:=by cases e<;>simp only [a5c,a0x]
@[go_sem] theorem e0i:mvS st d x (a5c bk e)=some (st.put d (a5c bk e)):=by cases e<;>simp [a5c,mvS,a0j]
@[go_sem] theorem d0t:b27 st N d (.t t) (a5c bk e)=some (st.put d (a5c bk e)):=by cases e<;>simp [a5c,go_sem]
@[go_sem] theorem d9x {q:List Nat} {o:Nat}:ldK st t q o (some (a5c bk e))=some (a5c bk e):=by cases e<;>simp [a5c,ldK,a0j]
@[go_sem] theorem e09:psS st N (.t t) j (a5c bk e)=some (st.put j (a5c bk e)):=by cases e<;>simp [a5c,go_sem]
@[go_sem] theorem d9p:gvS st N (.t t) j (a5c bk e)=some (st.put j (a5c bk e)):=by cases e<;>simp [a5c,go_sem]
@[go_sem] theorem d2p {i:Nat} {ks:List AV}:c5i st N d (.t t) i ks (some (a5c bk e))=some (st.put d (a5c bk e)):=by cases e<;>simp [a5c,go_sem]
@[go_sem] theorem d83:a2e .eql 2 (a5c bk e) (.lit .nilIface)=some (.lit (.bool e.isNil)):=by cases e<;>rfl
@[go_sem] theorem e0l:a2e .neq 2 (a5c bk e) (.lit .nilIface)=some (.lit (.bool !e.isNil)):=by cases e<;>rfl
def kE (st:St) (t:Nat):Er->St
 | .at _ _=>st.put t .dead
 | _=>st
@[go_sem] theorem d9o:giv st N (.t t) (a5c bk e)=some (kE st t e,[a5c bk e]):=by cases e<;>simp [a5c,go_sem,kE,c1v]
@[go_sem] theorem f4u {u:Nat} (h:u≠t):(kE st t e).s u=st.s u:=by cases e<;>simp [kE,h]
@[go_sem] theorem f3e {u:Nat}:(kE st t e).ep u=st.ep u:=by cases e<;>simp [kE,St.put_ep,a0l]
end
end Tryd
end Go.Ideal
end
section
namespace Go.Ideal.Tryd
attribute [local go_sem] eD eI
def p0:Pl:=⟨0,[],[],[],[],0,0⟩
def p0V:AV:= .var [li 0,.sl 0 [],.sl 0 [],.sl 0 [],.sl 0 [],li 0,li 0]
section
variable {G:GG} {bk:Nat->Nat×Nat} {Q:Exit->St->Prop} {st:St}
theorem c5v {f:FuncId}:ACallsX pg G a5v [.sl 0 [],.fn f [] []] (li (-1)) []:=by
 refine a4s (pins:=[]) (by kernel_rfl) rfl rfl rfl rfl ?_
 simp (disch:=omega) [go_sem,a3a]
 refine a03 Unit (fun _ st=>st.s 7=li 0/\st.s 8=li 0) (fun _=>0) () (by simp (disch:=omega) [go_sem]) ?_
 rintro _ st K h hK
 simp (disch:=omega) [go_sem,a2x,h]
theorem c3y {f:FuncId}:ACallsX pg G a4w [.sl 0 [],.fn f [] []] (lb false) []:=by
 refine a3x (pins:=[]) (by kernel_rfl) rfl rfl rfl rfl ?_
 simp (disch:=omega) [go_sem,a2j]
 refine a04 c5v rfl rfl rfl rfl ?_
 simp (disch:=omega) [go_sem]
theorem c5u {f:FuncId}:ACallsX pg G a6b [.sl 0 [],.fn f [] []] (li (-1)) []:=by
 refine a5a (pins:=[]) (by kernel_rfl) rfl rfl rfl rfl ?_
 simp (disch:=omega) [go_sem,a3j]
 refine a03 Unit (fun _ st=>st.s 7=li 0/\st.s 8=li 0) (fun _=>0) () (by simp (disch:=omega) [go_sem]) ?_
 rintro _ st K h hK
 simp (disch:=omega) [go_sem,a29,h]
theorem d1r {f:FuncId}:ACallsX pg G a5d [.sl 0 [],.fn f [] []] (lb false) []:=by
 refine a39 (pins:=[]) (by kernel_rfl) rfl rfl rfl rfl ?_
 simp (disch:=omega) [go_sem,a2n]
 refine a04 c5u rfl rfl rfl rfl ?_
 simp (disch:=omega) [go_sem]
theorem d13:ACalls pg G b4h [.agg (eP p0)] (.own 2 0 []):=by
 refine b09 rfl ?_
 simp (disch:=omega) [go_sem,a93,eP,p0]
 refine a03 Unit (fun _ st=>st.s 1=p0V/\st.s 3= .own 2 0 []/\st.s 8=li 0/\st.s 9=li 0) (fun _=>0) () (by simp (disch:=omega) [go_sem,p0V,b0r]) ?_
 rintro _ st K h hK
 simp (disch:=omega) [go_sem,a81,h,p0V]
theorem f3m (k:Int):ACalls pg G a8n [li k] (lb (e00 k)):=by
 refine b0e rfl ?_
 simp (disch:=omega) [go_sem,a82]
 refine a0p (c5j k) rfl rfl ?_
 simp (disch:=omega) [go_sem,e00]
theorem e4c {b c:AV} (h:st.s 1=p0V/\st.s 3=b/\st.s 4=c/\st.s 54=li 0/\st.s 55=li 0) (hex:∀ s,s.s 1=p0V/\s.s 3=b/\s.s 4=c->Q (.exit 0) s):AW pg G 97 (.loop a7g) Q st:=by
 refine a03 Unit (fun _ st=>st.s 1=p0V/\st.s 3=b/\st.s 4=c/\st.s 54=li 0/\st.s 55=li 0) (fun _=>0) () h ?_
 clear h
 rintro _ st K h hK
 simp (disch:=omega) [go_sem,a7g,h]
 exact hex _ (by simp (disch:=omega) [go_sem,h])
theorem e4d {c:AV} (h:st.s 1=p0V/\st.s 4=c/\st.s 66=li 0/\st.s 67=li 0) (hex:∀ s,s.s 1=p0V/\s.s 4=c->Q (.exit 2) s):AW pg G 97 (.loop a7h) Q st:=by
 refine a03 Unit (fun _ st=>st.s 1=p0V/\st.s 4=c/\st.s 66=li 0/\st.s 67=li 0) (fun _=>0) () h ?_
 clear h
 rintro _ st K h hK
 simp (disch:=omega) [go_sem,a7h,h]
 exact hex _ (by simp (disch:=omega) [go_sem,h])
theorem e4e (h:st.s 86=li 0/\st.s 87=li 0) (hex:∀ s,Q (.exit 4) s):AW pg G 97 (.loop a7i) Q st:=by
 refine a03 Unit (fun _ st=>st.s 86=li 0/\st.s 87=li 0) (fun _=>0) () h ?_
 clear h
 rintro _ st K h hK
 simp (disch:=omega) [go_sem,a7i,h]
 exact hex _
theorem e4g:ACalls pg G b58 [.agg (eP p0)] (.lit .nilIface):=by
 refine b16 rfl ?_
 have c4:=b6l (G:=G) (f:=a8n) b1a (p:=e00) [0,0,0] (fun x _=>(f3m x).toX (by simp [noRef])) (by simp)
 have e:[(0:Int),0,0].any e00=false:=by decide
 rw [e] at c4
 have d0:=d13 (G:=G)
 simp only [eP,p0] at d0
 simp (disch:=omega) [go_sem,b1b,eP,p0]
 refine a04 c3y rfl rfl rfl rfl ?_
 simp (disch:=omega) [go_sem]
 refine a0p d0 rfl rfl ?_
 simp (disch:=omega) [go_sem]
 refine a04 d1r rfl rfl rfl rfl ?_
 simp (disch:=omega) [go_sem]
 refine e4c (b:= .own 2 0 []) (c:=owI [0,0,0]) (by simp (disch:=omega) [go_sem,p0V,b0r]) (fun s h=> ?_)
 simp (disch:=omega) [go_sem,h]
 refine e4d (c:=owI [0,0,0]) (by simp (disch:=omega) [go_sem,h]) (fun s h=> ?_)
 simp (disch:=omega) [go_sem,h]
 refine a04 c4 rfl rfl rfl rfl ?_
 simp (disch:=omega) [go_sem,h,p0V]
 refine a04 c3y rfl rfl rfl rfl ?_
 simp (disch:=omega) [go_sem,h,p0V]
 refine e4e (by simp (disch:=omega) [go_sem,h,p0V]) (fun s=> ?_)
 simp (disch:=omega) [go_sem]
theorem e2r {b:List Int} (h:st.s 1=p0V/\st.s 5= .var [owU b]/\st.s 34=li 0/\st.s 35=li 0) (hex:∀ s,s.s 1=p0V/\s.s 5= .var [owU b]->Q (.exit 0) s):AW pg G 115 (.loop a6k) Q st:=by
 refine a03 Unit (fun _ st=>st.s 1=p0V/\st.s 5= .var [owU b]/\st.s 34=li 0/\st.s 35=li 0) (fun _=>0) () h ?_
 clear h
 rintro _ st K h hK
 simp (disch:=omega) [go_sem,a6k,h]
 exact hex _ (by simp (disch:=omega) [go_sem,h])
theorem e2s {b:List Int} (h:st.s 1=p0V/\st.s 5= .var [owU b]/\st.s 55=li 0/\st.s 56=li 0) (hex:∀ s,s.s 1=p0V/\s.s 5= .var [owU b]->Q (.exit 2) s):AW pg G 115 (.loop a6l) Q st:=by
 refine a03 Unit (fun _ st=>st.s 1=p0V/\st.s 5= .var [owU b]/\st.s 55=li 0/\st.s 56=li 0) (fun _=>0) () h ?_
 clear h
 rintro _ st K h hK
 simp (disch:=omega) [go_sem,a6l,h]
 exact hex _ (by simp (disch:=omega) [go_sem,h])
theorem e2t {b:List Int} (h:st.s 1=p0V/\st.s 5= .var [owU b]/\st.s 78=li 0/\st.s 79=li 0) (hex:∀ s,s.s 1=p0V/\s.s 5= .var [owU b]->Q (.exit 4) s):AW pg G 115 (.loop a6m) Q st:=by
 refine a03 Unit (fun _ st=>st.s 1=p0V/\st.s 5= .var [owU b]/\st.s 78=li 0/\st.s 79=li 0) (fun _=>0) () h ?_
 clear h
 rintro _ st K h hK
 simp (disch:=omega) [go_sem,a6m,h]
 exact hex _ (by simp (disch:=omega) [go_sem,h])
theorem e2u {b:List Int} (h:st.s 1=p0V/\st.s 5= .var [owU b]/\st.s 94=li 0/\st.s 95=li 0) (hex:∀ s,s.s 1=p0V/\s.s 5= .var [owU b]->Q (.exit 6) s):AW pg G 115 (.loop a6n) Q st:=by
 refine a03 Unit (fun _ st=>st.s 1=p0V/\st.s 5= .var [owU b]/\st.s 94=li 0/\st.s 95=li 0) (fun _=>0) () h ?_
 clear h
 rintro _ st K h hK
 simp (disch:=omega) [go_sem,a6n,h]
 exact hex _ (by simp (disch:=omega) [go_sem,h])
def b0:List Int:=[76,80]++b53 true 0++le2 0++le2 0++le2 0++le2 0++b53 true 0++b53 true 0
theorem d1f:ACalls pg G b4f [.agg (eP p0)] (.tup [slU b0,.lit .nilIface]):=by
 refine b05 rfl ?_
 have hf:=e4g (G:=G)
 simp only [eP,p0] at hf
 have hle:∀ k:Int,(le2 k).length=2:=fun k=>rfl
 have z:(b53 true 0).length=4:=rfl
 simp (disch:=omega) [go_sem,a91,eP,p0]
 refine a0p hf rfl rfl ?_
 simp (disch:=omega) [go_sem]
 refine a04 (b3u [76,80] 0 (by simp)) rfl rfl rfl (c53 _) ?_
 simp (disch:=omega) [go_sem]
 refine a04 (b3e ([76,80]++b53 true 0) 0 (by simp [z])) rfl rfl rfl (c53 _) ?_
 simp (disch:=omega) [go_sem]
 refine e2r (b:=[76,80]++b53 true 0++le2 0) (by simp (disch:=omega) [go_sem,p0V,le2,b0r]) (fun s h=> ?_)
 simp (disch:=omega) [go_sem,h,p0V]
 refine a04 (b3e _ 0 (by simp [z,hle])) rfl rfl rfl (c53 _) ?_
 simp (disch:=omega) [go_sem,h,p0V]
 refine e2s (b:=[76,80]++b53 true 0++le2 0++le2 0) (by simp (disch:=omega) [go_sem,h,p0V,le2]) (fun s h=> ?_)
 simp (disch:=omega) [go_sem,h,p0V]
 refine a04 (b3e _ 0 (by simp [z,hle])) rfl rfl rfl (c53 _) ?_
 simp (disch:=omega) [go_sem,h,p0V]
 refine e2t (b:=[76,80]++b53 true 0++le2 0++le2 0++le2 0) (by simp (disch:=omega) [go_sem,h,p0V,le2]) (fun s h=> ?_)
 simp (disch:=omega) [go_sem,h,p0V]
 refine a04 (b3e _ 0 (by simp [z,hle])) rfl rfl rfl (c53 _) ?_
 simp (disch:=omega) [go_sem,h,p0V]
 refine e2u (b:=[76,80]++b53 true 0++le2 0++le2 0++le2 0++le2 0) (by simp (disch:=omega) [go_sem,h,p0V,le2]) (fun s h=> ?_)
 simp (disch:=omega) [go_sem,h,p0V]
 refine a04 (b3u _ 0 (by simp [z,hle])) rfl rfl rfl (c53 _) ?_
 simp (disch:=omega) [go_sem,h,p0V]
 have cl:=b3u (G:=G) ([76,80]++b53 true 0++le2 0++le2 0++le2 0++le2 0++b53 true 0) 0 (by simp [z,hle])
 rw [show [76,80]++b53 true 0++le2 0++le2 0++le2 0++le2 0++b53 true 0++b53 true 0=b0 from rfl] at cl
 refine a04 cl rfl rfl rfl (c53 _) ?_
 simp (disch:=omega) [go_sem,h,p0V]
theorem d2z:ACalls pg G a8m [] (lb true):=by
 refine a7b rfl ?_
 have hb:=d1f (G:=G)
 have hl:b0.length=22:=by rfl
 simp only [eP,p0] at hb
 generalize b0=b at *
 simp (disch:=omega) [go_sem,a5i]
 refine c17 hb rfl (by simp (disch:=omega) [go_sem]) ?_
 simp (disch:=omega) [go_sem,hl]
end
end Go.Ideal.Tryd
end
section
namespace Go.Ideal.Tryd
def a3g:IC:=(.seq (.reg [oo 3 (.box 27 7 (.t 0)),
 oo 6 (.asg (.c (.bool false)))]) (.seq (.reg [oc 11 8 [] [],
 oo 7 (.asg (.t 11))]) (.seq (.seq (.reg [om 12 7,
 oo 13 (.un .not 4 (.t 12))]) (.cond (.t 13) (.seq (.reg [oo 6 (.asg (.c (.bool false)))]) .ret) .skip)) (.seq (.seq (.reg [oo 14 (.load 27 (some 7) (.t 3)),
 oc 15 9 [(false,(.t 14))] [27],
 oo 16 (.un .not 4 (.t 15)),
 om 17 16,
 og 18 (.mv (.t 7)) 3 17 false,
 og 19 (.un .not 4 (.t 18)) 3 17 false,
 oo 20 (.pick (.t 17) (.c (.bool true)) (.t 19))]) (.cond (.t 20) (.seq (.reg [om 21 7,
 oo 6 (.asg (.t 21))]) .ret) .skip)) (.seq (.reg [oo 22 (.load 27 (some 7) (.t 3)),
 oc 23 10 [(false,(.t 22))] [27],
 oo 8 (.alloc 27 [.lit (.int .i64 0),.own 3 0 [],.own 3 0 [],.own 2 0 [],.own 6 0 [],.lit (.int .i64 0),.lit (.int .i64 0)]),
 ov (.store 27 7 (.t 8) (.t 23))]) (.seq (.seq (.reg [oo 24 (.load 27 (some 7) (.t 3)),
 oo 25 (.lend 27 7 (.t 8)),
 oc 26 11 [(false,(.t 24)),(false,(.t 25))] [27,27],
 oo 27 (.un .not 4 (.t 26)),
 om 28 27,
 og 29 (.load 27 (some 7) (.t 3)) 4 28 false,
 og 30 (.lend 27 7 (.t 8)) 4 28 false,
 ⟨(some 31),.call 12 [(false,(.t 29)),(false,(.t 30))] [27,27],(some (4,28,false))⟩,
 og 32 (.un .not 4 (.t 31)) 4 28 false,
 oo 33 (.pick (.t 28) (.c (.bool true)) (.t 32))]) (.cond (.t 33) (.seq (.reg [oo 6 (.asg (.c (.bool false)))]) .ret) .skip)) (.seq (.seq (.reg [om 34 1,
 oc 35 13 [(false,(.t 34)),(false,(.n 4))] [3,3]]) (.block 0 (.seq (.reg [oo 43 (.bin .eql 3 0 (.t 35) (.n 0) 3),
 oo 42 (.asg (.t 43))]) (.cond (.t 42) (.reg [oo 44 (.faddr 27 0 (.t 8) 0),
 oo 45 (.load 3 none (.t 44)),
 oo 46 (.bin .xor 3 0 (.t 45) (.n 1) 3),
 oo 47 (.faddr 27 0 (.t 8) 0),
 ov (.store 3 1 (.t 47) (.t 46))]) (.seq (.reg [oo 49 (.bin .eql 3 0 (.t 35) (.n 1) 3),
 oo 48 (.asg (.t 49))]) (.cond (.t 48) (.seq (.seq (.reg [oo 50 (.faddr 27 4 (.t 8) 4),
 oo 51 (.load 25 none (.t 50)),
 oo 52 (.len 25 false (.t 51)),
 oo 53 (.bin .eql 3 0 (.t 52) (.n 0) 3)]) (.cond (.t 53) (.seq (.reg [oo 6 (.asg (.c (.bool true)))]) .ret) .skip)) (.seq (.draw [oo 54 (.faddr 27 4 (.t 8) 4),
 oo 55 (.load 25 none (.t 54)),
 om 56 2,
 oo 57 (.faddr 27 4 (.t 8) 4),
 oo 58 (.load 25 none (.t 57)),
 oo 59 (.len 25 false (.t 58)),
 oc 60 13 [(false,(.t 56)),(false,(.t 59))] [3,3],
 oo 61 (.iaddr 25 6 (.t 55) (.t 60)),
 oo 9 (.asg (.t 61))] [[],[0],[],[],[3],[4],[2,5],[1,6],[7,6,0,1,2,3,4,5,6,7]]) (.reg [om 62 9,
 om 63 9,
 oo 64 (.nilck (.t 63)),
 oo 65 (.faddr 36 3 (.t 64) 3),
 oo 66 (.load 34 none (.t 65)),
 oo 67 (.bslice 34 3 1 1 [.lit (.int .i64 0)] [(0,(.n 1))]),
 oo 68 (.app 34 3 1 8 (.t 66) (.t 67)),
 oo 69 (.nilck (.t 62)),
 oo 70 (.faddr 36 3 (.t 69) 3),
 ov (.store 34 1 (.t 70) (.t 68))]))) (.seq (.reg [oo 72 (.bin .eql 3 0 (.t 35) (.n 2) 3),
 oo 71 (.asg (.t 72))]) (.cond (.t 71) (.seq (.seq (.reg [oo 73 (.faddr 27 1 (.t 8) 1),
 oo 74 (.load 22 none (.t 73)),
 oo 75 (.len 22 false (.t 74)),
 oo 76 (.bin .eql 3 0 (.t 75) (.n 0) 3)]) (.cond (.t 76) (.seq (.reg [oo 6 (.asg (.c (.bool true)))]) .ret) .skip)) (.seq (.draw [oo 77 (.faddr 27 1 (.t 8) 1),
 oo 78 (.load 22 none (.t 77)),
 om 79 2,
 oo 80 (.faddr 27 1 (.t 8) 1),
 oo 81 (.load 22 none (.t 80)),
 oo 82 (.len 22 false (.t 81)),
 oc 83 13 [(false,(.t 79)),(false,(.t 82))] [3,3],
 oo 84 (.iaddr 22 3 (.t 78) (.t 83)),
 oo 10 (.asg (.t 84))] [[],[0],[],[],[3],[4],[2,5],[1,6],[7,6,0,1,2,3,4,5,6,7]]) (.reg [om 85 10,
 om 86 10,
 oo 87 (.nilck (.t 86)),
 oo 88 (.faddr 41 1 (.t 87) 1),
 oo 89 (.faddr 39 1 (.t 88) 1),
 oo 90 (.load 4 none (.t 89)),
 oo 91 (.un .not 4 (.t 90)),
 oo 92 (.nilck (.t 85)),
 oo 93 (.faddr 41 1 (.t 92) 1),
 oo 94 (.faddr 39 1 (.t 93) 1),
 ov (.store 4 1 (.t 94) (.t 91))]))) (.reg [oo 36 (.faddr 27 3 (.t 8) 3),
 oo 37 (.load 24 none (.t 36)),
 oo 38 (.build 39 [.sl 0 [],.lit (.bool false)] []),
 oo 39 (.bslice 24 39 2 1 [.own 1 0 [],.lit (.bool false)] [(0,(.t 38))]),
 oo 40 (.app 24 39 2 32 (.t 37) (.t 39)),
 oo 41 (.faddr 27 3 (.t 8) 3),
 ov (.store 24 1 (.t 41) (.t 40))]))))))))) (.seq (.reg [oo 95 (.load 27 (some 7) (.t 3)),
 oo 96 (.lend 27 7 (.t 8)),
 oc 97 11 [(false,(.t 95)),(false,(.t 96))] [27,27],
 oo 98 (.un .not 4 (.t 97)),
 om 99 98,
 og 100 (.lend 27 7 (.t 8)) 4 99 true,
 og 101 (.load 27 (some 7) (.t 3)) 4 99 true,
 ⟨(some 102),.call 11 [(false,(.t 100)),(false,(.t 101))] [27,27],(some (4,99,true))⟩,
 og 103 (.un .not 4 (.t 102)) 4 99 true,
 oo 104 (.pick (.t 99) (.t 103) (.c (.bool false))),
 oo 6 (.asg (.t 104))]) .ret))))))))
abbrev a58:Nat:=3
theorem a5e:fnC pg 3 105 [(.tmp 6)] a3g:=a1g Go.Proofs.Tryd.f3 [(.tmp 6)] (by kernel_rfl)
@[go_sem] theorem b12:fnB pg 3=true:=by kernel_rfl
def a4m:IC:=(.seq (.reg [oo 23 (.bin .lss 3 0 (.t 22) (.t 21) 3)]) (.seq (.cond (.t 23) .skip (.exit 0)) (.seq (.block 1 (.seq (.reg [oo 24 (.iaddr 22 3 (.t 20) (.t 22)),
 oo 25 (.load 41 (some 3) (.t 24)),
 oo 5 (.alloc 41 [.lit (.int .i64 0),.own 1 0 [],.lit (.bool false)]),
 ov (.store 41 3 (.t 5) (.t 25))]) (.draw [oo 26 (.faddr 27 1 (.t 3) 1),
 oo 27 (.load 22 none (.t 26)),
 oo 28 (.faddr 41 0 (.t 5) 0),
 oo 29 (.load 3 none (.t 28)),
 oo 30 (.faddr 41 1 (.t 5) 1),
 oo 31 (.load 39 (some 2) (.t 30)),
 oc 32 26 [(false,(.t 31))] [39],
 oo 33 (.build 41 [.lit (.int .i64 0),.own 1 0 [],.lit (.bool false)] [(0,0,1,(.t 29)),(1,1,2,(.t 32))]),
 oo 34 (.bslice 22 41 3 1 [.lit (.int .i64 0),.own 1 0 [],.lit (.bool false)] [(0,(.t 33))]),
 oo 35 (.app 22 41 3 40 (.t 27) (.t 34)),
 oo 36 (.faddr 27 1 (.t 3) 1),
 ov (.store 22 1 (.t 36) (.t 35))] [[],[0],[],[2],[],[4],[5],[3,6],[7],[1,8,6],[0,1,2,3,4,5,6,7,8,9],[10,9,9,0,1,2,3,4,5,6,7,8,9]]))) (.reg [oo 37 (.bin .add 3 0 (.t 22) (.n 1) 3),
 om 22 37]))))
def a4n:IC:=(.seq (.reg [oo 42 (.bin .lss 3 0 (.t 41) (.t 40) 3)]) (.seq (.cond (.t 42) .skip (.exit 2)) (.seq (.block 3 (.seq (.reg [oo 43 (.iaddr 23 3 (.t 39) (.t 41)),
 oo 44 (.load 44 (some 3) (.t 43)),
 oo 7 (.alloc 44 [.own 1 0 [],.lit (.bool false),.own 1 0 []]),
 ov (.store 44 3 (.t 7) (.t 44))]) (.draw [oo 45 (.faddr 27 2 (.t 3) 2),
 oo 46 (.load 23 none (.t 45)),
 oo 47 (.load 44 (some 3) (.t 7)),
 oc 48 27 [(false,(.t 47))] [44],
 oo 49 (.bslice 23 44 3 1 [.own 1 0 [],.lit (.bool false),.own 1 0 []] [(0,(.t 48))]),
 oo 50 (.app 23 44 3 56 (.t 46) (.t 49)),
 oo 51 (.faddr 27 2 (.t 3) 2),
 ov (.store 23 1 (.t 51) (.t 50))] [[],[0],[],[2],[3],[1,4,3],[0,1,2,3,4,5],[6,5,5,0,1,2,3,4,5]]))) (.reg [oo 52 (.bin .add 3 0 (.t 41) (.n 1) 3),
 om 41 52]))))
def a4o:IC:=(.seq (.reg [oo 57 (.bin .lss 3 0 (.t 56) (.t 55) 3)]) (.seq (.cond (.t 57) .skip (.exit 4)) (.seq (.block 5 (.seq (.reg [oo 58 (.iaddr 24 2 (.t 54) (.t 56)),
 oo 59 (.load 39 (some 2) (.t 58)),
 oo 9 (.alloc 39 [.own 1 0 [],.lit (.bool false)]),
 ov (.store 39 2 (.t 9) (.t 59))]) (.draw [oo 60 (.faddr 27 3 (.t 3) 3),
 oo 61 (.load 24 none (.t 60)),
 oo 62 (.load 39 (some 2) (.t 9)),
 oc 63 26 [(false,(.t 62))] [39],
 oo 64 (.bslice 24 39 2 1 [.own 1 0 [],.lit (.bool false)] [(0,(.t 63))]),
 oo 65 (.app 24 39 2 32 (.t 61) (.t 64)),
 oo 66 (.faddr 27 3 (.t 3) 3),
 ov (.store 24 1 (.t 66) (.t 65))] [[],[0],[],[2],[3],[1,4,3],[0,1,2,3,4,5],[6,5,5,0,1,2,3,4,5]]))) (.reg [oo 67 (.bin .add 3 0 (.t 56) (.n 1) 3),
 om 56 67]))))
def a4p:IC:=(.seq (.reg [oo 72 (.bin .lss 3 0 (.t 71) (.t 70) 3)]) (.seq (.cond (.t 72) .skip (.exit 6)) (.seq (.block 7 (.seq (.reg [oo 73 (.iaddr 25 6 (.t 69) (.t 71)),
 oo 74 (.load 36 (some 6) (.t 73)),
 oo 11 (.alloc 36 [.lit (.int .i64 0),.lit (.int .i64 0),.own 1 0 [],.own 1 0 [],.lit (.int .i64 0),.lit (.int .i64 0)]),
 ov (.store 36 6 (.t 11) (.t 74))]) (.seq (.draw [oo 75 (.faddr 36 2 (.t 11) 2),
 oo 76 (.load 34 none (.t 75)),
 oc 77 28 [(false,(.t 76))] [34],
 oo 78 (.faddr 36 3 (.t 11) 3),
 oo 79 (.load 34 none (.t 78)),
 oc 80 28 [(false,(.t 79))] [34],
 oo 81 (.faddr 36 2 (.t 11) 2),
 ov (.store 34 1 (.t 81) (.t 77)),
 oo 82 (.faddr 36 3 (.t 11) 3),
 ov (.store 34 1 (.t 82) (.t 80))] [[],[0],[1],[],[3],[4,2],[0,1,2,3,4],[6,2,5,0,1,2,3,4],[0,1,2,3,4,5,6,7],[8,5,7,0,1,2,3,4,5,6,7]]) (.reg [oo 83 (.faddr 27 4 (.t 3) 4),
 oo 84 (.load 25 none (.t 83)),
 oo 85 (.lmv 36 6 (.t 11)),
 oo 86 (.bslice 25 36 6 1 [.lit (.int .i64 0),.lit (.int .i64 0),.own 1 0 [],.own 1 0 [],.lit (.int .i64 0),.lit (.int .i64 0)] [(0,(.t 85))]),
 oo 87 (.app 25 36 6 80 (.t 84) (.t 86)),
 oo 88 (.faddr 27 4 (.t 3) 4),
 ov (.store 25 1 (.t 88) (.t 87))])))) (.reg [oo 89 (.bin .add 3 0 (.t 71) (.n 1) 3),
 om 71 89]))))
def a92:IC:=(.seq (.reg [oo 1 (.box 27 7 (.t 0)),
 oo 2 (.alloc 27 [.lit (.int .i64 0),.own 3 0 [],.own 3 0 [],.own 2 0 [],.own 6 0 [],.lit (.int .i64 0),.lit (.int .i64 0)])]) (.seq (.reg [oo 12 (.faddr 27 0 (.t 1) 0),
 oo 13 (.load 3 none (.t 12)),
 oo 14 (.faddr 27 5 (.t 1) 5),
 oo 15 (.load 3 none (.t 14)),
 oo 16 (.faddr 27 6 (.t 1) 6),
 oo 17 (.load 3 none (.t 16)),
 oo 18 (.build 27 [.lit (.int .i64 0),.own 3 0 [],.own 3 0 [],.own 2 0 [],.own 6 0 [],.lit (.int .i64 0),.lit (.int .i64 0)] [(0,0,1,(.t 13)),(5,5,1,(.t 15)),(6,6,1,(.t 17))]),
 oo 3 (.alloc 27 [.lit (.int .i64 0),.own 3 0 [],.own 3 0 [],.own 2 0 [],.own 6 0 [],.lit (.int .i64 0),.lit (.int .i64 0)]),
 ov (.store 27 7 (.t 3) (.t 18))]) (.seq (.seq (.reg [oo 19 (.faddr 27 1 (.t 1) 1),
 oo 20 (.load 22 none (.t 19)),
 oo 21 (.len 22 false (.t 20)),
 oo 22 (.mv (.n 0))]) (.block 0 (.loop a4m))) (.seq (.seq (.reg [oo 38 (.faddr 27 2 (.t 1) 2),
 oo 39 (.load 23 none (.t 38)),
 oo 40 (.len 23 false (.t 39)),
 oo 41 (.mv (.n 0))]) (.block 2 (.loop a4n))) (.seq (.seq (.reg [oo 53 (.faddr 27 3 (.t 1) 3),
 oo 54 (.load 24 none (.t 53)),
 oo 55 (.len 24 false (.t 54)),
 oo 56 (.mv (.n 0))]) (.block 4 (.loop a4o))) (.seq (.seq (.reg [oo 68 (.faddr 27 4 (.t 1) 4),
 oo 69 (.load 25 none (.t 68)),
 oo 70 (.len 25 false (.t 69)),
 oo 71 (.mv (.n 0))]) (.block 6 (.loop a4p))) (.seq (.reg [oo 90 (.lmv 27 7 (.t 3)),
 ov (.store 27 7 (.t 2) (.t 90))]) .ret)))))))
abbrev b4g:Nat:=10
theorem b06:fnC pg 10 91 [(.cells 2 7)] a92:=a1g Go.Proofs.Tryd.f10 [(.cell 2 27)] (by kernel_rfl)
@[go_sem] theorem c1z:fnB pg 10=true:=by kernel_rfl
end Go.Ideal.Tryd
end
