/- Part Pg of the proof: a machine with trees for values, its soundness, and walks on it. -/
import Derived.Test.YtfdhkijgolgnfaaDoorPd
section
set_option linter.unusedVariables false
set_option maxRecDepth 10000
namespace Go.Ideal.Tryd
@[go_sem] def a93 : List AO := [oo 4 (.asg (.c (.bool false)))]
@[go_sem] def a9f : List AO := [om 7 0,
 oo 8 (.len 44 false (.t 7)),
 om 9 1,
 oo 10 (.len 44 false (.t 9)),
 oo 11 (.bin .neq 3 0 (.t 8) (.t 10) 3)]
@[go_sem] def b0k : List AO := [oo 4 (.asg (.c (.bool false)))]
@[go_sem] def a91 : List AO := [oo 5 (.asg (.n 0))]
@[go_sem] def a9x : List AO := [om 12 5,
 om 13 0,
 oo 14 (.len 44 false (.t 13)),
 oo 15 (.bin .lss 3 0 (.t 12) (.t 14) 3)]
@[go_sem] def a96 : List AO := [om 18 0,
 om 19 5,
 oo 20 (.iaddr 44 1 (.t 18) (.t 19)),
 oo 21 (.load 5 none (.t 20)),
 om 22 1,
 om 23 5,
 oo 24 (.iaddr 44 1 (.t 22) (.t 23)),
 oo 25 (.load 5 none (.t 24)),
 oo 26 (.bin .eql 5 0 (.t 21) (.t 25) 5),
 oo 6 (.asg (.t 26))]
@[go_sem] def b0g : List AO := [om 27 6,
 oo 28 (.un .not 4 (.t 27))]
@[go_sem] def a9e : List AO := [oo 4 (.asg (.c (.bool false)))]
@[go_sem] def a9z : List AO := [om 16 5,
 oo 17 (.bin .add 3 0 (.t 16) (.n 1) 3),
 oo 5 (.asg (.t 17))]
def a2u : IC := (.seq (.seq (.reg a9x) (.cond (.t 15) .skip (.exit 0))) (.seq (.block 1 (.seq (.draw a96 [[], [], [0, 1], [2], [], [], [4, 5], [6], [3, 7], [8, 0, 1, 2, 3, 4, 5, 6, 7, 8]]) (.seq (.reg b0g) (.cond (.t 28) (.seq (.reg a9e) .ret) .skip)))) (.reg a9z)))
@[go_sem] def b0i : List AO := [oo 4 (.asg (.c (.bool true)))]
def a4y : IC := (.seq (.reg a93) (.seq (.seq (.reg a9f) (.cond (.t 11) (.seq (.reg b0k) .ret) .skip)) (.seq (.seq (.reg a91) (.block 0 (.loop a2u))) (.seq (.reg b0i) .ret))))
abbrev b1c : Nat := 29
theorem a8c : fnC pg 29 29 [(.tmp 4)] a4y := a1k Go.Proofs.Tryd.f29 [(.tmp 4)] (by kernel_rfl)
@[go_sem] theorem c5n : fnB pg 29 = true := by kernel_rfl
end Go.Ideal.Tryd
end
