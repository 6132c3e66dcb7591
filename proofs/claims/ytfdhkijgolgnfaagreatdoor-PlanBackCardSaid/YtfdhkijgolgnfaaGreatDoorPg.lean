/- Part Pg of the proof: a machine with trees for values, its soundness, and walks on it. -/
import Derived.Test.YtfdhkijgolgnfaaGreatDoorPd
section
set_option linter.unusedVariables false
set_option maxRecDepth 10000
namespace Go.Ideal.Tryz
@[go_sem] def b42 : List AO := [oo 2 (.box 66 3 (.t 0)),
 oo 4 (.asg (.c (.bool false)))]
@[go_sem] def b4z : List AO := [oo 5 (.faddr 66 0 (.t 2) 0),
 oo 6 (.load 56 (some 2) (.t 5)),
 oc 7 18 [(false, (.t 6))] [56],
 om 8 7,
 og 9 (.faddr 66 2 (.t 2) 1) 3 8 true,
 og 10 (.load 46 none (.t 9)) 3 8 true,
 og 11 (.len 46 false (.t 10)) 3 8 true,
 og 12 (.mv (.t 1)) 3 8 true,
 og 13 (.bin .leq 3 0 (.t 11) (.t 12) 3) 3 8 true,
 oo 14 (.pick (.t 8) (.t 13) (.c (.bool false))),
 oo 4 (.asg (.t 14))]
def a6p : IC := (.seq (.reg b42) (.seq (.reg b4z) .ret))
abbrev b7f : Nat := 50
theorem b1t : fnC pg 50 15 [(.tmp 4)] a6p := a0v Go.Proofs.Tryz.f50 [(.tmp 4)] (by kernel_rfl)
@[go_sem] theorem d37 : fnB pg 50 = true := by kernel_rfl
@[go_sem] def c0g : List AO := [oo 1 (.box 56 2 (.t 0)),
 oo 2 (.asg (.c (.bool false)))]
@[go_sem] def c0t : List AO := [oo 3 (.faddr 56 0 (.t 1) 0),
 oo 4 (.load 46 none (.t 3)),
 oo 5 (.len 46 false (.t 4)),
 oo 6 (.bin .leq 3 0 (.t 5) (.n 8) 3),
 oo 2 (.asg (.t 6))]
def a4z : IC := (.seq (.reg c0g) (.seq (.reg c0t) .ret))
abbrev c13 : Nat := 18
theorem b5a : fnC pg 18 7 [(.tmp 2)] a4z := a0v Go.Proofs.Tryz.f18 [(.tmp 2)] (by kernel_rfl)
@[go_sem] theorem d82 : fnB pg 18 = true := by kernel_rfl
end Go.Ideal.Tryz
end
