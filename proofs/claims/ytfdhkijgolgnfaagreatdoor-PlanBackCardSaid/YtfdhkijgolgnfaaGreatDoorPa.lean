/- Part Pa of the proof: a machine with trees for values, its soundness, and walks on it. -/
import Derived.Test.YtfdhkijgolgnfaaGreatDoorNx
import Derived.Test.YtfdhkijgolgnfaaGreatDoorProg
section
set_option linter.unusedVariables false
set_option maxRecDepth 10000
namespace Go.Ideal.Tryz
noncomputable abbrev pg : Program := Go.Proofs.Tryz.prog
@[go_sem] def b53 : List AO := [oo 4 (.asg (.c (.bool false)))]
@[go_sem] def b6k : List AO := [om 7 0,
 oo 8 (.len 46 false (.t 7)),
 om 9 1,
 oo 10 (.len 46 false (.t 9)),
 oo 11 (.bin .neq 3 0 (.t 8) (.t 10) 3)]
@[go_sem] def b5m : List AO := [oo 4 (.asg (.c (.bool false)))]
@[go_sem] def b57 : List AO := [oo 5 (.asg (.n 0))]
@[go_sem] def b6l : List AO := [om 12 5,
 om 13 0,
 oo 14 (.len 46 false (.t 13)),
 oo 15 (.bin .lss 3 0 (.t 12) (.t 14) 3)]
@[go_sem] def b41 : List AO := [om 18 0,
 om 19 5,
 oo 20 (.iaddr 46 1 (.t 18) (.t 19)),
 oo 21 (.load 3 none (.t 20)),
 om 22 1,
 om 23 5,
 oo 24 (.iaddr 46 1 (.t 22) (.t 23)),
 oo 25 (.load 3 none (.t 24)),
 oo 26 (.bin .eql 3 0 (.t 21) (.t 25) 3),
 oo 6 (.asg (.t 26))]
@[go_sem] def b43 : List AO := [om 27 6,
 oo 28 (.un .not 4 (.t 27))]
@[go_sem] def b45 : List AO := [oo 4 (.asg (.c (.bool false)))]
@[go_sem] def b59 : List AO := [om 16 5,
 oo 17 (.bin .add 3 0 (.t 16) (.n 1) 3),
 oo 5 (.asg (.t 17))]
def a3u : IC := (.seq (.seq (.reg b6l) (.cond (.t 15) .skip (.exit 0))) (.seq (.block 1 (.seq (.draw b41 [[], [], [0, 1], [2], [], [], [4, 5], [6], [3, 7], [8, 0, 1, 2, 3, 4, 5, 6, 7, 8]]) (.seq (.reg b43) (.cond (.t 28) (.seq (.reg b45) .ret) .skip)))) (.reg b59)))
@[go_sem] def b4s : List AO := [oo 4 (.asg (.c (.bool true)))]
def a4a : IC := (.seq (.reg b53) (.seq (.seq (.reg b6k) (.cond (.t 11) (.seq (.reg b5m) .ret) .skip)) (.seq (.seq (.reg b57) (.block 0 (.loop a3u))) (.seq (.reg b4s) .ret))))
abbrev b65 : Nat := 49
theorem b1v : fnC pg 49 29 [(.tmp 4)] a4a := a0v Go.Proofs.Tryz.f49 [(.tmp 4)] (by kernel_rfl)
@[go_sem] theorem d60 : fnB pg 49 = true := by kernel_rfl
@[go_sem] def c3j : List AO := [oo 3 (.box 42 3 (.t 1)),
 oo 4 (.asg (.c (.bool false)))]
@[go_sem] def c3l : List AO := [om 5 0,
 oc 6 42 [(false, (.t 5))] [32],
 oo 7 (.load 42 (some 3) (.t 3)),
 oc 8 41 [(false, (.t 6)), (false, (.t 7))] [42, 42],
 oo 4 (.asg (.t 8))]
def b26 : IC := (.seq (.reg c3j) (.seq (.draw c3l [[], [0], [], [1, 2, 1], [3, 3, 0, 1, 2, 3]]) .ret))
abbrev c6f : Nat := 11
theorem b9d : fnC pg 11 9 [(.tmp 4)] b26 := a0v Go.Proofs.Tryz.f11 [(.tmp 4)] (by kernel_rfl)
@[go_sem] theorem e2l : fnB pg 11 = true := by kernel_rfl
@[go_sem] def b5o : List AO := [oo 4 (.asg (.n 0))]
@[go_sem] def b55 : List AO := [om 5 0,
 om 6 1,
 oo 7 (.bin .rem 3 0 (.t 5) (.t 6) 3),
 om 8 1,
 oo 9 (.bin .add 3 0 (.t 7) (.t 8) 3),
 om 10 1,
 oo 11 (.bin .rem 3 0 (.t 9) (.t 10) 3),
 oo 4 (.asg (.t 11))]
def a6x : IC := (.seq (.reg b5o) (.seq (.reg b55) .ret))
abbrev b7m : Nat := 9
theorem b16 : fnC pg 9 12 [(.tmp 4)] a6x := a0v Go.Proofs.Tryz.f9 [(.tmp 4)] (by kernel_rfl)
@[go_sem] theorem d54 : fnB pg 9 = true := by kernel_rfl
@[go_sem] def b95 : List AO := [oo 4 (.alloc 42 [.lit (.int .i64 0), .lit (.bool false), .lit (.int .i64 0)])]
@[go_sem] def c0v : List AO := [om 5 0,
 oo 6 (.bin .eql 3 0 (.t 5) (.n 0) 3)]
@[go_sem] def b91 : List AO := [oc 7 43 [] [],
 ov (.store 42 3 (.t 4) (.t 7))]
@[go_sem] def c0k : List AO := [om 8 0,
 om 9 1,
 oo 10 (.build 42 [.lit (.int .i64 0), .lit (.bool false), .lit (.int .i64 0)] [(0, 0, 1, (.t 8)), (1, 1, 1, (.c (.bool true))), (2, 2, 1, (.t 9))]),
 ov (.store 42 3 (.t 4) (.t 10))]
def a95 : IC := (.seq (.reg b95) (.seq (.seq (.reg c0v) (.cond (.t 6) (.seq (.reg b91) .ret) .skip)) (.seq (.reg c0k) .ret)))
abbrev c1l : Nat := 12
theorem b58 : fnC pg 12 11 [(.cells 4 3)] a95 := a0v Go.Proofs.Tryz.f12 [(.cell 4 42)] (by kernel_rfl)
@[go_sem] theorem d8g : fnB pg 12 = true := by kernel_rfl
@[go_sem] def c3g : List AO := [oo 0 (.alloc 42 [.lit (.int .i64 0), .lit (.bool false), .lit (.int .i64 0)])]
@[go_sem] def c3a : List AO := [oo 1 (.build 42 [.lit (.int .i64 0), .lit (.bool false), .lit (.int .i64 0)] []),
 ov (.store 42 3 (.t 0) (.t 1))]
def b30 : IC := (.seq (.reg c3g) (.seq (.reg c3a) .ret))
abbrev c6c : Nat := 43
theorem c1a : fnC pg 43 2 [(.cells 0 3)] b30 := a0v Go.Proofs.Tryz.f43 [(.cell 0 42)] (by kernel_rfl)
@[go_sem] theorem e2h : fnB pg 43 = true := by kernel_rfl
@[go_sem] def b33 : List AO := [oo 2 (.box 42 3 (.t 0)),
 oo 3 (.box 42 3 (.t 1)),
 oo 4 (.asg (.c (.bool false)))]
@[go_sem] def b32 : List AO := [oo 5 (.faddr 42 0 (.t 2) 0),
 oo 6 (.load 3 none (.t 5)),
 oo 7 (.faddr 42 0 (.t 3) 0),
 oo 8 (.load 3 none (.t 7)),
 oo 9 (.bin .eql 3 0 (.t 6) (.t 8) 3),
 om 10 9,
 og 11 (.faddr 42 1 (.t 2) 1) 5 10 true,
 og 12 (.load 4 none (.t 11)) 5 10 true,
 og 13 (.faddr 42 1 (.t 3) 1) 5 10 true,
 og 14 (.load 4 none (.t 13)) 5 10 true,
 og 15 (.bin .eql 4 1 (.t 12) (.t 14) 4) 5 10 true,
 oo 16 (.pick (.t 10) (.t 15) (.c (.bool false))),
 om 17 16,
 og 18 (.faddr 42 2 (.t 2) 2) 12 17 true,
 og 19 (.load 3 none (.t 18)) 12 17 true,
 og 20 (.faddr 42 2 (.t 3) 2) 12 17 true,
 og 21 (.load 3 none (.t 20)) 12 17 true,
 og 22 (.bin .eql 3 0 (.t 19) (.t 21) 3) 12 17 true,
 oo 23 (.pick (.t 17) (.t 22) (.c (.bool false))),
 oo 4 (.asg (.t 23))]
def a5w : IC := (.seq (.reg b33) (.seq (.reg b32) .ret))
abbrev b40 : Nat := 41
theorem b09 : fnC pg 41 24 [(.tmp 4)] a5w := a0v Go.Proofs.Tryz.f41 [(.tmp 4)] (by kernel_rfl)
@[go_sem] theorem d30 : fnB pg 41 = true := by kernel_rfl
@[go_sem] def c1r : List AO := [oo 2 (.alloc 42 [.lit (.int .i64 0), .lit (.bool false), .lit (.int .i64 0)])]
@[go_sem] def c12 : List AO := [om 5 0,
 oo 6 (.bin .eql 32 2 (.t 5) (.c .nilIface) 32)]
@[go_sem] def c1k : List AO := [oc 7 43 [] [],
 ov (.store 42 3 (.t 2) (.t 7))]
@[go_sem] def c1h : List AO := [om 9 0,
 oo 10 (.tas (.t 9) 32 107 [.lit (.pointer none)]),
 om 8 10,
 oo 11 (.ext (.t 8) 0),
 oo 12 (.ext (.t 8) 1),
 oo 3 (.asg (.t 11)),
 oo 4 (.asg (.t 12))]
@[go_sem] def c17 : List AO := [om 13 4,
 oo 14 (.un .not 4 (.t 13))]
@[go_sem] def c19 : List AO := [om 15 0,
 oc 16 69 [(false, (.t 15))] [32],
 oc 17 44 [(false, (.t 16))] [3],
 ov (.store 42 3 (.t 2) (.t 17))]
@[go_sem] def c1c : List AO := [om 18 3,
 oo 19 (.bin .eql 107 3 (.t 18) (.c (.pointer none)) 107),
 om 20 19,
 og 21 (.mv (.t 3)) 2 20 false,
 og 22 (.nilck (.t 21)) 2 20 false,
 og 23 (.faddr 111 1 (.t 22) 1) 2 20 false,
 og 24 (.load 32 none (.t 23)) 2 20 false,
 og 25 (.bin .eql 32 2 (.t 24) (.c .nilIface) 32) 2 20 false,
 oo 26 (.pick (.t 20) (.c (.bool true)) (.t 25))]
@[go_sem] def c1b : List AO := [oc 27 44 [(false, (.n (-1)))] [3],
 ov (.store 42 3 (.t 2) (.t 27))]
@[go_sem] def c1s : List AO := [om 28 3,
 oo 29 (.nilck (.t 28)),
 oo 30 (.faddr 111 1 (.t 29) 1),
 oo 31 (.load 32 none (.t 30)),
 oc 32 69 [(false, (.t 31))] [32],
 om 33 3,
 oo 34 (.nilck (.t 33)),
 oo 35 (.faddr 111 0 (.t 34) 0),
 oo 36 (.load 3 none (.t 35)),
 oc 37 12 [(false, (.t 32)), (false, (.t 36))] [3, 3],
 ov (.store 42 3 (.t 2) (.t 37))]
def a34 : IC := (.seq (.reg c1r) (.seq (.seq (.reg c12) (.cond (.t 6) (.seq (.reg c1k) .ret) .skip)) (.seq (.reg c1h) (.seq (.seq (.reg c17) (.cond (.t 14) (.seq (.reg c19) .ret) .skip)) (.seq (.seq (.reg c1c) (.cond (.t 26) (.seq (.reg c1b) .ret) .skip)) (.seq (.draw c1s [[], [0], [1], [2], [3], [], [5], [6], [7], [4, 8, 4], [9, 9, 0, 1, 2, 3, 4, 5, 6, 7, 8, 9]]) .ret))))))
abbrev c3n : Nat := 42
theorem b63 : fnC pg 42 38 [(.cells 2 3)] a34 := a0v Go.Proofs.Tryz.f42 [(.cell 2 42)] (by kernel_rfl)
@[go_sem] theorem e1i : fnB pg 42 = true := by kernel_rfl
@[go_sem] def c3c : List AO := [oo 2 (.alloc 42 [.lit (.int .i64 0), .lit (.bool false), .lit (.int .i64 0)])]
@[go_sem] def c3t : List AO := [om 3 0,
 oo 4 (.build 42 [.lit (.int .i64 0), .lit (.bool false), .lit (.int .i64 0)] [(0, 0, 1, (.t 3))]),
 ov (.store 42 3 (.t 2) (.t 4))]
def b3s : IC := (.seq (.reg c3c) (.seq (.reg c3t) .ret))
abbrev c5r : Nat := 44
theorem b9w : fnC pg 44 5 [(.cells 2 3)] b3s := a0v Go.Proofs.Tryz.f44 [(.cell 2 42)] (by kernel_rfl)
@[go_sem] theorem e24 : fnB pg 44 = true := by kernel_rfl
@[go_sem] def b49 : List AO := [oo 2 (.asg (.n 0))]
@[go_sem] def b6e : List AO := [oc 5 82 [] [],
 oo 3 (.asg (.t 5))]
@[go_sem] def b54 : List AO := [oo 4 (.asg (.n 0))]
@[go_sem] def b5u : List AO := [om 6 4,
 om 7 3,
 oo 8 (.len 129 false (.t 7)),
 oo 9 (.bin .lss 3 0 (.t 6) (.t 8) 3)]
@[go_sem] def b5e : List AO := [om 12 0,
 om 13 3,
 om 14 4,
 oo 15 (.iaddr 129 1 (.t 13) (.t 14)),
 oo 16 (.load 32 none (.t 15)),
 oc 17 83 [(false, (.t 12)), (false, (.t 16))] [32, 32]]
@[go_sem] def b4t : List AO := [om 18 4,
 oo 19 (.bin .add 3 0 (.n 101) (.t 18) 3),
 oo 2 (.asg (.t 19))]
@[go_sem] def b5q : List AO := [om 10 4,
 oo 11 (.bin .add 3 0 (.t 10) (.n 1) 3),
 oo 4 (.asg (.t 11))]
def a3w : IC := (.seq (.seq (.reg b5u) (.cond (.t 9) .skip (.exit 0))) (.seq (.block 1 (.seq (.reg b5e) (.cond (.t 17) (.seq (.reg b4t) .ret) .skip))) (.reg b5q)))
@[go_sem] def b5z : List AO := [oo 2 (.asg (.n (-1)))]
def a6k : IC := (.seq (.reg b49) (.seq (.reg b6e) (.seq (.seq (.reg b54) (.block 0 (.loop a3w))) (.seq (.reg b5z) .ret))))
abbrev b7n : Nat := 69
theorem b11 : fnC pg 69 20 [(.tmp 2)] a6k := a0v Go.Proofs.Tryz.f69 [(.tmp 2)] (by kernel_rfl)
@[go_sem] theorem d51 : fnB pg 69 = true := by kernel_rfl
@[go_sem] def b4g : List AO := [oo 0 (.asg (.nl 1))]
@[go_sem] def b3l : List AO := [oo 1 (.load 32 none (.g 4)),
 oo 2 (.load 32 none (.g 1)),
 oo 3 (.load 32 none (.g 3)),
 oo 4 (.load 32 none (.g 0)),
 oo 5 (.load 32 none (.g 2)),
 oo 6 (.load 32 none (.g 5)),
 oo 7 (.load 32 none (.g 6)),
 oo 8 (.load 32 none (.g 7)),
 oo 9 (.load 32 none (.g 8)),
 oo 10 (.load 32 none (.g 9)),
 oo 11 (.load 32 none (.g 10)),
 oo 12 (.load 32 none (.g 11)),
 oo 13 (.load 32 none (.g 12)),
 oo 14 (.load 32 none (.g 13)),
 oo 15 (.load 32 none (.g 14)),
 oo 16 (.load 32 none (.g 15)),
 oo 17 (.load 32 none (.g 16)),
 oo 18 (.load 32 none (.g 17)),
 oo 19 (.load 32 none (.g 18)),
 oo 20 (.load 32 none (.g 19)),
 oo 21 (.load 32 none (.g 20)),
 oo 22 (.bslice 129 32 1 21 [.lit .nilIface] [(0, (.t 1)), (1, (.t 2)), (2, (.t 3)), (3, (.t 4)), (4, (.t 5)), (5, (.t 6)), (6, (.t 7)), (7, (.t 8)), (8, (.t 9)), (9, (.t 10)), (10, (.t 11)), (11, (.t 12)), (12, (.t 13)), (13, (.t 14)), (14, (.t 15)), (15, (.t 16)), (16, (.t 17)), (17, (.t 18)), (18, (.t 19)), (19, (.t 20)), (20, (.t 21))]),
 oo 0 (.asg (.t 22))]
def a5x : IC := (.seq (.reg b4g) (.seq (.reg b3l) .ret))
abbrev b50 : Nat := 82
theorem b0g : fnC pg 82 23 [(.tmp 0)] a5x := a0v Go.Proofs.Tryz.f82 [(.tmp 0)] (by kernel_rfl)
@[go_sem] theorem d34 : fnB pg 82 = true := by kernel_rfl
@[go_sem] def c2g : List AO := [oo 4 (.asg (.c (.bool false)))]
@[go_sem] def c2j : List AO := [om 5 0,
 oo 6 (.bin .eql 32 2 (.t 5) (.c .nilIface) 32),
 om 7 6,
 og 8 (.mv (.t 1)) 2 7 false,
 og 9 (.bin .eql 32 2 (.t 8) (.c .nilIface) 32) 2 7 false,
 oo 10 (.pick (.t 7) (.c (.bool true)) (.t 9))]
@[go_sem] def c11 : List AO := [om 11 0,
 oo 12 (.bin .eql 32 2 (.t 11) (.c .nilIface) 32),
 om 13 12,
 og 14 (.mv (.t 1)) 2 13 true,
 og 15 (.bin .eql 32 2 (.t 14) (.c .nilIface) 32) 2 13 true,
 oo 16 (.pick (.t 13) (.t 15) (.c (.bool false))),
 oo 4 (.asg (.t 16))]
@[go_sem] def c1u : List AO := [om 17 0,
 om 18 1,
 oo 19 (.eqs .eql 32 146 170 (.t 17) (.t 18) 32),
 oo 4 (.asg (.t 19))]
def b1m : IC := (.seq (.reg c2g) (.seq (.seq (.reg c2j) (.cond (.t 10) (.seq (.reg c11) .ret) .skip)) (.seq (.reg c1u) .ret)))
abbrev c3b : Nat := 83
theorem b8t : fnC pg 83 20 [(.tmp 4)] b1m := a0v Go.Proofs.Tryz.f83 [(.tmp 4)] (by kernel_rfl)
@[go_sem] theorem e1s : fnB pg 83 = true := by kernel_rfl
end Go.Ideal.Tryz
end
section
set_option linter.unusedVariables false
set_option linter.unusedSimpArgs false
set_option maxRecDepth 10000
namespace Go.Ideal.Tryz
abbrev li (n : Int) : AV := .lit (.int .i64 n)
abbrev lb (b : Bool) : AV := .lit (.bool b)
abbrev d93 (k : Int) (p : Bool) (n : Int) : AV := .agg [li k, lb p, li n]
theorem e8x (G : Nat → Option Value) : ACalls pg G c6c [] (d93 0 false 0) := by
  refine c1a rfl ?_
  simp (disch := omega) [go_sem, b30]
theorem g3p (G : Nat → Option Value) (a b c d : Int) (e f : Bool) : ACalls pg G b40 [d93 a e b, d93 c f d] (lb (decide (a = c ∧ e = f ∧ b = d))) := by
  refine b09 rfl ?_
  simp (disch := omega) [go_sem, a5w]
  refine d39 ?_ ?_ <;> intro h <;> simp at h <;> simp (disch := omega) [go_sem, h]
  refine d39 ?_ ?_ <;> intro h2 <;> simp at h2 <;> simp (disch := omega) [go_sem, h, h2]
theorem e1o (G : Nat → Option Value) (k n : Int) : ACalls pg G c1l [li k, li n] (if k = 0 then d93 0 false 0 else d93 k true n) := by
  refine b58 rfl ?_
  by_cases h : k = 0 <;> simp (disch := omega) [go_sem, a95, h]
  refine a0g (e8x G) rfl rfl ?_
  simp (disch := omega) [go_sem]
end Go.Ideal.Tryz
end
section
set_option linter.unusedVariables false
set_option linter.unusedSimpArgs false
set_option maxRecDepth 10000
namespace Go.Ideal.Tryz
@[go_sem] abbrev g3r : Nat := 146
@[go_sem] abbrev h8o : Nat := 107
def cn (g : Nat) : Nat := [2, 3, 4, 5, 6, 7, 0, 8, 9, 10, 1, 11, 12, 13, 14, 15, 16, 17, 18, 19, 20].getD g g
def gn (g : Nat) : Nat := [6, 10, 0, 1, 2, 3, 4, 5, 7, 8, 9, 11, 12, 13, 14, 15, 16, 17, 18, 19, 20].getD g g
@[go_sem] theorem h9u : cn 0 = 2 := (rfl)
@[go_sem] theorem h9q : cn 1 = 3 := (rfl)
@[go_sem] theorem h9i : cn 2 = 4 := (rfl)
@[go_sem] theorem h9m : cn 3 = 5 := (rfl)
@[go_sem] theorem h9c : cn 4 = 6 := (rfl)
@[go_sem] theorem h9a : cn 5 = 7 := (rfl)
@[go_sem] theorem h9j : cn 6 = 0 := (rfl)
@[go_sem] theorem h9t : cn 7 = 8 := (rfl)
@[go_sem] theorem h9e : cn 8 = 9 := (rfl)
@[go_sem] theorem h9l : cn 9 = 10 := (rfl)
@[go_sem] theorem h8m : cn 10 = 1 := (rfl)
@[go_sem] theorem h8w : cn 11 = 11 := (rfl)
@[go_sem] theorem h8t : cn 12 = 12 := (rfl)
@[go_sem] theorem h8q : cn 13 = 13 := (rfl)
@[go_sem] theorem h75 : cn 14 = 14 := (rfl)
@[go_sem] theorem h8v : cn 15 = 15 := (rfl)
@[go_sem] theorem h73 : cn 16 = 16 := (rfl)
@[go_sem] theorem h8s : cn 17 = 17 := (rfl)
@[go_sem] theorem h8p : cn 18 = 18 := (rfl)
@[go_sem] theorem h72 : cn 19 = 19 := (rfl)
@[go_sem] theorem h8y : cn 20 = 20 := (rfl)
structure Sent (G : Nat → Option Value) (bk : Nat → Nat × Nat) : Prop where
  val : ∀ g, g < 21 → G g = some (.iface g3r (.pointer (some ⟨(bk (cn g)).1, (bk (cn g)).2, none⟩)))
  blk : ∀ g, g < 21 → (G (bk g).1).isSome = true
  inj : ∀ g h, g < 21 → h < 21 → bk g = bk h → g = h
structure Sent5 (G : Nat → Option Value) (bk : Nat → Nat × Nat) : Prop where
  val : ∀ g, g = 0 ∨ g = 1 ∨ g = 2 ∨ g = 3 ∨ g = 4 → G g = some (.iface g3r (.pointer (some ⟨(bk (cn g)).1, (bk (cn g)).2, none⟩)))
  blk : ∀ g, 2 ≤ g ∧ g ≤ 6 → (G (bk g).1).isSome = true
  inj : ∀ g h, 2 ≤ g ∧ g ≤ 6 → 2 ≤ h ∧ h ≤ 6 → bk g = bk h → g = h
theorem Sent.five {G : Nat → Option Value} {bk : Nat → Nat × Nat} (h : Sent G bk) : Sent5 G bk :=
  ⟨fun g hg => h.val g (by omega), fun g hg => h.blk g (by omega), fun g k hg hk => h.inj g k (by omega) (by omega)⟩
structure Sent3 (G : Nat → Option Value) (bk : Nat → Nat × Nat) : Prop where
  val : ∀ g, g = 0 ∨ g = 1 ∨ g = 4 → G g = some (.iface g3r (.pointer (some ⟨(bk (cn g)).1, (bk (cn g)).2, none⟩)))
theorem Sent5.three {G : Nat → Option Value} {bk : Nat → Nat × Nat} (h : Sent5 G bk) : Sent3 G bk := ⟨fun g hg => h.val g (by omega)⟩
@[go_sem] abbrev sv (bk : Nat → Nat × Nat) (g : Nat) : AV := .lit (.iface g3r (.pointer (some ⟨(bk g).1, (bk g).2, none⟩)))
def a2i : List Nat := [6, 3, 5, 2, 4, 7, 0, 8, 9, 10, 1, 11, 12, 13, 14, 15, 16, 17, 18, 19, 20]
theorem d4h (G : Nat → Option Value) (bk : Nat → Nat × Nat) (hS : Sent G bk) : ACalls pg G b50 [] (.own 1 21 (a2i.map (sv bk))) := by
  refine b0g rfl ?_
  simp (disch := omega) [go_sem, a5x, hS.val]
  rfl
end Go.Ideal.Tryz
end
section
set_option linter.unusedVariables false
set_option linter.unusedSimpArgs false
set_option maxRecDepth 10000
namespace Go.Ideal.Tryz
abbrev slB (xs : List Bool) : AV := .sl xs.length (xs.map lb)
abbrev slI (xs : List Int) : AV := .sl xs.length (xs.map li)
abbrev owI (xs : List Int) : AV := .own 1 xs.length (xs.map li)
abbrev owB (xs : List Bool) : AV := .own 1 xs.length (xs.map lb)
abbrev h7x (xs : List (List Int)) : AV := .sl xs.length (xs.map slI)
abbrev h8g (xs : List (List Int)) : AV := .own 1 xs.length (xs.map owI)
attribute [go_sem] slB slI owI owB h7x h8g
@[go_sem] theorem b9g (xs : List Int) : a1e (xs.map li) = true := b4r fun x => by simp only [a0w]
@[go_sem] theorem g3m (xs : List Bool) : a1e (xs.map lb) = true := b4r fun x => by simp only [a0w]
@[go_sem] theorem f8y (xs : List Int) : a0j (xs.map li) = true := c1m fun x => by simp only [a0l]
@[go_sem] theorem f81 (xs : List Bool) : a0j (xs.map lb) = true := c1m fun x => by simp only [a0l]
end Go.Ideal.Tryz
end
