/- Part Pv of the proof: a machine with trees for values, its soundness, and walks on it. -/
import Derived.Test.YtfdhkijgolgnfaaGreatDoorPu
import Derived.Test.YtfdhkijgolgnfaaGreatDoorPo
section
set_option linter.unusedVariables false
set_option maxRecDepth 10000
namespace Go.Ideal.Tryz
@[go_sem] def b2b : List AO := [oo 2 (.box 27 7 (.t 0)),
 oo 4 (.asg (.c (.bool false)))]
@[go_sem] def b2d : List AO := [oc 21 4 [] [],
 oo 5 (.asg (.t 21))]
@[go_sem] def b2j : List AO := [om 22 5,
 oo 23 (.un .not 4 (.t 22))]
@[go_sem] def b2a : List AO := [oo 4 (.asg (.c (.bool false)))]
@[go_sem] def b2f : List AO := [oo 24 (.load 27 (some 7) (.t 2)),
 oc 25 5 [(false, (.t 24))] [27],
 oo 26 (.un .not 4 (.t 25)),
 om 27 26,
 og 28 (.mv (.t 5)) 3 27 false,
 og 29 (.un .not 4 (.t 28)) 3 27 false,
 oo 30 (.pick (.t 27) (.c (.bool true)) (.t 29))]
@[go_sem] def b2i : List AO := [om 31 5,
 oo 4 (.asg (.t 31))]
@[go_sem] def b2e : List AO := [oo 33 (.load 27 (some 7) (.t 2)),
 oc 34 6 [(false, (.t 33))] [27],
 oo 32 (.mva (.t 34)),
 oo 35 (.ext (.t 32) 0),
 oo 36 (.ext (.t 32) 1),
 oo 6 (.asg (.t 35)),
 oo 7 (.asg (.t 36))]
@[go_sem] def b1u : List AO := [om 37 7,
 oo 38 (.bin .neq 32 2 (.t 37) (.c .nilIface) 32)]
@[go_sem] def b1r : List AO := [om 39 6,
 oo 40 (.len 30 false (.t 39)),
 oo 41 (.bin .eql 3 0 (.t 40) (.n 0) 3),
 oo 4 (.asg (.t 41))]
@[go_sem] def b2k : List AO := [om 43 6,
 oc 44 7 [(false, (.t 43))] [30],
 oo 42 (.mva (.t 44)),
 oo 45 (.ext (.t 42) 0),
 oo 46 (.ext (.t 42) 1),
 oo 8 (.alloc 27 [.lit (.int .i64 0), .own 3 0 [], .own 3 0 [], .own 2 0 [], .own 6 0 [], .lit (.int .i64 0), .lit (.int .i64 0)]),
 ov (.store 27 7 (.t 8) (.t 45)),
 oo 9 (.asg (.t 46))]
@[go_sem] def b0c : List AO := [om 48 6,
 oc 49 8 [(false, (.t 48))] [30],
 oo 50 (.bslice 30 5 1 1 [.lit (.int .u8 0)] [(0, (.c (.int .u8 (0))))]),
 oo 51 (.app 30 5 1 1 (.t 49) (.t 50)),
 oc 52 7 [(false, (.t 51))] [30],
 oo 47 (.mva (.t 52)),
 oo 53 (.ext (.t 47) 0),
 oo 54 (.ext (.t 47) 1),
 oo 10 (.alloc 27 [.lit (.int .i64 0), .own 3 0 [], .own 3 0 [], .own 2 0 [], .own 6 0 [], .lit (.int .i64 0), .lit (.int .i64 0)]),
 ov (.store 27 7 (.t 10) (.t 53)),
 oo 11 (.asg (.t 54))]
@[go_sem] def b02 : List AO := [om 55 1,
 om 56 6,
 oo 57 (.len 30 false (.t 56)),
 oc 58 9 [(false, (.t 55)), (false, (.t 57))] [3, 3],
 oo 12 (.asg (.t 58))]
@[go_sem] def b0u : List AO := [om 60 6,
 om 61 12,
 oo 62 (.slice 30 1 (.t 60) none (some (.t 61)) none),
 oc 63 7 [(false, (.t 62))] [30],
 oo 59 (.mva (.t 63)),
 oo 64 (.ext (.t 59) 0),
 oo 65 (.ext (.t 59) 1),
 oo 13 (.alloc 27 [.lit (.int .i64 0), .own 3 0 [], .own 3 0 [], .own 2 0 [], .own 6 0 [], .lit (.int .i64 0), .lit (.int .i64 0)]),
 ov (.store 27 7 (.t 13) (.t 64)),
 oo 14 (.asg (.t 65))]
@[go_sem] def b0y : List AO := [om 66 9,
 oo 67 (.bin .neq 32 2 (.t 66) (.c .nilIface) 32),
 om 68 67,
 og 69 (.load 27 (some 7) (.t 2)) 2 68 false,
 og 70 (.load 27 (some 7) (.t 8)) 2 68 false,
 ⟨(some 71), .call 10 [(false, (.t 69)), (false, (.t 70))] [27, 27], (some (2, 68, false))⟩,
 og 72 (.un .not 4 (.t 71)) 2 68 false,
 oo 73 (.pick (.t 68) (.c (.bool true)) (.t 72)),
 om 74 73,
 og 75 (.mv (.t 11)) 8 74 false,
 og 76 (.mv (.t 6)) 8 74 false,
 og 77 (.len 30 false (.t 76)) 8 74 false,
 ⟨(some 78), .call 12 [(false, (.n 104)), (false, (.t 77))] [3, 3], (some (8, 74, false))⟩,
 ⟨(some 79), .call 11 [(false, (.t 75)), (false, (.t 78))] [32, 42], (some (8, 74, false))⟩,
 og 80 (.un .not 4 (.t 79)) 8 74 false,
 oo 81 (.pick (.t 74) (.c (.bool true)) (.t 80)),
 om 82 81,
 og 83 (.mv (.t 14)) 16 82 false,
 ⟨(some 84), .call 13 [(false, (.t 83)), (false, (.n 105))] [32, 3], (some (16, 82, false))⟩,
 og 85 (.un .not 4 (.t 84)) 16 82 false,
 oo 86 (.pick (.t 82) (.c (.bool true)) (.t 85))]
@[go_sem] def b0n : List AO := [oo 4 (.asg (.c (.bool false)))]
@[go_sem] def b1g : List AO := [oo 88 (.faddr 27 4 (.t 2) 4),
 oo 89 (.load 25 none (.t 88)),
 oc 90 14 [(false, (.t 89))] [25],
 oo 87 (.mva (.t 90)),
 oo 91 (.ext (.t 87) 0),
 oo 92 (.ext (.t 87) 1),
 oo 15 (.asg (.t 91)),
 oo 16 (.asg (.t 92))]
@[go_sem] def b01 : List AO := [om 93 16,
 oo 94 (.bin .neq 32 2 (.t 93) (.c .nilIface) 32)]
@[go_sem] def b0i : List AO := [oo 4 (.asg (.c (.bool false)))]
@[go_sem] def b1i : List AO := [oo 17 (.asg (.n 0))]
@[go_sem] def b0w : List AO := [om 95 17,
 oo 96 (.faddr 27 4 (.t 2) 4),
 oo 97 (.load 25 none (.t 96)),
 oo 98 (.len 25 false (.t 97)),
 oo 99 (.bin .lss 3 0 (.t 95) (.t 98) 3)]
@[go_sem] def b0b : List AO := [om 103 15,
 oc 104 15 [(false, (.t 103))] [30],
 oo 102 (.mva (.t 104)),
 oo 105 (.ext (.t 102) 0),
 oo 106 (.ext (.t 102) 1),
 oo 107 (.ext (.t 102) 2),
 oo 18 (.alloc 48 [.lit (.int .i64 0), .lit (.int .i64 0), .own 1 0 [], .own 1 0 [], .lit (.int .i64 0), .lit (.int .i64 0)]),
 ov (.store 48 6 (.t 18) (.t 105)),
 oo 19 (.asg (.t 106)),
 oo 20 (.asg (.t 107))]
@[go_sem] def b0z : List AO := [om 108 20,
 oo 109 (.bin .neq 32 2 (.t 108) (.c .nilIface) 32),
 om 110 109,
 og 111 (.mv (.t 19)) 2 110 false,
 og 112 (.bin .lss 3 0 (.t 111) (.n 1) 3) 2 110 false,
 oo 113 (.pick (.t 110) (.c (.bool true)) (.t 112)),
 om 114 113,
 og 115 (.mv (.t 19)) 6 114 false,
 og 116 (.mv (.t 15)) 6 114 false,
 og 117 (.len 30 false (.t 116)) 6 114 false,
 og 118 (.bin .gtr 3 0 (.t 115) (.t 117) 3) 6 114 false,
 oo 119 (.pick (.t 114) (.c (.bool true)) (.t 118)),
 om 120 119,
 og 121 (.load 48 (some 6) (.t 18)) 12 120 false,
 og 122 (.faddr 27 4 (.t 2) 4) 12 120 false,
 og 123 (.load 25 none (.t 122)) 12 120 false,
 og 124 (.mv (.t 17)) 12 120 false,
 og 125 (.iaddr 25 6 (.t 123) (.t 124)) 12 120 false,
 og 126 (.load 48 (some 6) (.t 125)) 12 120 false,
 ⟨(some 127), .call 16 [(false, (.t 121)), (false, (.t 126))] [48, 48], (some (12, 120, false))⟩,
 og 128 (.un .not 4 (.t 127)) 12 120 false,
 oo 129 (.pick (.t 120) (.c (.bool true)) (.t 128))]
@[go_sem] def b08 : List AO := [oo 4 (.asg (.c (.bool false)))]
@[go_sem] def b1c : List AO := [om 130 15,
 om 131 19,
 oo 132 (.slice 30 1 (.t 130) (some (.t 131)) none none),
 oo 15 (.asg (.t 132))]
@[go_sem] def b0v : List AO := [om 100 17,
 oo 101 (.bin .add 3 0 (.t 100) (.n 1) 3),
 oo 17 (.asg (.t 101))]
def a1w : IC := (.seq (.seq (.reg b0w) (.cond (.t 99) .skip (.exit 0))) (.seq (.block 1 (.seq (.reg b0b) (.seq (.seq (.draw b0z [[], [0], [1], [2], [3, 2], [2, 4], [5, 2], [6], [6], [8, 6], [7, 9, 6], [6, 10], [11, 6], [12], [12], [14, 12], [12], [15, 16, 12], [17, 12], [13, 18, 12, 12], [19, 12], [12, 20]]) (.cond (.t 129) (.seq (.reg b08) .ret) .skip)) (.reg b1c)))) (.reg b0v)))
@[go_sem] def b0q : List AO := [om 133 15,
 oo 134 (.len 30 false (.t 133)),
 oo 135 (.bin .eql 3 0 (.t 134) (.n 0) 3),
 oo 4 (.asg (.t 135))]
def a48 : IC := (.seq (.reg b2b) (.seq (.reg b2d) (.seq (.seq (.reg b2j) (.cond (.t 23) (.seq (.reg b2a) .ret) .skip)) (.seq (.seq (.reg b2f) (.cond (.t 30) (.seq (.reg b2i) .ret) .skip)) (.seq (.reg b2e) (.seq (.seq (.reg b1u) (.cond (.t 38) (.seq (.reg b1r) .ret) .skip)) (.seq (.reg b2k) (.seq (.reg b0c) (.seq (.reg b02) (.seq (.reg b0u) (.seq (.seq (.reg b0y) (.cond (.t 86) (.seq (.reg b0n) .ret) .skip)) (.seq (.reg b1g) (.seq (.seq (.reg b01) (.cond (.t 94) (.seq (.reg b0i) .ret) .skip)) (.seq (.seq (.reg b1i) (.block 0 (.loop a1w))) (.seq (.reg b0q) .ret)))))))))))))))
abbrev b31 : Nat := 3
theorem a9g : fnC pg 3 136 [(.tmp 4)] a48 := a0v Go.Proofs.Tryz.f3 [(.tmp 4)] (by kernel_rfl)
@[go_sem] theorem d3g : fnB pg 3 = true := by kernel_rfl
@[go_sem] def d7m : List AO := [oo 2 (.asg (.nl 1)),
 oo 3 (.asg (.c .nilIface))]
@[go_sem] def d7f : List AO := [om 7 0,
 ⟨(some 8), .callx (.f 45) [(false, (.t 7))] [.p 0, .x (.f 46)] [25, 91], none⟩]
@[go_sem] def d6g : List AO := [oo 9 (.load 32 none (.g 0)),
 oo 2 (.asg (.nl 1)),
 oo 3 (.asg (.t 9))]
@[go_sem] def d64 : List AO := [om 10 0,
 ⟨(some 11), .callx (.f 45) [(false, (.t 10))] [.p 0, .x (.f 47)] [25, 91], none⟩]
@[go_sem] def d70 : List AO := [oo 12 (.load 32 none (.g 1)),
 oo 2 (.asg (.nl 1)),
 oo 3 (.asg (.t 12))]
@[go_sem] def d7k : List AO := [oo 13 (.build 62 [.own 1 0 []] []),
 oo 14 (.box 62 1 (.t 13)),
 oo 4 (.asg (.t 14))]
@[go_sem] def d6r : List AO := [om 15 0,
 oo 16 (.len 25 false (.t 15)),
 oo 17 (.mv (.n 0))]
@[go_sem] def d76 : List AO := [oo 18 (.bin .lss 3 0 (.t 17) (.t 16) 3)]
@[go_sem] def d62 : List AO := [oo 19 (.iaddr 25 6 (.t 15) (.t 17)),
 oo 20 (.load 48 (some 6) (.t 19)),
 oo 6 (.alloc 48 [.lit (.int .i64 0), .lit (.int .i64 0), .own 1 0 [], .own 1 0 [], .lit (.int .i64 0), .lit (.int .i64 0)]),
 ov (.store 48 6 (.t 6) (.t 20))]
@[go_sem] def d7q : List AO := [om 21 4,
 oo 22 (.load 48 (some 6) (.t 6)),
 ⟨(some 23), .callx (.f 24) [(false, (.t 22))] [.x (.t 21), .p 0] [60, 48], none⟩]
@[go_sem] def d0w : List AO := [oo 24 (.bin .add 3 0 (.t 17) (.n 1) 3),
 om 17 24]
def a7k : IC := (.seq (.reg d76) (.seq (.cond (.t 18) .skip (.exit 0)) (.seq (.block 1 (.seq (.reg d62) (.reg d7q))) (.reg d0w))))
@[go_sem] def d02 : List AO := [om 25 4,
 oo 26 (.nilck (.t 25)),
 oo 27 (.faddr 62 0 (.t 26) 0),
 oo 28 (.load 30 none (.t 27)),
 oo 2 (.asg (.t 28)),
 oo 3 (.asg (.c .nilIface))]
def c47 : IC := (.seq (.reg d7m) (.seq (.seq (.reg d7f) (.cond (.t 8) (.seq (.draw d6g [[], [], [0, 1, 0, 1]]) .ret) .skip)) (.seq (.seq (.reg d64) (.cond (.t 11) (.seq (.draw d70 [[], [], [0, 1, 0, 1]]) .ret) .skip)) (.seq (.reg d7k) (.seq (.seq (.reg d6r) (.block 0 (.loop a7k))) (.seq (.reg d02) .ret))))))
abbrev d9n : Nat := 14
theorem c6u : fnC pg 14 29 [(.tmp 2), (.tmp 3)] c47 := a0v Go.Proofs.Tryz.f14 [(.tmp 2), (.tmp 3)] (by kernel_rfl)
@[go_sem] theorem e61 : fnB pg 14 = true := by kernel_rfl
@[go_sem] def c63 : List AO := [oo 1 (.box 48 6 (.t 0)),
 oo 2 (.asg (.c (.bool false)))]
@[go_sem] def c64 : List AO := [oo 3 (.load 48 (some 6) (.t 1)),
 oc 4 48 [(false, (.t 3))] [48],
 oo 5 (.un .not 4 (.t 4)),
 oo 2 (.asg (.t 5))]
def b87 : IC := (.seq (.reg c63) (.seq (.reg c64) .ret))
abbrev c0l : Nat := 47
theorem c3m : fnC pg 47 6 [(.tmp 2)] b87 := a0v Go.Proofs.Tryz.f47 [(.tmp 2)] (by kernel_rfl)
@[go_sem] theorem c36 : fnB pg 47 = true := by kernel_rfl
@[go_sem] def d3m : List AO := [oo 2 (.alloc 48 [.lit (.int .i64 0), .lit (.int .i64 0), .own 1 0 [], .own 1 0 [], .lit (.int .i64 0), .lit (.int .i64 0)]),
 oo 3 (.asg (.n 0)),
 oo 4 (.asg (.c .nilIface))]
@[go_sem] def d22 : List AO := [om 7 0,
 oo 8 (.build 71 [.own 1 0 [], .lit (.int .i64 0), .lit .nilIface] [(0, 0, 1, (.t 7))]),
 oo 9 (.box 71 3 (.t 8)),
 oo 5 (.asg (.t 9))]
@[go_sem] def d27 : List AO := [om 10 5,
 ⟨(some 11), .callx (.f 31) [] [.x (.t 10)] [69], none⟩,
 oo 6 (.alloc 48 [.lit (.int .i64 0), .lit (.int .i64 0), .own 1 0 [], .own 1 0 [], .lit (.int .i64 0), .lit (.int .i64 0)]),
 ov (.store 48 6 (.t 6) (.t 11))]
@[go_sem] def d2c : List AO := [om 12 5,
 oo 13 (.nilck (.t 12)),
 oo 14 (.faddr 71 2 (.t 13) 2),
 oo 15 (.load 32 none (.t 14)),
 oo 16 (.bin .neq 32 2 (.t 15) (.c .nilIface) 32)]
@[go_sem] def d0b : List AO := [oo 17 (.build 48 [.lit (.int .i64 0), .lit (.int .i64 0), .sl 0 [], .sl 0 [], .lit (.int .i64 0), .lit (.int .i64 0)] []),
 om 18 5,
 oo 19 (.nilck (.t 18)),
 oo 20 (.faddr 71 2 (.t 19) 2),
 oo 21 (.load 32 none (.t 20)),
 ov (.store 48 6 (.t 2) (.t 17)),
 oo 3 (.asg (.n 0)),
 oo 4 (.asg (.t 21))]
@[go_sem] def d15 : List AO := [oo 22 (.load 48 (some 6) (.t 6)),
 om 23 5,
 oo 24 (.nilck (.t 23)),
 oo 25 (.faddr 71 1 (.t 24) 1),
 oo 26 (.load 3 none (.t 25)),
 ov (.store 48 6 (.t 2) (.t 22)),
 oo 3 (.asg (.t 26)),
 oo 4 (.asg (.c .nilIface))]
def c2n : IC := (.seq (.reg d3m) (.seq (.reg d22) (.seq (.reg d27) (.seq (.seq (.reg d2c) (.cond (.t 16) (.seq (.draw d0b [[], [], [1], [2], [3], [0, 0], [5, 0, 5], [4, 6, 0, 1, 2, 3, 4, 5, 6]]) .ret) .skip)) (.seq (.draw d15 [[], [], [1], [2], [3], [0, 0], [4, 5, 0, 1, 2, 3, 4, 5], [6, 0, 1, 2, 3, 4, 5, 6]]) .ret)))))
abbrev d6p : Nat := 15
theorem c5i : fnC pg 15 27 [(.cells 2 6), (.tmp 3), (.tmp 4)] c2n := a0v Go.Proofs.Tryz.f15 [(.cell 2 48), (.tmp 3), (.tmp 4)] (by kernel_rfl)
@[go_sem] theorem e6e : fnB pg 15 = true := by kernel_rfl
end Go.Ideal.Tryz
end
section
set_option linter.unusedVariables false
set_option linter.unusedSimpArgs false
set_option maxRecDepth 10000
namespace Go.Ideal.Tryz
section
variable {G : Nat → Option Value} {bk : Nat → Nat × Nat} {Q : Exit → St → Prop} {st : St}
theorem f8i (v : In) (h1 : v.ins.length < 2 ^ 37) (h2 : v.args.length < 2 ^ 37) : ACalls pg G c0l [.agg (eI v)] (lb (!b39 v)) := by
  refine c3m rfl ?_
  simp (disch := omega) [go_sem, b87, eI]
  refine a0g (e48 v h1 h2) rfl rfl ?_
  simp (disch := omega) [go_sem]
theorem c10 {v : In} (h : e30 v) : (a03 v).length ≤ 100 ∧ 1 ≤ (a03 v).length := by
  obtain ⟨o1, o2, o3, o4, o5, o6⟩ := h
  have q1 := a04 v.ins
  have q2 := a04 v.args
  have q3 := a07 true v.dst
  have q4 := a07 true v.frm
  have q5 := a07 true v.to
  unfold a03
  simp only [List.length_append, List.length_cons, List.length_nil]
  omega
theorem d9e {l : List In} (h : ∀ v ∈ l, e30 v) : (l.flatMap a03).length ≤ 100 * l.length := a23 fun v hv => (c10 (h v hv)).1
theorem f1n {l : List In} (h1 : l.length ≤ 2048) (hv : ∀ v ∈ l, e30 v) (h : st.s 4 = .var [owU []] ∧ st.s 15 = slJ l ∧ st.s 16 = li l.length ∧ st.s 17 = li 0)
    (hex : ∀ s b, b = l.flatMap a03 → s.s 4 = .var [owU b] → Q (.exit 0) s) : AW pg G 29 (.loop a7k) Q st := by
  refine a0u (Nat × List Int) (fun q st => q.1 ≤ l.length ∧ q.2 ++ (l.drop q.1).flatMap a03 = l.flatMap a03 ∧ q.2.length ≤ 100 * q.1 ∧ st.s 4 = .var [owU q.2] ∧ st.s 15 = slJ l ∧ st.s 16 = li l.length ∧ st.s 17 = li q.1) (fun q => l.length - q.1) (0, []) ⟨by simp, rfl, by simp, h⟩ ?_
  clear h
  rintro ⟨i, b⟩ st K ⟨hi, hm, hl, h⟩ hK
  simp only at hi hm hl h
  by_cases hlt : i < l.length
  · rw [List.drop_eq_getElem_cons hlt, List.flatMap_cons, ← List.append_assoc] at hm
    have hil := (c10 (hv _ (List.getElem_mem hlt))).1
    obtain ⟨o1, o2, o3, o4, o5, o6⟩ := hv _ (List.getElem_mem hlt)
    have cw := e1b (G := G) b l[i] (by omega) o3.1 o4.1 o1
    simp (disch := omega) [go_sem, a7k, h, hlt]
    refine a0o cw rfl rfl rfl (c6i _) ?_
    simp (disch := omega) [go_sem, h]
    exact hK (i + 1, b ++ a03 l[i]) _ ⟨by simp only; omega, hm, by simp only [List.length_append]; omega, by simp (disch := omega) [go_sem, h]⟩ (by simp only; omega)
  · obtain rfl : i = l.length := by omega
    rw [List.drop_length] at hm
    simp only [List.flatMap_nil, List.append_nil] at hm
    simp (disch := omega) [go_sem, a7k, h]
    exact hex _ _ hm (by simp (disch := omega) [go_sem, h])
theorem f0c {l : List In} (h1 : l.length ≤ 2048) (hv : ∀ v ∈ l, e30 v) : ACalls pg G d9n [slJ l] (.tup [slU (l.flatMap a03), .lit .nilIface]) := by
  refine c6u rfl ?_
  have hsh : ∀ x ∈ l, x.ins.length < 2 ^ 37 ∧ x.args.length < 2 ^ 37 := fun x hx => by
    obtain ⟨-, -, a, b, -⟩ := hv x hx; have := a.1; have := b.1; omega
  have c1 := b1j (G := G) (f := c55) c06 (p := d6i) l (fun x hx => (e0z x (hsh x hx).1 (hsh x hx).2).toX (by simp [a0k])) (by omega)
  have c2 := b1j (G := G) (f := c0l) c36 (p := fun v => !b39 v) l (fun x hx => (f8i x (hsh x hx).1 (hsh x hx).2).toX (by simp [a0k])) (by omega)
  have e1 : l.any d6i = false := by
    rw [List.any_eq_false]; intro x hx; rw [((b9e x).1 (hv x hx)).1]; simp
  have e2 : l.any (fun v => !b39 v) = false := by
    rw [List.any_eq_false]; intro x hx; rw [((b9e x).1 (hv x hx)).2]; simp
  rw [e1] at c1
  rw [e2] at c2
  simp (disch := omega) [go_sem, c47]
  refine a0o c1 rfl rfl rfl rfl ?_
  simp (disch := omega) [go_sem]
  refine a0o c2 rfl rfl rfl rfl ?_
  simp (disch := omega) [go_sem]
  refine f1n h1 hv (by simp (disch := omega) [go_sem]) fun s b hb h => ?_
  rw [← hb]
  simp (disch := omega) [go_sem, h]
theorem f0w (hS : Sent5 G bk) {b : List Int} (hB : a1l b) (hl : b.length < 2 ^ 40) {v : In} {m : Nat} (hr : a3z b ⟨0, .nil⟩ = (v, ⟨m, .nil⟩)) : ACalls pg G d6p [slU b] (.tup [.agg (eI v), li m, .lit .nilIface]) := by
  refine c5i rfl ?_
  have c := e5b (G := G) hS hB hl ⟨0, .nil⟩ (by simp)
  rw [hr] at c
  simp (disch := omega) [go_sem, c2n]
  refine a0z c rfl rfl rfl (by simp (disch := omega) [go_sem, a1j]) ?_
  simp (disch := omega) [go_sem, a1j, eI]
  refine a1r ?_
  simp (disch := omega) [go_sem]
  refine a1q (by decide) fun s2 hs he => ?_
  simp (disch := omega) [go_sem, hs]
theorem h71 {l : List In} {i : Nat} (h : i < l.length) : (l.drop i).flatMap a03 = a03 l[i] ++ (l.drop (i + 1)).flatMap a03 := by
  rw [List.drop_eq_getElem_cons h, List.flatMap_cons]
theorem d5x {p : Pl} (h : ∀ v ∈ p.code, e30 v) (i : Nat) : a1l ((p.code.drop i).flatMap a03) := by
  refine a12 fun v hv => ?_
  have ho := (h v (List.mem_of_mem_drop hv)).1
  unfold a03
  refine a0t (fun x hx => ?_) (a0t (a1h _ _) (a0t (a0t (a := [_]) (b4n _) (a12 fun k _ => a1h _ k)) (a0t (a0t (a := [_]) (b4n _) (a12 fun k _ => a1h _ k)) (a0t (a1h _ _) (a1h _ _)))))
  simp only [List.mem_singleton] at hx
  rw [hx]; exact ho
theorem f0b (hS : Sent5 G bk) {p : Pl} (h1 : p.code.length ≤ 2048) (hv : ∀ v ∈ p.code, e30 v) (h : st.s 2 = .var (eP p) ∧ st.s 15 = slU (p.code.flatMap a03) ∧ st.s 17 = li 0)
    (hex : ∀ s, s.s 15 = slU [] → Q (.exit 0) s) : AW pg G 136 (.loop a1w) Q st := by
  refine a0u Nat (fun i st => i ≤ p.code.length ∧ st.s 2 = .var (eP p) ∧ st.s 15 = slU ((p.code.drop i).flatMap a03) ∧ st.s 17 = li i) (fun i => p.code.length - i) 0 ⟨by simp, by simp (disch := omega) [go_sem, h]⟩ ?_
  clear h
  rintro i st K ⟨hi, h⟩ hK
  by_cases hlt : i < p.code.length
  · have hok := hv _ (List.getElem_mem hlt)
    have hil := c10 hok
    obtain ⟨o1, o2, o3, o4, o5, o6⟩ := id hok
    have hB := d5x hv i
    have hB2 := d9e (l := p.code.drop (i + 1)) fun v hm => hv v (List.mem_of_mem_drop hm)
    have hdl : (p.code.drop (i + 1)).length ≤ 2048 := by simp; omega
    have hsu := h71 hlt
    rw [hsu] at h hB
    generalize hrr : (p.code.drop (i + 1)).flatMap a03 = r at *
    have hr : a3z (a03 p.code[i] ++ r) ⟨0, .nil⟩ = (p.code[i], ⟨(a03 p.code[i]).length, .nil⟩) := by
      have := d6k.comp (a03 p.code[i] ++ r) 0 p.code[i] r hok (by simp)
      simpa using this
    have c := f0w (G := G) hS hB (by simp only [List.length_append]; omega) hr
    have c2 := e40 (G := G) p.code[i] p.code[i] (by omega) (by omega)
    have hl2 : (a03 p.code[i] ++ r).length - (a03 p.code[i]).length = r.length := by simp
    have hdr : (a03 p.code[i] ++ r).drop (a03 p.code[i]).length = r := by simp
    have hle : (a03 p.code[i]).length ≤ (a03 p.code[i] ++ r).length := by simp
    have hdr2 : List.drop (a03 p.code[i]).length (List.map lu (a03 p.code[i] ++ r)) = r.map lu := by rw [← List.map_drop, hdr]
    generalize a03 p.code[i] ++ r = b at *
    generalize (a03 p.code[i]).length = m at *
    have n1 : ¬ (m : Int) < 1 := by omega
    have n2 : ¬ (b.length : Int) < m := by omega
    simp (disch := omega) [go_sem, a1w, h, hlt, eP]
    refine a3b c rfl (by simp (disch := omega) [go_sem, h]) ?_
    simp (disch := omega) [go_sem, h, eI]
    refine a1r ?_
    simp (disch := omega) [go_sem, h, n1, n2, hlt, eP, eI]
    refine a16 c2 rfl rfl (by simp (disch := omega) [go_sem]) [127] (by simp) (by simp (disch := omega) [go_sem, h, eI, eP, hlt]) ?_
    simp (disch := omega) [go_sem]
    refine a1q (by decide) fun s2 hs he => ?_
    simp (disch := omega) [go_sem, hs, h, hl2, hdr2]
    exact hK (i + 1) _ ⟨by omega, by rw [hrr]; simp (disch := omega) [go_sem, hs, h, eP]⟩ (by omega)
  · obtain rfl : i = p.code.length := by omega
    rw [List.drop_length] at h
    simp (disch := omega) [go_sem, a1w, h, eP]
    exact hex _ (by simp (disch := omega) [go_sem, h])
theorem e5v (hS : Sent G bk) (p : Pl) (c : Int) (hf : p.fin) : ACalls pg G b31 [.agg (eP p), li c] (lb true) := by
  refine a9g rfl ?_
  have cw := e93 (G := G) p hf
  simp (disch := omega) [go_sem, a48, eP]
  refine a0g (f0m hS.five.three) rfl rfl ?_
  cases hw : c38 p with
  | false =>
    rw [hw] at cw
    simp (disch := omega) [go_sem]
    refine a0g cw rfl rfl ?_
    simp (disch := omega) [go_sem]
  | true =>
  rw [hw] at cw
  simp (disch := omega) [go_sem]
  refine a0g cw rfl rfl ?_
  have hsh : ∀ x ∈ p.code, x.ins.length < 2 ^ 37 ∧ x.args.length < 2 ^ 37 := by
    unfold c38 at hw
    simp only [Bool.and_eq_true, List.all_eq_true] at hw
    intro x hx
    have := hw.2 x hx
    simp only [a6f, Bool.and_eq_true, decide_eq_true_eq] at this
    omega
  by_cases hge : b71 p = .nil
  · have hA := e0x (G := G) hS.five.three p hf hsh hge
    have hok := (b4m p).1 hge
    have hbB := d42 hok
    have hbl := d45 hok
    have hb1 : 2 ≤ (a4c p).length := by simp [a4c]
    have hrb := d9z (G := G) hS.five hbB (by omega)
    rw [e5q hge] at hrb
    have hcut := fun k hk => e8e (p := p) hge (k := k) hk
    have hlong := e5f (p := p) 0 hge
    have hsm := f01 (G := G) p p hf hf
    obtain ⟨-, -, -, -, ⟨i1, i2⟩, -⟩ := hok
    have hcd := f0c (G := G) i1 i2
    have hlp := fun {Q : Exit → St → Prop} {st : St} => f0b (G := G) (Q := Q) (st := st) hS.five i1 i2
    generalize a4c p = bs at *
    simp (disch := omega) [go_sem]
    refine a3b hA rfl (by simp (disch := omega) [go_sem]) ?_
    simp (disch := omega) [go_sem]
    refine a3b hrb (by simp [go_sem, eP]) (by simp (disch := omega) [go_sem]) ?_
    simp (disch := omega) [go_sem, a1j, eP]
    refine a0g (e73 bs (by omega)) rfl (b3i _) ?_
    have h7B : a1l (bs ++ [0]) := a0t hbB (by intro x hx; simp at hx; omega)
    have hr3 := d9z (G := G) hS.five h7B (by simp; omega)
    generalize c5x (bs ++ [0]) = p3 at *
    obtain ⟨g3, e3⟩ := p3
    simp only at hlong
    subst hlong
    have h7 : AV.sl (bs.length + 1) (a1n (List.map lu bs ++ [AV.lit (Value.int IntKind.u8 0)])) = slU (bs ++ [0]) := by
      have e : List.map lu bs ++ [AV.lit (Value.int IntKind.u8 0)] = (bs ++ [0]).map lu := by simp
      rw [e, d1u, List.map_map]
      simp [frz]
    simp (disch := omega) [go_sem, h7]
    refine e5o hr3 (by simp [go_sem, eP]) ?_ ?_
    all_goals
      simp (disch := omega) [go_sem, eP]
      refine a0g (e7r c bs.length (by omega) (by omega)) rfl rfl ?_
      obtain ⟨r1, r2⟩ := e7y (n := c) (m := bs.length) (by omega)
      obtain ⟨k, hk⟩ := Int.eq_ofNat_of_zero_le r1
      rw [hk] at r2 ⊢
      have hk2 : k < bs.length := by omega
      have htl : (bs.take k).length = k := by simp; omega
      have htB : a1l (bs.take k) := fun x hx => hbB x (List.mem_of_mem_take hx)
      have htk : AV.sl k (List.take k (List.map lu bs)) = slU (bs.take k) := by show _ = AV.sl (bs.take k).length _; rw [htl, List.map_take]
      have hr2 := d9z (G := G) hS.five htB (by omega)
      have hc := hcut k hk2
      generalize c5x (bs.take k) = p2 at *
      obtain ⟨g2, e2⟩ := p2
      simp only at hc
      subst hc
      simp (disch := omega) [go_sem, hk2, htk]
      refine a3b hr2 (by simp [go_sem, eP]) (by simp (disch := omega) [go_sem]) ?_
      simp (disch := omega) [go_sem, eP]
      refine a0g hsm rfl rfl ?_
      simp (disch := omega) [go_sem]
      refine a0g (e1o G 104 bs.length) rfl rfl ?_
      simp (disch := omega) [go_sem]
      refine a3b (e9g hS (e := .at bs.length (.s 2)) (.at (by decide)) (104, true, bs.length)) rfl (by simp (disch := omega) [go_sem]) ?_
      simp (disch := omega) [go_sem, Er.flt, show c2x 2 = 104 from rfl]
      refine a3b (h85 hS (e := .s 4) (.s (by decide)) 105) rfl (by simp (disch := omega) [go_sem]) ?_
      simp (disch := omega) [go_sem, Er.flt, show c2x 4 = 105 from rfl]
      refine a3b hcd rfl (by simp (disch := omega) [go_sem]) ?_
      simp (disch := omega) [go_sem]
      refine hlp (by simp (disch := omega) [go_sem, eP]) fun s h => ?_
      simp (disch := omega) [go_sem, h]
  · have hA := e51 (G := G) hS.five.three p hf hsh hge
    simp (disch := omega) [go_sem]
    refine a3b hA (by simp [go_sem]) (by simp (disch := omega) [go_sem]) ?_
    have hnn : (b71 p).isNil = false := by
      cases h : (b71 p).isNil
      · rfl
      · exact absurd (a2x.1 h) hge
    simp (disch := omega) [go_sem, hnn]
end
end Go.Ideal.Tryz
end
