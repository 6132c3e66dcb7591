/- Part Pk of the proof: a machine with trees for values, its soundness, and walks on it. -/
import Derived.Test.YtfdhkijgolgnfaaDoorPj
import Derived.Test.YtfdhkijgolgnfaaDoorPh
import Derived.WalkKit
import Derived.LaidEql
import Derived.Stop.Asserts
import Derived.RowKitTokens
section
set_option linter.unusedVariables false
set_option maxRecDepth 10000
namespace Go.Ideal.Tryd
@[go_sem] def b2f : List AO := [oo 0 (.asg (.c (.bool false)))]
@[go_sem] def b2h : List AO := [oo 4 (.build 65 [.lit (.int .i64 0), .sl 0 [], .sl 0 [], .sl 0 [], .sl 0 [], .lit (.int .i64 0), .lit (.int .i64 0)] []),
 oc 5 43 [(false, (.t 4))] [65],
 oo 3 (.mva (.t 5)),
 oo 6 (.ext (.t 3) 0),
 oo 7 (.ext (.t 3) 1),
 oo 1 (.asg (.t 6)),
 oo 2 (.asg (.t 7))]
@[go_sem] def b2m : List AO := [om 8 2,
 oo 9 (.bin .eql 26 2 (.t 8) (.c .nilIface) 26),
 om 10 9,
 og 11 (.mv (.t 1)) 2 10 true,
 og 12 (.len 44 false (.t 11)) 2 10 true,
 og 13 (.bin .eql 3 0 (.t 12) (.n 22) 3) 2 10 true,
 oo 14 (.pick (.t 10) (.t 13) (.c (.bool false))),
 oo 0 (.asg (.t 14))]
def a6c : IC := (.seq (.reg b2f) (.seq (.reg b2h) (.seq (.reg b2m) .ret)))
abbrev b4f : Nat := 32
theorem a9c : fnC pg 32 15 [(.tmp 0)] a6c := a1k Go.Proofs.Tryd.f32 [(.tmp 0)] (by kernel_rfl)
@[go_sem] theorem c8y : fnB pg 32 = true := by kernel_rfl
@[go_sem] def c0p : List AO := [oo 1 (.box 54 2 (.t 0)),
 oo 2 (.alloc 54 [.own 1 0 [], .lit (.bool false)])]
@[go_sem] def b87 : List AO := [oo 3 (.faddr 54 0 (.t 1) 0),
 oo 4 (.load 24 none (.t 3)),
 oc 5 68 [(false, (.t 4))] [24],
 oo 6 (.faddr 54 1 (.t 1) 1),
 oo 7 (.load 4 none (.t 6)),
 oo 8 (.build 54 [.own 1 0 [], .lit (.bool false)] [(0, 0, 1, (.t 5)), (1, 1, 1, (.t 7))]),
 ov (.store 54 2 (.t 2) (.t 8))]
def b4v : IC := (.seq (.reg c0p) (.seq (.draw b87 [[], [0], [1], [], [3], [2, 4], [5, 2, 0, 1, 2, 3, 4, 5]]) .ret))
abbrev c2u : Nat := 66
theorem b6a : fnC pg 66 9 [(.cells 2 2)] b4v := a1k Go.Proofs.Tryd.f66 [(.cell 2 54)] (by kernel_rfl)
@[go_sem] theorem d42 : fnB pg 66 = true := by kernel_rfl
@[go_sem] def b23 : List AO := [oo 2 (.asg (.nl 1))]
@[go_sem] def b2a : List AO := [om 3 0,
 ⟨(some 4), .nilq 24 (.t 3) 24, none⟩]
@[go_sem] def b3c : List AO := [oo 2 (.asg (.nl 1))]
@[go_sem] def b3a : List AO := [oo 5 (.bslice 24 3 1 0 [.lit (.int .i64 0)] []),
 om 6 0,
 oo 7 (.app 24 3 1 8 (.t 5) (.t 6)),
 oo 2 (.asg (.t 7))]
def a5y : IC := (.seq (.reg b23) (.seq (.seq (.reg b2a) (.cond (.t 4) (.seq (.reg b3c) .ret) .skip)) (.seq (.reg b3a) .ret)))
abbrev b4z : Nat := 68
theorem b0n : fnC pg 68 8 [(.tmp 2)] a5y := a1k Go.Proofs.Tryd.f68 [(.tmp 2)] (by kernel_rfl)
@[go_sem] theorem c8z : fnB pg 68 = true := by kernel_rfl
end Go.Ideal.Tryd
end
section
set_option linter.unusedVariables false
set_option linter.unusedSimpArgs false
set_option maxRecDepth 10000
namespace Go.Ideal.Tryd
structure Ds where
  shape : List Int
  wide : Bool
  deriving DecidableEq
structure Tn where
  shape : List Int
  wide : Bool
  data : List Int
  deriving DecidableEq
structure Vw where
  off : Int
  shape : List Int
  wide : Bool
  deriving DecidableEq
structure In where
  op : Int
  dst : Int
  ins : List Int
  args : List Int
  frm : Int
  to : Int
  deriving DecidableEq
structure Pl where
  size : Int
  views : List Vw
  consts : List Tn
  weights : List Ds
  code : List In
  input : Int
  output : Int
  deriving DecidableEq
def eD (d : Ds) : List AV := [slI d.shape, lb d.wide]
def eT (d : Tn) : List AV := [slI d.shape, lb d.wide, slI d.data]
def eV (d : Vw) : List AV := [li d.off, slI d.shape, lb d.wide]
def eI (d : In) : List AV := [li d.op, li d.dst, slI d.ins, slI d.args, li d.frm, li d.to]
def oD (d : Ds) : List AV := [owI d.shape, lb d.wide]
def oT (d : Tn) : List AV := [owI d.shape, lb d.wide, owI d.data]
def oV (d : Vw) : List AV := [li d.off, owI d.shape, lb d.wide]
def oI (d : In) : List AV := [li d.op, li d.dst, owI d.ins, owI d.args, li d.frm, li d.to]
@[go_sem] theorem g2j {xs : List Ds} : (fm eD xs).length = xs.length * 2 := a8p fun _ => rfl
@[go_sem] theorem g2i {xs : List Ds} {i : Nat} (h : i < xs.length) : ((fm eD xs).drop (i * 2)).take 2 = [slI xs[i].shape, lb xs[i].wide] := b75 (f := eD) (k := 2) (fun _ => rfl) h
@[go_sem] theorem f8v {xs : List Ds} : (fm eD xs).take (xs.length * 2) = fm eD xs := a5p fun _ => rfl
@[go_sem] theorem f2q {xs : List Ds} : a0i (fm eD xs) = true := b4b fun _ => rfl
@[go_sem] theorem g3o {xs : List Ds} : a1f (fm eD xs) = fm eD xs := by
  rw [a9v]; congr 1
@[go_sem] theorem g2p {xs : List Ds} : (fm oD xs).length = xs.length * 2 := a8p fun _ => rfl
@[go_sem] theorem f8z {xs : List Ds} : (fm oD xs).take (xs.length * 2) = fm oD xs := a5p fun _ => rfl
@[go_sem] theorem g2b {xs : List Ds} : a1f (fm oD xs) = fm eD xs := by
  rw [a9v]
  congr 1
  funext n
  simp [oD, eD, go_sem]
@[go_sem] theorem f3g {xs : List Ds} : a08 (fm oD xs) = true := b4g fun n => by simp [oD, go_sem]
@[go_sem] theorem g1w {xs : List Tn} : (fm eT xs).length = xs.length * 3 := a8p fun _ => rfl
@[go_sem] theorem g28 {xs : List Tn} {i : Nat} (h : i < xs.length) : ((fm eT xs).drop (i * 3)).take 3 = [slI xs[i].shape, lb xs[i].wide, slI xs[i].data] := b75 (f := eT) (k := 3) (fun _ => rfl) h
@[go_sem] theorem f8i {xs : List Tn} : (fm eT xs).take (xs.length * 3) = fm eT xs := a5p fun _ => rfl
@[go_sem] theorem f41 {xs : List Tn} : a0i (fm eT xs) = true := b4b fun _ => rfl
@[go_sem] theorem g32 {xs : List Tn} : a1f (fm eT xs) = fm eT xs := by
  rw [a9v]; congr 1
@[go_sem] theorem g2w {xs : List Tn} : (fm oT xs).length = xs.length * 3 := a8p fun _ => rfl
@[go_sem] theorem f9e {xs : List Tn} : (fm oT xs).take (xs.length * 3) = fm oT xs := a5p fun _ => rfl
@[go_sem] theorem g4e {xs : List Tn} : a1f (fm oT xs) = fm eT xs := by
  rw [a9v]
  congr 1
  funext n
  simp [oT, eT, go_sem]
@[go_sem] theorem f1a {xs : List Tn} : a08 (fm oT xs) = true := b4g fun n => by simp [oT, go_sem]
@[go_sem] theorem g4f {xs : List Vw} : (fm eV xs).length = xs.length * 3 := a8p fun _ => rfl
@[go_sem] theorem g17 {xs : List Vw} {i : Nat} (h : i < xs.length) : ((fm eV xs).drop (i * 3)).take 3 = [li xs[i].off, slI xs[i].shape, lb xs[i].wide] := b75 (f := eV) (k := 3) (fun _ => rfl) h
@[go_sem] theorem f9s {xs : List Vw} : (fm eV xs).take (xs.length * 3) = fm eV xs := a5p fun _ => rfl
@[go_sem] theorem f1g {xs : List Vw} : a0i (fm eV xs) = true := b4b fun _ => rfl
@[go_sem] theorem g03 {xs : List Vw} : a1f (fm eV xs) = fm eV xs := by
  rw [a9v]; congr 1
@[go_sem] theorem g1p {xs : List Vw} : (fm oV xs).length = xs.length * 3 := a8p fun _ => rfl
@[go_sem] theorem f9h {xs : List Vw} : (fm oV xs).take (xs.length * 3) = fm oV xs := a5p fun _ => rfl
@[go_sem] theorem g1m {xs : List Vw} : a1f (fm oV xs) = fm eV xs := by
  rw [a9v]
  congr 1
  funext n
  simp [oV, eV, go_sem]
@[go_sem] theorem f25 {xs : List Vw} : a08 (fm oV xs) = true := b4g fun n => by simp [oV, go_sem]
@[go_sem] theorem g2s {xs : List In} : (fm eI xs).length = xs.length * 6 := a8p fun _ => rfl
@[go_sem] theorem g1n {xs : List In} {i : Nat} (h : i < xs.length) : ((fm eI xs).drop (i * 6)).take 6 = [li xs[i].op, li xs[i].dst, slI xs[i].ins, slI xs[i].args, li xs[i].frm, li xs[i].to] := b75 (f := eI) (k := 6) (fun _ => rfl) h
@[go_sem] theorem f7j {xs : List In} : (fm eI xs).take (xs.length * 6) = fm eI xs := a5p fun _ => rfl
@[go_sem] theorem f2t {xs : List In} : a0i (fm eI xs) = true := b4b fun _ => rfl
@[go_sem] theorem g1r {xs : List In} : a1f (fm eI xs) = fm eI xs := by
  rw [a9v]; congr 1
@[go_sem] theorem g2k {xs : List In} : (fm oI xs).length = xs.length * 6 := a8p fun _ => rfl
@[go_sem] theorem f7q {xs : List In} : (fm oI xs).take (xs.length * 6) = fm oI xs := a5p fun _ => rfl
@[go_sem] theorem g1g {xs : List In} : a1f (fm oI xs) = fm eI xs := by
  rw [a9v]
  congr 1
  funext n
  simp [oI, eI, go_sem]
@[go_sem] theorem f2e {xs : List In} : a08 (fm oI xs) = true := b4g fun n => by simp [oI, go_sem]
abbrev slD (xs : List Ds) : AV := .sl xs.length (fm eD xs)
abbrev slT (xs : List Tn) : AV := .sl xs.length (fm eT xs)
abbrev slV (xs : List Vw) : AV := .sl xs.length (fm eV xs)
abbrev slJ (xs : List In) : AV := .sl xs.length (fm eI xs)
def eP (p : Pl) : List AV := [li p.size, slV p.views, slT p.consts, slD p.weights, slJ p.code, li p.input, li p.output]
section
variable {G : Nat → Option Value} {bk : Nat → Nat × Nat} {Q : Exit → St → Prop} {st : St}
theorem e0b (xs : List Int) (h : xs.length < 2 ^ 40) : ACalls pg G b4z [slI xs] (owI xs) := by
  refine b0n rfl ?_
  simp (disch := omega) [go_sem, a5y]
  refine f6u fun b hb => ?_
  cases b with
  | true =>
    have : xs = [] := by simpa using hb rfl
    subst this
    simp (disch := omega) [go_sem]
  | false => simp (disch := omega) [go_sem]
theorem d6u (sh : List Int) (w : Bool) (hlen : sh.length < 2 ^ 40) : ACalls pg G c2u [.agg [slI sh, lb w]] (.agg [owI sh, lb w]) := by
  refine b6a rfl ?_
  simp (disch := omega) [go_sem, b4v]
  refine a2i ?_
  simp (disch := omega) [go_sem]
  refine a3r (e0b sh hlen) rfl (c6f _) (by simp) [5] (by simp) (by simp (disch := omega) [go_sem]) ?_
  simp (disch := omega) [go_sem]
  refine a13 (by decide) fun s2 hs he => ?_
  simp (disch := omega) [go_sem, hs]
end
end Go.Ideal.Tryd
end
section
set_option linter.unusedVariables false
set_option linter.unusedSimpArgs false
set_option maxRecDepth 10000
namespace Go.Ideal.Tryd
section
variable {G : Nat → Option Value} {bk : Nat → Nat × Nat} {Q : Exit → St → Prop} {st : St}
structure Pl.fin (p : Pl) : Prop where
  vl : p.views.length < 2 ^ 62
  cl : p.consts.length < 2 ^ 62
  wl : p.weights.length < 2 ^ 62
  il : p.code.length < 2 ^ 62
  vs : ∀ x ∈ p.views, x.shape.length < 2 ^ 62
  cs : ∀ x ∈ p.consts, x.shape.length < 2 ^ 62 ∧ x.data.length < 2 ^ 62
  ws : ∀ x ∈ p.weights, x.shape.length < 2 ^ 62
  is : ∀ x ∈ p.code, x.ins.length < 2 ^ 62 ∧ x.args.length < 2 ^ 62
end
end Go.Ideal.Tryd
end
section
set_option linter.unusedVariables false
set_option linter.unusedSimpArgs false
set_option maxRecDepth 100000
namespace Go.Ideal.Tryd
open Go.RowKit Go.Extern.Stop Go.Stop Go.Extern Go.Proofs
theorem d1d (v : Value) (w : World) : (Extern.ReflectliteType.typeOf #[.iface 231 v]).run Go.Proofs.Tryd.prog w = .ok (.iface 203 (.agg #[.pointer (some ⟨22, 231, none⟩)])) w := by kernel_rfl
theorem b53 (w : World) : ((Extern.ReflectliteType.method fun t => do Go.Extern.Rtype.noPackHeld "Comparable" t; (fun a => Value.bool a.comparable) <$> typeInfo t) #[.agg #[.pointer (some ⟨22, 231, none⟩)]]).run Go.Proofs.Tryd.prog w = .ok (.bool true) w := by kernel_rfl
theorem a6e (v : Value) (w : World) : (Go.method 363 203 v "Comparable").run Go.Proofs.Tryd.prog w = .ok (204, v) w := by kernel_rfl
theorem d8y : (Go.Proofs.Tryd.prog.info? 231).map (·.comparable) = some true := by kernel_rfl
theorem d8w : (Go.Proofs.Tryd.prog.info? 251).map (·.size) = some 1 := by kernel_rfl
theorem f9y (v : Value) (xT : TypeId) (w : World) : (Instr.typeAssert (.iface 231 v) xT 205 true).run Go.Proofs.Tryd.prog w = .ok (.tuple #[.nilIface, .bool false]) w := run_typeAssert_lacksB Go.Proofs.Tryd.underlying205 (by kernel_rfl) (by kernel_rfl) v xT w
theorem d4j (v : Value) (xT : TypeId) (w : World) : (Instr.typeAssert (.iface 231 v) xT 208 true).run Go.Proofs.Tryd.prog w = .ok (.tuple #[.nilIface, .bool false]) w := run_typeAssert_lacksB Go.Proofs.Tryd.underlying208 (by kernel_rfl) (by kernel_rfl) v xT w
theorem d2o (v : Value) (xT : TypeId) (w : World) : (Instr.typeAssert (.iface 231 v) xT 209 true).run Go.Proofs.Tryd.prog w = .ok (.tuple #[.nilIface, .bool false]) w := run_typeAssert_lacksB Go.Proofs.Tryd.underlying209 (by kernel_rfl) (by kernel_rfl) v xT w
theorem e0g (a : Addr) (w : World) :
    Calls Go.Proofs.Tryd.prog 124 #[.iface 231 (.pointer (some a)), .iface 231 (.pointer (some a))] w fun e w' => e = .returned (.bool true) ∧ w' = w := by
  obtain ⟨i, hi, hcmp⟩ := Option.map_eq_some_iff.1 d8y
  obtain ⟨j, hj, hjs⟩ := Option.map_eq_some_iff.1 d8w
  have h8 := @run_callFunc_extern Go.Proofs.Tryd.prog 150 _ Extern.ReflectliteType.typeOf Go.Proofs.Tryd.func150 (by kernel_rfl) (by kernel_rfl) (by kernel_rfl) (by kernel_rfl)
  have h32 := @run_callFunc_extern Go.Proofs.Tryd.prog 204 _ (Extern.ReflectliteType.method fun t => do Go.Extern.Rtype.noPackHeld "Comparable" t; pure (.bool (← typeInfo t).comparable)) Go.Proofs.Tryd.func204 (by kernel_rfl) (by kernel_rfl) (by kernel_rfl) (by kernel_rfl)
  have tT := d1d
  have cT := b53
  have mR := a6e
  have heq := run_eql_iface_ptr_same (P := Go.Proofs.Tryd.prog) w a Go.Proofs.Tryd.underlying26 Go.Proofs.Tryd.underlying231 hi hcmp hj
  go_enter Go.Proofs.Tryd.func124, Go.Proofs.Tryd.ntmps124
  go_wp2
  refine wp_loop_rounds 1 ?_
  rw [rounds_succ]
  go_wp2
  go_ret
  exact ⟨rfl, rfl⟩
theorem f0b (b : Addr) (w : World) :
    Calls Go.Proofs.Tryd.prog 124 #[.nilIface, .iface 231 (.pointer (some b))] w fun e w' => e = .returned (.bool false) ∧ w' = w := by
  have hn := run_eql_iface_nil_left (P := Go.Proofs.Tryd.prog) w 231 (.pointer (some b)) Go.Proofs.Tryd.underlying26
  go_enter Go.Proofs.Tryd.func124, Go.Proofs.Tryd.ntmps124
  go_wp2
  go_ret
  exact ⟨rfl, rfl⟩
theorem d6b (a b : Addr) (ca cb : Array Value) (ta tb : TypeId) (w : World) (hne : a ≠ b) (ha : w.heap[a.block]? = some (.cells ca ta (0, 0))) (hb : w.heap[b.block]? = some (.cells cb tb (0, 0))) :
    Calls Go.Proofs.Tryd.prog 124 #[.iface 231 (.pointer (some a)), .iface 231 (.pointer (some b))] w fun e w' => e = .returned (.bool false) ∧ w' = w := by
  obtain ⟨i, hi, hcmp⟩ := Option.map_eq_some_iff.1 d8y
  obtain ⟨j, hj, hjs⟩ := Option.map_eq_some_iff.1 d8w
  have h8 := @run_callFunc_extern Go.Proofs.Tryd.prog 150 _ Extern.ReflectliteType.typeOf Go.Proofs.Tryd.func150 (by kernel_rfl) (by kernel_rfl) (by kernel_rfl) (by kernel_rfl)
  have h32 := @run_callFunc_extern Go.Proofs.Tryd.prog 204 _ (Extern.ReflectliteType.method fun t => do Go.Extern.Rtype.noPackHeld "Comparable" t; pure (.bool (← typeInfo t).comparable)) Go.Proofs.Tryd.func204 (by kernel_rfl) (by kernel_rfl) (by kernel_rfl) (by kernel_rfl)
  have tT := d1d
  have cT := b53
  have mR := a6e
  have nE := f9y
  have uE := d4j
  have vE := d2o
  have heq := run_eql_iface_ptr_other (P := Go.Proofs.Tryd.prog) w Go.Proofs.Tryd.underlying26 Go.Proofs.Tryd.underlying231 hi hcmp hj (by rw [hjs]; decide) hne ha hb
  go_enter Go.Proofs.Tryd.func124, Go.Proofs.Tryd.ntmps124
  go_wp2
  refine wp_loop_rounds 1 ?_
  rw [rounds_succ]
  go_wp2
  go_ret
  exact ⟨rfl, rfl⟩
theorem e6n {G : Nat → Option Value} {bk : Nat → Nat × Nat} (hS : Sent5 G bk) {e : Er} (he : e = .nil ∨ ∃ g, (2 ≤ g ∧ g ≤ 6) ∧ e = .s g) {k : Nat} (hk : 2 ≤ k ∧ k ≤ 6) : ACalls pg G 124 [a1p bk e, sv bk k] (lb (match e with | .s g => decide (g = k) | _ => false)) := by
  intro w args A ow hsz hA how hG hpre
  obtain ⟨l⟩ := args
  match l, hsz with
  | [x, y], _ =>
    have h0 := hpre 0 _ rfl
    have h1 := hpre 1 _ rfl
    have hx : (Array.mk [x, y]).getD 0 undef = x := rfl
    have hy : (Array.mk [x, y]).getD 1 undef = y := rfl
    rw [hx] at h0
    rw [hy] at h1
    simp only [R] at h1
    have ret : ∀ b : Bool, Ret w A (fun b => ow b ≠ none) w (lb b) (.bool b) := fun b => ⟨Nat.le_refl _, rfl, rfl, rfl, fun _ _ _ => rfl, noB, fun _ h => h.elim, by simp only [R]⟩
    rcases he with rfl | ⟨g, hg, rfl⟩
    · simp only [a1p, R] at h0
      subst h0 h1
      refine (f0b _ w).mono ?_
      rintro e w' ⟨rfl, rfl⟩
      exact ⟨_, rfl, ret false⟩
    · simp only [a1p, R] at h0
      subst h0 h1
      by_cases hgk : g = k
      · subst hgk
        refine (e0g _ w).mono ?_
        rintro e w' ⟨rfl, rfl⟩
        simp only [decide_true]
        exact ⟨_, rfl, ret true⟩
      · have key : ∀ g, 2 ≤ g ∧ g ≤ 6 → ∃ c t, w.heap[(bk g).1]? = some (.cells c t (0, 0)) := fun g hg => by
          obtain ⟨v, hv⟩ := Option.isSome_iff_exists.1 (hS.blk g hg)
          obtain ⟨c, t, hc, _⟩ := (hG _ v hv).1
          exact ⟨c, t, hc⟩
        obtain ⟨c1, t1, e1⟩ := key g hg
        obtain ⟨c2, t2, e2⟩ := key k hk
        refine (d6b ⟨(bk g).1, (bk g).2, none⟩ ⟨(bk k).1, (bk k).2, none⟩ c1 c2 t1 t2 w (fun he => hgk (hS.inj g k hg hk (by
          simp only [Addr.mk.injEq, and_true] at he
          exact Prod.ext he.1 he.2))) e1 e2).mono ?_
        rintro e w' ⟨rfl, rfl⟩
        simp only [hgk, decide_false]
        exact ⟨_, rfl, ret false⟩
end Go.Ideal.Tryd
end
