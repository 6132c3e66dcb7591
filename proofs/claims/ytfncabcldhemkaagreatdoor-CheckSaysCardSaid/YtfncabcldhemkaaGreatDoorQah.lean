/- Part Qah of the proof: a machine with trees for values, its soundness, and walks on it. -/
import Derived.Test.YtfncabcldhemkaaGreatDoorQag
set_option linter.unusedVariables false
set_option linter.unusedSimpArgs false
set_option maxRecDepth 10000
section
namespace Go.Ideal.Tryz
structure Ds where
 shape : List Int
 wide : Bool
 deriving DecidableEq
structure Tn where
 shape : List Int
 wide : Bool
 data : List Int
 deriving DecidableEq
structure Vw where
 off : Int
 shape : List Int
 wide : Bool
 deriving DecidableEq
structure In where
 op : Int
 dst : Int
 ins : List Int
 args : List Int
 frm : Int
 to : Int
 deriving DecidableEq
structure Pl where
 size : Int
 views : List Vw
 consts : List Tn
 weights : List Ds
 code : List In
 input : Int
 output : Int
 deriving DecidableEq
def eD (d : Ds) : List AV := [slI d.shape, lb d.wide]
def eT (d : Tn) : List AV := [slI d.shape, lb d.wide, slI d.data]
def eV (d : Vw) : List AV := [li d.off, slI d.shape, lb d.wide]
def eI (d : In) : List AV := [li d.op, li d.dst, slI d.ins, slI d.args, li d.frm, li d.to]
def oD (d : Ds) : List AV := [owI d.shape, lb d.wide]
def oT (d : Tn) : List AV := [owI d.shape, lb d.wide, owI d.data]
def oV (d : Vw) : List AV := [li d.off, owI d.shape, lb d.wide]
def oI (d : In) : List AV := [li d.op, li d.dst, owI d.ins, owI d.args, li d.frm, li d.to]
@[go_sem] theorem g3j {xs : List Ds} : (fm eD xs).length = xs.length * 2 := b0c fun _ => rfl
@[go_sem] theorem g3i {xs : List Ds} {i : Nat} (h : i < xs.length) : ((fm eD xs).drop (i * 2)).take 2 = [slI xs[i].shape, lb xs[i].wide] := b8f (f := eD) (k := 2) (fun _ => rfl) h
@[go_sem] theorem f7a {xs : List Ds} : (fm eD xs).take (xs.length * 2) = fm eD xs := a7m fun _ => rfl
@[go_sem] theorem f2b {xs : List Ds} : a0z (fm eD xs) = true := b4r fun _ => rfl
@[go_sem] theorem g3h {xs : List Ds} : a2g (fm eD xs) = fm eD xs := by
 rw [b1f]; congr 1
@[go_sem] theorem g47 {xs : List Ds} : (fm oD xs).length = xs.length * 2 := b0c fun _ => rfl
@[go_sem] theorem g0e {xs : List Ds} : (fm oD xs).take (xs.length * 2) = fm oD xs := a7m fun _ => rfl
@[go_sem] theorem g46 {xs : List Ds} : a2g (fm oD xs) = fm eD xs := by
 rw [b1f]
 congr 1
 funext n
 simp [oD, eD, go_sem]
@[go_sem] theorem f4g {xs : List Ds} : a1f (fm oD xs) = true := b4q fun n => by simp [oD, go_sem]
@[go_sem] theorem g3p {xs : List Tn} : (fm eT xs).length = xs.length * 3 := b0c fun _ => rfl
@[go_sem] theorem g3o {xs : List Tn} {i : Nat} (h : i < xs.length) : ((fm eT xs).drop (i * 3)).take 3 = [slI xs[i].shape, lb xs[i].wide, slI xs[i].data] := b8f (f := eT) (k := 3) (fun _ => rfl) h
@[go_sem] theorem f7d {xs : List Tn} : (fm eT xs).take (xs.length * 3) = fm eT xs := a7m fun _ => rfl
@[go_sem] theorem f2f {xs : List Tn} : a0z (fm eT xs) = true := b4r fun _ => rfl
@[go_sem] theorem g3n {xs : List Tn} : a2g (fm eT xs) = fm eT xs := by
 rw [b1f]; congr 1
@[go_sem] theorem g5b {xs : List Tn} : (fm oT xs).length = xs.length * 3 := b0c fun _ => rfl
@[go_sem] theorem g0i {xs : List Tn} : (fm oT xs).take (xs.length * 3) = fm oT xs := a7m fun _ => rfl
@[go_sem] theorem g5a {xs : List Tn} : a2g (fm oT xs) = fm eT xs := by
 rw [b1f]
 congr 1
 funext n
 simp [oT, eT, go_sem]
@[go_sem] theorem f4j {xs : List Tn} : a1f (fm oT xs) = true := b4q fun n => by simp [oT, go_sem]
@[go_sem] theorem g3r {xs : List Vw} : (fm eV xs).length = xs.length * 3 := b0c fun _ => rfl
@[go_sem] theorem e5i {xs : List Vw} {i : Nat} (h : i < xs.length) : ((fm eV xs).drop (i * 3)).take 3 = [li xs[i].off, slI xs[i].shape, lb xs[i].wide] := b8f (f := eV) (k := 3) (fun _ => rfl) h
@[go_sem] theorem f7f {xs : List Vw} : (fm eV xs).take (xs.length * 3) = fm eV xs := a7m fun _ => rfl
@[go_sem] theorem f2g {xs : List Vw} : a0z (fm eV xs) = true := b4r fun _ => rfl
@[go_sem] theorem g3q {xs : List Vw} : a2g (fm eV xs) = fm eV xs := by
 rw [b1f]; congr 1
@[go_sem] theorem g5e {xs : List Vw} : (fm oV xs).length = xs.length * 3 := b0c fun _ => rfl
@[go_sem] theorem g0j {xs : List Vw} : (fm oV xs).take (xs.length * 3) = fm oV xs := a7m fun _ => rfl
@[go_sem] theorem g5d {xs : List Vw} : a2g (fm oV xs) = fm eV xs := by
 rw [b1f]
 congr 1
 funext n
 simp [oV, eV, go_sem]
@[go_sem] theorem f4k {xs : List Vw} : a1f (fm oV xs) = true := b4q fun n => by simp [oV, go_sem]
@[go_sem] theorem g3m {xs : List In} : (fm eI xs).length = xs.length * 6 := b0c fun _ => rfl
@[go_sem] theorem g3l {xs : List In} {i : Nat} (h : i < xs.length) : ((fm eI xs).drop (i * 6)).take 6 = [li xs[i].op, li xs[i].dst, slI xs[i].ins, slI xs[i].args, li xs[i].frm, li xs[i].to] := b8f (f := eI) (k := 6) (fun _ => rfl) h
@[go_sem] theorem f7b {xs : List In} : (fm eI xs).take (xs.length * 6) = fm eI xs := a7m fun _ => rfl
@[go_sem] theorem f2c {xs : List In} : a0z (fm eI xs) = true := b4r fun _ => rfl
@[go_sem] theorem g3k {xs : List In} : a2g (fm eI xs) = fm eI xs := by
 rw [b1f]; congr 1
@[go_sem] theorem g49 {xs : List In} : (fm oI xs).length = xs.length * 6 := b0c fun _ => rfl
@[go_sem] theorem g0f {xs : List In} : (fm oI xs).take (xs.length * 6) = fm oI xs := a7m fun _ => rfl
@[go_sem] theorem g48 {xs : List In} : a2g (fm oI xs) = fm eI xs := by
 rw [b1f]
 congr 1
 funext n
 simp [oI, eI, go_sem]
@[go_sem] theorem f4h {xs : List In} : a1f (fm oI xs) = true := b4q fun n => by simp [oI, go_sem]
abbrev slD (xs : List Ds) : AV := .sl xs.length (fm eD xs)
abbrev slT (xs : List Tn) : AV := .sl xs.length (fm eT xs)
abbrev slV (xs : List Vw) : AV := .sl xs.length (fm eV xs)
abbrev slJ (xs : List In) : AV := .sl xs.length (fm eI xs)
def eP (p : Pl) : List AV := [li p.size, slV p.views, slT p.consts, slD p.weights, slJ p.code, li p.input, li p.output]
section
variable {G : GG} {bk : Nat -> Nat × Nat} {Q : Exit -> St -> Prop} {st : St}
theorem c5n (xs : List Int) (h : xs.length < 2 ^ 40) : ACalls pg G b36 [slI xs] (owI xs) := by
 refine b14 rfl ?_
 simp (disch := omega) [go_sem, a8i]
 refine g0d fun b hb => ?_
 cases b with
 | true =>
  have : xs = [] := by simpa using hb rfl
  subst this
  simp (disch := omega) [go_sem]
 | false => simp (disch := omega) [go_sem]
theorem a68 (sh : List Int) (w : Bool) (hlen : sh.length < 2 ^ 40) : ACalls pg G c02 [.agg [slI sh, lb w]] (.agg [owI sh, lb w]) := by
 refine b7o rfl ?_
 simp (disch := omega) [go_sem, b5g]
 refine a0c ?_
 simp (disch := omega) [go_sem]
 refine a0i (c5n sh hlen) rfl (b8q _) (by simp) [5] (by simp) (by simp (disch := omega) [go_sem]) ?_
 simp (disch := omega) [go_sem]
 refine a0d (by decide) fun s2 hs he => ?_
 simp (disch := omega) [go_sem, hs]
end
end Go.Ideal.Tryz
end
section
namespace Go.Ideal.Tryz
def eqP {α : Type} (p : α -> α -> Bool) : List α -> List α -> Bool
 | [], [] => true
 | x :: xs, y :: ys => p x y && eqP p xs ys
 | _, _ => false
theorem d6r {α : Type} [DecidableEq α] {p : α -> α -> Bool} : ∀ {a b : List α}, (∀ x ∈ a, ∀ y ∈ b, p x y = decide (x = y)) -> eqP p a b = decide (a = b)
 | [], [], h => by simp [eqP]
 | [], _ :: _, _ => by simp [eqP]
 | _ :: _, [], _ => by simp [eqP]
 | x :: xs, y :: ys, h => by
  rw [eqP, h x (by simp) y (by simp), d6r fun a ha b hb => h a (by simp [ha]) b (by simp [hb])]
  by_cases h1 : x = y <;> by_cases h2 : xs = ys <;> simp [h1, h2]
theorem d4i {α : Type} {p : α -> α -> Bool} {a b : List α} {i : Nat} (h : i < a.length) (h2 : i < b.length) : eqP p (a.drop i) (b.drop i) = (p a[i] b[i] && eqP p (a.drop (i + 1)) (b.drop (i + 1))) := by
 rw [List.drop_eq_getElem_cons h, List.drop_eq_getElem_cons h2]; rfl
section
variable {G : GG} {bk : Nat -> Nat × Nat} {Q : Exit -> St -> Prop} {st : St}
theorem d4j (a b : List Int) (ha : a.length < 2 ^ 62) (hb : b.length < 2 ^ 62) : ACalls pg G b37 [slI a, slI b] (lb (decide (a = b))) := by
 refine b15 rfl ?_
 by_cases hl : a.length = b.length
 ·have hl' : (a.length : Int) = b.length := by omega
  simp (disch := omega) [go_sem, a5i, hl']
  refine a08 Nat (fun i st => i <= a.length /\ eqP (fun x y => decide (x = y)) (a.drop i) (b.drop i) = decide (a = b) /\ st.s 0 = slI a /\ st.s 1 = slI b /\ st.s 11 = slI a /\ st.s 12 = li a.length /\ st.s 13 = li i) (fun i => a.length - i) 0 ⟨by simp, d6r fun _ _ _ _ => rfl, by simp (disch := omega) [go_sem, hl']⟩ ?_
  rintro i st K ⟨hi, hm, h⟩ hK
  by_cases hlt : i < a.length
  ·have hlt2 : i < b.length := by omega
   rw [d4i hlt hlt2] at hm
   simp (disch := omega) [go_sem, a41, h, hlt]
   refine a0c ?_
   simp (disch := omega) [go_sem, h, hlt]
   refine a0d (by decide) fun s2 hs he => ?_
   by_cases k : a[i] = b[i]
   ·rw [decide_eq_true k, Bool.true_and] at hm
    simp (disch := omega) [go_sem, hs, h, k]
    exact hK (i + 1) _ ⟨by omega, hm, by simp (disch := omega) [go_sem, hs, h]⟩ (by omega)
   ·rw [decide_eq_false k, Bool.false_and] at hm
    simp (disch := omega) [go_sem, hs, h, k, <- hm]
  ·obtain rfl : i = a.length := by omega
   rw [List.drop_length, hl, List.drop_length, eqP] at hm
   simp (disch := omega) [go_sem, a41, h, <- hm]
 ·have hl' : ¬ (a.length : Int) = b.length := by omega
  have hn : a ≠ b := fun h => hl (by rw [h])
  simp (disch := omega) [go_sem, a5i, hl', hn]
theorem a51 (a b : Ds) (ha : a.shape.length < 2 ^ 62) (hb : b.shape.length < 2 ^ 62) : ACalls pg G c2r [.agg (eD a), .agg (eD b)] (lb (decide (a = b))) := by
 refine b83 rfl ?_
 obtain ⟨s1, w1⟩ := a
 obtain ⟨s2, w2⟩ := b
 by_cases k : w1 = w2
 ·simp (disch := omega) [go_sem, b13, eD, k]
  refine a0b (d4j s1 s2 ha hb) rfl rfl ?_
  simp (disch := omega) [go_sem, Ds.mk.injEq, k]
 ·simp (disch := omega) [go_sem, b13, eD, k, Ds.mk.injEq]
structure Pl.fin (p : Pl) : Prop where
 vl : p.views.length < 2 ^ 62
 cl : p.consts.length < 2 ^ 62
 wl : p.weights.length < 2 ^ 62
 il : p.code.length < 2 ^ 62
 vs : ∀ x ∈ p.views, x.shape.length < 2 ^ 62
 cs : ∀ x ∈ p.consts, x.shape.length < 2 ^ 62 /\ x.data.length < 2 ^ 62
 ws : ∀ x ∈ p.weights, x.shape.length < 2 ^ 62
 is : ∀ x ∈ p.code, x.ins.length < 2 ^ 62 /\ x.args.length < 2 ^ 62
end
end Go.Ideal.Tryz
end
section
namespace Go.Proofs.YtfncabcldhemkaaGreatDoor
open Go Go.ChangeShapes Go.WideShapes Go.RowKit Go.Ideal Go.Ideal.Tryz
section
variable {H : Type} {e : TypeId × Value -> H} {w : World}
theorem c38 : Rd e Tryz.prog w Int 3 (fun n => [li n]) (fun n => -9223372036854775808 <= n /\ n <= 9223372036854775807) := Rd.int Tryz.underlying3
theorem e9e : Rd e Tryz.prog w Bool 4 (fun n => [lb n]) (fun _ => True) := Rd.bool Tryz.underlying4
theorem c75 : Rd e Tryz.prog w (List Int) 74 (fun xs => [slI xs]) (fun xs => xs.length <= reachBytes /\ ∀ x ∈ xs, -9223372036854775808 <= x /\ x <= 9223372036854775807) :=
 Rd.slice1 Tryz.underlying74 (of_decide_eq_true (by kernel_rfl)) (of_decide_eq_true (by kernel_rfl)) (Rd.int Tryz.underlying3)
theorem b6j : Tryz.prog.cellsOf 3 = 1 := by kernel_rfl
theorem e4x : Tryz.prog.cellsOf 4 = 1 := by kernel_rfl
theorem c1a : Tryz.prog.cellsOf 74 = 1 := by kernel_rfl
theorem c1b : Tryz.prog.cellsOf 76 = 2 := by kernel_rfl
theorem d0i : Tryz.prog.cellsOf 85 = 3 := by kernel_rfl
theorem d0g : Tryz.prog.cellsOf 78 = 3 := by kernel_rfl
theorem d0h : Tryz.prog.cellsOf 80 = 6 := by kernel_rfl
theorem d7u : Tryz.prog.cellsOf 27 = 7 := by kernel_rfl
theorem d7s : Tryz.prog.cellsOf 24 = 1 := by kernel_rfl
theorem d7r : Tryz.prog.cellsOf 23 = 1 := by kernel_rfl
theorem d7q : Tryz.prog.cellsOf 22 = 1 := by kernel_rfl
theorem d7t : Tryz.prog.cellsOf 25 = 1 := by kernel_rfl
theorem g06 : Rd e Tryz.prog w Ds 76 eD (fun d => d.shape.length <= reachBytes) :=
 (Rd.struct (l := [(74, 0), (4, 1)]) (by kernel_rfl) c1b (.cons c1a c75 (.cons e4x e9e .nil))).map (fun x => ⟨x.1, x.2.1⟩) (fun x => rfl) (fun x hx => hx.1.1)
theorem g68 : Rd e Tryz.prog w Tn 85 eT (fun d => d.shape.length <= reachBytes /\ d.data.length <= reachBytes) :=
 (Rd.struct (l := [(76, 0), (74, 2)]) (by kernel_rfl) d0i (.cons c1b g06 (.cons c1a c75 .nil))).map (fun x => ⟨x.1.shape, x.1.wide, x.2.1⟩) (fun x => rfl) (fun x hx => ⟨hx.1, hx.2.1.1⟩)
theorem g69 : Rd e Tryz.prog w Vw 78 eV (fun d => d.shape.length <= reachBytes) :=
 (Rd.struct (l := [(3, 0), (76, 1)]) (by kernel_rfl) d0g (.cons b6j c38 (.cons c1b g06 .nil))).map (fun x => ⟨x.1, x.2.1.shape, x.2.1.wide⟩) (fun x => rfl) (fun x hx => hx.2.1)
theorem g67 : Rd e Tryz.prog w In 80 eI (fun d => d.ins.length <= reachBytes /\ d.args.length <= reachBytes) :=
 (Rd.struct (l := [(3, 0), (3, 1), (74, 2), (74, 3), (3, 4), (3, 5)]) (by kernel_rfl) d0h (.cons b6j c38 (.cons b6j c38 (.cons c1a c75 (.cons c1a c75 (.cons b6j c38 (.cons b6j c38 .nil))))))).map
  (fun x => ⟨x.1, x.2.1, x.2.2.1, x.2.2.2.1, x.2.2.2.2.1, x.2.2.2.2.2.1⟩) (fun x => rfl) (fun x hx => ⟨hx.2.2.1.1, hx.2.2.2.1.1⟩)
theorem g2i : Tryz.prog.underlying 24 = some (.slice 76) := by kernel_rfl
theorem g07 : Rd e Tryz.prog w (List Ds) 24 (fun xs => [slD xs]) (fun xs => xs.length <= reachBytes /\ ∀ x ∈ xs, x.shape.length <= reachBytes) :=
 Rd.slice g2i (of_decide_eq_true (by kernel_rfl)) g06 (fun x => by rw [c1b]; rfl)
theorem g2h : Tryz.prog.underlying 23 = some (.slice 85) := by kernel_rfl
theorem g1c : Rd e Tryz.prog w (List Tn) 23 (fun xs => [slT xs]) (fun xs => xs.length <= reachBytes /\ ∀ x ∈ xs, x.shape.length <= reachBytes /\ x.data.length <= reachBytes) :=
 Rd.slice g2h (of_decide_eq_true (by kernel_rfl)) g68 (fun x => by rw [d0i]; rfl)
theorem g2g : Tryz.prog.underlying 22 = some (.slice 78) := by kernel_rfl
theorem g1d : Rd e Tryz.prog w (List Vw) 22 (fun xs => [slV xs]) (fun xs => xs.length <= reachBytes /\ ∀ x ∈ xs, x.shape.length <= reachBytes) :=
 Rd.slice g2g (of_decide_eq_true (by kernel_rfl)) g69 (fun x => by rw [d0g]; rfl)
theorem g2j : Tryz.prog.underlying 25 = some (.slice 80) := by kernel_rfl
theorem g08 : Rd e Tryz.prog w (List In) 25 (fun xs => [slJ xs]) (fun xs => xs.length <= reachBytes /\ ∀ x ∈ xs, x.ins.length <= reachBytes /\ x.args.length <= reachBytes) :=
 Rd.slice g2j (of_decide_eq_true (by kernel_rfl)) g67 (fun x => by rw [d0h]; rfl)
theorem c62 : b87 Tryz.prog 27 [(3, 0), (22, 1), (23, 2), (24, 3), (25, 4), (3, 5), (3, 6)] = true := by kernel_rfl
theorem d62 : Rd e Tryz.prog w Pl 27 eP Pl.fin :=
 (Rd.struct c62 d7u (.cons b6j c38 (.cons d7q g1d (.cons d7r g1c (.cons d7s g07 (.cons d7t g08 (.cons b6j c38 (.cons b6j c38 .nil)))))))).map
  (fun x => ⟨x.1, x.2.1, x.2.2.1, x.2.2.2.1, x.2.2.2.2.1, x.2.2.2.2.2.1, x.2.2.2.2.2.2.1⟩) (fun x => rfl)
  (fun x hx => by
   obtain ⟨_, ⟨v1, v2⟩, ⟨c1, c2⟩, ⟨w1, w2⟩, ⟨i1, i2⟩, _⟩ := hx
   have k : ∀ n : Nat, n <= reachBytes -> n < 2 ^ 62 := fun n h => Nat.lt_of_le_of_lt h (by unfold reachBytes; decide)
   exact ⟨k _ v1, k _ c1, k _ w1, k _ i1, fun x hx => k _ (v2 x hx), fun x hx => ⟨k _ (c2 x hx).1, k _ (c2 x hx).2⟩, fun x hx => k _ (w2 x hx), fun x hx => ⟨k _ (i2 x hx).1, k _ (i2 x hx).2⟩⟩)
end
end Go.Proofs.YtfncabcldhemkaaGreatDoor
end
section
namespace Go.Ideal
theorem ACalls.frz {P : Program} {G : GG} {f : FuncId} {pre : List AV} {res : AV} (h : ACalls P G f pre res) : ACalls P G f pre (Ideal.frz res) := by
 intro w args A ow h1 h2 h3 h4 h5
 refine (h w args A ow h1 h2 h3 h4 h5).mono ?_
 rintro e w' ⟨v, rfl, hr⟩
 refine ⟨v, rfl, hr.le, hr.os, hr.tape, hr.output, hr.frame, noB, fun _ h => h.elim, ?_⟩
 obtain ⟨F, hF, hR⟩ := hr.own
 exact c5v (fun b hb => ⟨hb.1, fun h => h, hb.2.2⟩) res (fun b hb => ⟨(hF b hb).2, fun h => h, (hF b hb).1.elim (fun h => .inr (.inl h)) fun h => .inr (.inr h)⟩) hR
theorem ACalls.shown {P : Program} {G : GG} {f : FuncId} {pre : List AV} {res res' : AV} (h : ACalls P G f pre res) (he : Ideal.frz res = res') : ACalls P G f pre res' := he ▸ h.frz
end Go.Ideal
end
section
namespace Go.Ideal.Tryz
def b42 : IC := (.seq (.reg [oo 4 (.asg (.c (.bool false)))]) (.seq (.reg [om 5 0,
 om 6 1,
 oc 7 38 [(false, (.t 6))] [3],
 oc 8 18 [(false, (.t 5)), (false, (.t 7))] [35, 31],
 oo 4 (.asg (.t 8))]) .ret))
abbrev b35 : Nat := 12
theorem b7m : fnC pg 12 9 [(.tmp 4)] b42 := a0p Go.Proofs.Tryz.f12 [(.tmp 4)] (by kernel_rfl)
@[go_sem] theorem d1r : fnB pg 12 = true := by kernel_rfl
end Go.Ideal.Tryz
end
section
namespace Go.Ideal
section
variable {N : Nat} {st st1 st2 : St} {P : Program} {G : GG} {K : St -> Prop}
def b8e (N : Nat) (a b : St) : Prop := (∀ u, u < N -> b.s u = a.s u) /\ ∀ u, b.ep u = a.ep u
@[congr] theorem d78 {a b b' : St} (h : b = b') : b8e N a b = b8e N a b' := by rw [h]
@[go_sem] theorem e1o : b8e N st st = True := by simp [b8e]
def d6q (N : Nat) (a b : St) : Prop := b8e N a b
@[go_sem] theorem e5o {t : Nat} {v : AV} : b8e N st1 (st2.put t v) = frI (decide (N <= t) && !nm v) (b8e N st1 st2) (d6q N st1 (st2.put t v)) := by
 simp only [frI, d6q]
 split
 ·rename_i h
  simp only [Bool.and_eq_true, decide_eq_true_eq, Bool.not_eq_true'] at h
  apply propext
  simp only [b8e, St.put_s, St.put_ep, h.2, Bool.false_eq_true, and_false, if_false]
  constructor
  ·rintro ⟨h1, h2⟩
   exact ⟨fun u hu => by have := h1 u hu; rwa [if_neg (by omega)] at this, h2⟩
  ·rintro ⟨h1, h2⟩
   exact ⟨fun u hu => by rw [if_neg (by omega)]; exact h1 u hu, h2⟩
 ·rfl
theorem b5z {d : Option Nat} {res : AV} (h : b8e N st1 st2) : b4p st2 N d res = b4p st1 N d res := by
 have e : st2.clear N = st1.clear N := by
  refine St.ext' (fun u => ?_) (fun u => h.2 u)
  simp only [St.clear]
  by_cases hu : u < N
  ·simp [hu, h.1 u hu]
  ·simp [hu]
 cases d <;> simp only [b4p, e]
theorem a0e {d : Option Nat} {f : FuncId} {pre : List AV} {res : AV} (hA : ACalls P G f pre res) (hn : a0k res = true) (h12 : b8e N st1 st2) (h : K (b4p st1 N d res)) : cal P G N d f pre st1 st2 K := d0f hA hn h (by rw [b5z h12]; exact h)
theorem a1j {aft : DA} {rest : List AO} {fps : List (List Nat × List Nat)} {d : Option Nat} {f : FuncId} {st : St} {pre : List AV} {rd : List Nat} {res : AV} (hA : ACalls P G f pre res) (hn : a0k res = true) (h12 : b8e N st1 st2) (hrd : ∀ t ∈ rd, t < N) (W : List Nat) (hW : ∀ t ∈ W, t < N) (hf : fr N W st (b4p st1 N d res)) (h : b0r aft.2 (b4p st1 N d res) /\ b1b P G N aft rest (fps ++ [(rd, W)]) K (b4p st1 N d res)) : d0w P G N aft d f pre rd rest fps K st st1 st2 := by
 cases hi : a09 res with
 | true => exact a0i hA hn hi hrd W hW hf h
 | false => exact b2a hA hn hi hrd W hW (by rw [b5z h12]; exact hf) (by rw [b5z h12]; exact h)
end
namespace Tryz
section
variable {bk : Nat -> Nat × Nat} {e : Er} {st : St} {N d t j : Nat} {x : X}
@[go_sem] theorem f9x : nm (a0s bk e) = false := by cases e <;> rfl
@[go_sem] theorem e29 : a0w (a0s bk e) = none := by cases e <;> rfl
@[go_sem] theorem d7c : a3r (a0s bk e) = none := by cases e <;> rfl
@[go_sem] theorem f24 : frz (a0s bk e) = a0s bk e := by cases e <;> simp only [a0s, frz]
@[go_sem] theorem e14 {kl : Nat -> List Nat -> Bool} : a1p kl (a0s bk e) = a0s bk e := by cases e <;> simp only [a0s, a1p]
@[go_sem] theorem f3x : mvS st d x (a0s bk e) = some (st.put d (a0s bk e)) := by cases e <;> simp [a0s, mvS, a0v]
@[go_sem] theorem e34 : c09 st N d (.t t) (a0s bk e) = some (st.put d (a0s bk e)) := by cases e <;> simp [a0s, go_sem]
@[go_sem] theorem f3h {q : List Nat} {o : Nat} : ldK st t q o (some (a0s bk e)) = some (a0s bk e) := by cases e <;> simp [a0s, ldK, a0v]
@[go_sem] theorem f4s : psS st N (.t t) j (a0s bk e) = some (st.put j (a0s bk e)) := by cases e <;> simp [a0s, go_sem]
@[go_sem] theorem f29 : gvS st N (.t t) j (a0s bk e) = some (st.put j (a0s bk e)) := by cases e <;> simp [a0s, go_sem]
@[go_sem] theorem e51 {i : Nat} {ks : List AV} : d8a st N d (.t t) i ks (some (a0s bk e)) = some (st.put d (a0s bk e)) := by cases e <;> simp [a0s, go_sem]
@[go_sem] theorem f2o : a4e .eql 2 (a0s bk e) (.lit .nilIface) = some (.lit (.bool e.isNil)) := by cases e <;> rfl
@[go_sem] theorem f30 : a4e .neq 2 (a0s bk e) (.lit .nilIface) = some (.lit (.bool !e.isNil)) := by cases e <;> rfl
def kE (st : St) (t : Nat) : Er -> St
 | .at _ _ => st.put t .dead
 | _ => st
@[go_sem] theorem f28 : giv st N (.t t) (a0s bk e) = some (kE st t e, [a0s bk e]) := by cases e <;> simp [a0s, go_sem, kE, d3o]
@[go_sem] theorem g7z {u : Nat} (h : u ≠ t) : (kE st t e).s u = st.s u := by cases e <;> simp [kE, h]
@[go_sem] theorem g6u {u : Nat} : (kE st t e).ep u = st.ep u := by cases e <;> simp [kE, St.put_ep, a0w]
end
end Tryz
end Go.Ideal
end
