/- Part Qaj of the proof: a machine with trees for values, its soundness, and walks on it. -/
import Derived.Test.YtfncabcldhemkaaGreatDoorQah
import Derived.Test.YtfncabcldhemkaaGreatDoorQag
import Derived.Test.YtfncabcldhemkaaGreatDoorQai
set_option linter.unusedVariables false
set_option linter.unusedSimpArgs false
set_option maxRecDepth 10000
section
namespace Go.Ideal.Tryz
section
variable {G : GG} {bk : Nat -> Nat × Nat} {Q : Exit -> St -> Prop} {st : St}
theorem a48 {e : Er} : e.isNil = true ↔ e = .nil := by cases e <;> simp [Er.isNil]
theorem g6t (hS : Sent G bk) {e : Er} (he : e.ok) (k : Int) : ACalls pg G b35 [a0s bk e, li k] (lb (decide (e.flt = (k, false, 0)))) := by
 refine b7m rfl ?_
 simp (disch := omega) [go_sem, b42]
 refine a0b (b91 k) rfl rfl ?_
 simp (disch := omega) [go_sem]
 refine a0e (d2s hS he (k, false, 0)) rfl (by simp (disch := omega) [go_sem]) ?_
 simp (disch := omega) [go_sem]
end
end Go.Ideal.Tryz
end
section
namespace Go.Ideal.Tryz
def b6z (m : Nat) (t : Tn) : Bool := decide (t.shape.length <= 8) && decide (t.data.length <= m)
def c4m (k m : Nat) (ts : List Tn) : Bool := decide (ts.length <= k) && ts.all (b6z m)
def b17 (v : Vw) : Bool := decide (v.shape.length <= 8)
def b16 (v : Ds) : Bool := decide (v.shape.length <= 8)
def a7w (v : In) : Bool := decide (v.ins.length <= 10) && decide (v.args.length <= 10)
def b6e (p : Pl) : Bool := decide (p.views.length <= 140) && decide (p.weights.length <= 10) && decide (p.code.length <= 300) && c4m 70 300 p.consts && p.views.all b17 && p.weights.all b16 && p.code.all a7w
@[go_sem] theorem f7e {xs : List Vw} {i : Nat} (h : i < xs.length) : ((fm eV xs).drop (i * 3 + 1)).take 2 = [slI xs[i].shape, lb xs[i].wide] := by
 have := congrArg (List.drop 1) (e5i h)
 rw [List.drop_take, List.drop_drop] at this
 exact this
@[go_sem] theorem g7q {xs : List In} {i : Nat} (h : i < xs.length) : (fm eI xs)[i * 6]? = some (li xs[i].op) := c3i (f := eI) (k := 6) (j := 0) (fun _ => rfl) h (by omega)
@[go_sem] theorem g7r {xs : List In} {i : Nat} (h : i < xs.length) : (fm eI xs)[i * 6 + 2]? = some (slI xs[i].ins) := c3i (f := eI) (k := 6) (fun _ => rfl) h (by omega)
@[go_sem] theorem g7s {xs : List In} {i : Nat} (h : i < xs.length) : (fm eI xs)[i * 6 + 3]? = some (slI xs[i].args) := c3i (f := eI) (k := 6) (fun _ => rfl) h (by omega)
section
variable {G : GG} {bk : Nat -> Nat × Nat} {Q : Exit -> St -> Prop} {st : St}
theorem c9s (ts : List Tn) (k m : Nat) (hn : ts.length < 2 ^ 62) (hf : ∀ x ∈ ts, x.shape.length < 2 ^ 62 /\ x.data.length < 2 ^ 62) : ACalls pg G b2j [slT ts, li k, li m] (lb (c4m k m ts)) := by
 refine a91 rfl ?_
 by_cases h70 : ts.length <= k
 ·have h70' : ¬ (k : Int) < ts.length := by omega
  simp (disch := omega) [go_sem, a4h, h70']
  refine a08 Nat (fun i st => i <= ts.length /\ (ts.drop i).all (b6z m) = ts.all (b6z m) /\ st.s 0 = slT ts /\ st.s 1 = li k /\ st.s 2 = li m /\ st.s 7 = li i) (fun i => ts.length - i) 0 ⟨by simp, rfl, by simp (disch := omega) [go_sem]⟩ ?_
  rintro i st K ⟨hi, hm, h⟩ hK
  by_cases hlt : i < ts.length
  ·rw [List.drop_eq_getElem_cons hlt, List.all_cons] at hm
   have hfi := hf _ (List.getElem_mem hlt)
   have c := e0e (G := G) ts[i].shape ts[i].wide ts[i].data m hfi.1
   simp (disch := omega) [go_sem, a37, h, hlt]
   refine a0b c rfl rfl ?_
   cases hb : (decide (ts[i].shape.length <= 8) && decide (ts[i].data.length <= m)) with
   | true =>
    rw [show b6z m ts[i] = true from hb] at hm
    simp (disch := omega) [go_sem, h]
    exact hK (i + 1) _ ⟨by omega, hm, by simp (disch := omega) [go_sem, h]⟩ (by omega)
   | false =>
    rw [show b6z m ts[i] = false from hb] at hm
    have hm' : ts.all (b6z m) = false := hm.symm
    simp (disch := omega) [go_sem, h, c4m, hm']
  ·obtain rfl : i = ts.length := by omega
   rw [List.drop_length] at hm
   have hm' : ts.all (b6z m) = true := hm.symm
   simp (disch := omega) [go_sem, a37, h, c4m, h70, hm']
 ·have h70' : (k : Int) < ts.length := by omega
  simp (disch := omega) [go_sem, a4h, h70', c4m, h70]
theorem d6b {p : Pl} (hf : p.fin) (h : st.s 1 = .var (eP p) /\ st.s 3 = li 0) (hbad : p.views.all b17 = false -> ∀ s, s.s 2 = lb false -> Q .ret s) (hex : p.views.all b17 = true -> ∀ s, s.s 1 = .var (eP p) -> Q (.exit 0) s) : AW pg G 82 (.loop a23) Q st := by
 refine a08 Nat (fun i st => i <= p.views.length /\ (p.views.drop i).all b17 = p.views.all b17 /\ st.s 1 = .var (eP p) /\ st.s 3 = li i) (fun i => p.views.length - i) 0 ⟨by simp, rfl, by simp (disch := omega) [go_sem, h]⟩ ?_
 clear h
 rintro i st K ⟨hi, hm, h⟩ hK
 have hl := hf.vl
 by_cases hlt : i < p.views.length
 ·rw [List.drop_eq_getElem_cons hlt, List.all_cons] at hm
  have c := c66 (G := G) p.views[i].shape p.views[i].wide (hf.vs _ (List.getElem_mem hlt))
  simp (disch := omega) [go_sem, a23, h, hlt, eP]
  refine a0b c rfl rfl ?_
  cases hb : decide (p.views[i].shape.length <= 8) with
  | true =>
   rw [show b17 p.views[i] = true from hb] at hm
   simp (disch := omega) [go_sem, h]
   exact hK (i + 1) _ ⟨by omega, hm, by simp (disch := omega) [go_sem, h, eP]⟩ (by omega)
  | false =>
   rw [show b17 p.views[i] = false from hb] at hm
   simp (disch := omega) [go_sem, h]
   exact hbad hm.symm _ (by simp (disch := omega) [go_sem, h])
 ·obtain rfl : i = p.views.length := by omega
  rw [List.drop_length] at hm
  simp (disch := omega) [go_sem, a23, h, eP]
  exact hex hm.symm _ (by simp (disch := omega) [go_sem, h, eP])
theorem d6c {p : Pl} (hf : p.fin) (h : st.s 1 = .var (eP p) /\ st.s 4 = li 0) (hbad : p.weights.all b16 = false -> ∀ s, s.s 2 = lb false -> Q .ret s) (hex : p.weights.all b16 = true -> ∀ s, s.s 1 = .var (eP p) -> Q (.exit 2) s) : AW pg G 82 (.loop a24) Q st := by
 refine a08 Nat (fun i st => i <= p.weights.length /\ (p.weights.drop i).all b16 = p.weights.all b16 /\ st.s 1 = .var (eP p) /\ st.s 4 = li i) (fun i => p.weights.length - i) 0 ⟨by simp, rfl, by simp (disch := omega) [go_sem, h]⟩ ?_
 clear h
 rintro i st K ⟨hi, hm, h⟩ hK
 have hl := hf.wl
 by_cases hlt : i < p.weights.length
 ·rw [List.drop_eq_getElem_cons hlt, List.all_cons] at hm
  have c := c66 (G := G) p.weights[i].shape p.weights[i].wide (hf.ws _ (List.getElem_mem hlt))
  simp (disch := omega) [go_sem, a24, h, hlt, eP]
  refine a0b c rfl rfl ?_
  cases hb : decide (p.weights[i].shape.length <= 8) with
  | true =>
   rw [show b16 p.weights[i] = true from hb] at hm
   simp (disch := omega) [go_sem, h]
   exact hK (i + 1) _ ⟨by omega, hm, by simp (disch := omega) [go_sem, h, eP]⟩ (by omega)
  | false =>
   rw [show b16 p.weights[i] = false from hb] at hm
   simp (disch := omega) [go_sem, h]
   exact hbad hm.symm _ (by simp (disch := omega) [go_sem, h])
 ·obtain rfl : i = p.weights.length := by omega
  rw [List.drop_length] at hm
  simp (disch := omega) [go_sem, a24, h, eP]
  exact hex hm.symm _ (by simp (disch := omega) [go_sem, h, eP])
theorem d6d {p : Pl} (hf : p.fin) (h : st.s 1 = .var (eP p) /\ st.s 5 = li 0) (hbad : p.code.all a7w = false -> ∀ s, s.s 2 = lb false -> Q .ret s) (hex : p.code.all a7w = true -> ∀ s, Q (.exit 4) s) : AW pg G 82 (.loop a15) Q st := by
 refine a08 Nat (fun i st => i <= p.code.length /\ (p.code.drop i).all a7w = p.code.all a7w /\ st.s 1 = .var (eP p) /\ st.s 5 = li i) (fun i => p.code.length - i) 0 ⟨by simp, rfl, by simp (disch := omega) [go_sem, h]⟩ ?_
 clear h
 rintro i st K ⟨hi, hm, h⟩ hK
 have hl := hf.il
 by_cases hlt : i < p.code.length
 ·rw [List.drop_eq_getElem_cons hlt, List.all_cons] at hm
  obtain ⟨f1, f2⟩ := hf.is _ (List.getElem_mem hlt)
  by_cases k1 : p.code[i].ins.length <= 10
  ·have k1' : ¬ (10 : Int) < p.code[i].ins.length := by omega
   by_cases k2 : p.code[i].args.length <= 10
   ·have k2' : ¬ (10 : Int) < p.code[i].args.length := by omega
    rw [show a7w p.code[i] = true by simp [a7w, k1, k2]] at hm
    simp (disch := omega) [go_sem, a15, h, hlt, eP, k1', k2']
    exact hK (i + 1) _ ⟨by omega, hm, by simp (disch := omega) [go_sem, h, eP]⟩ (by omega)
   ·have k2' : (10 : Int) < p.code[i].args.length := by omega
    rw [show a7w p.code[i] = false by simp [a7w, k2]] at hm
    simp (disch := omega) [go_sem, a15, h, hlt, eP, k1', k2']
    exact hbad hm.symm _ (by simp (disch := omega) [go_sem, h])
  ·have k1' : (10 : Int) < p.code[i].ins.length := by omega
   rw [show a7w p.code[i] = false by simp [a7w, k1]] at hm
   simp (disch := omega) [go_sem, a15, h, hlt, eP, k1']
   exact hbad hm.symm _ (by simp (disch := omega) [go_sem, h])
 ·obtain rfl : i = p.code.length := by omega
  rw [List.drop_length] at hm
  simp (disch := omega) [go_sem, a15, h, eP]
  exact hex hm.symm _
theorem f00 {p : Pl} (k1 : p.views.length <= 140) (k2 : p.weights.length <= 10) (k3 : p.code.length <= 300) (hb : c4m 70 300 p.consts = true) : b6e p = (p.views.all b17 && p.weights.all b16 && p.code.all a7w) := by
 unfold b6e
 rw [decide_eq_true k1, decide_eq_true k2, decide_eq_true k3, hb]
 rfl
theorem d3e (p : Pl) (hf : p.fin) : ACalls pg G b5x [.agg (eP p)] (lb (b6e p)) := by
 refine b2y rfl ?_
 obtain ⟨hl1, hl2, hl3, hl4, -⟩ := id hf
 have cT := c9s (G := G) p.consts 70 300 hf.cl hf.cs
 have rest : ∀ {Q : Exit -> St -> Prop} {st : St}, st.s 1 = .var (eP p) -> ((p.views.all b17 && p.weights.all b16 && p.code.all a7w) = true -> ∀ s, s.s 2 = lb true -> Q .ret s) -> ((p.views.all b17 && p.weights.all b16 && p.code.all a7w) = false -> ∀ s, s.s 2 = lb false -> Q .ret s) -> AW pg G 82 (.seq (.seq (.reg lodgeworld_Plan_r3) (.block 0 (.loop a23))) (.seq (.seq (.reg lodgeworld_Plan_r8) (.block 2 (.loop a24))) (.seq (.seq (.reg lodgeworld_Plan_r13) (.block 4 (.loop a15))) (.seq (.reg lodgeworld_Plan_r18) .ret)))) Q st := by
  intro Q st h ht hfal
  simp (disch := omega) [go_sem, h]
  refine d6b hf (by simp (disch := omega) [go_sem, h]) (fun e s h => ?_) fun e s h => ?_
  ·exact hfal (by rw [e]; rfl) _ (by simp (disch := omega) [go_sem, h])
  ·simp (disch := omega) [go_sem, h]
   refine d6c hf (by simp (disch := omega) [go_sem, h]) (fun e2 s h => ?_) fun e2 s h => ?_
   ·exact hfal (by rw [e, e2]; rfl) _ (by simp (disch := omega) [go_sem, h])
   ·simp (disch := omega) [go_sem, h]
    refine d6d hf (by simp (disch := omega) [go_sem, h]) (fun e3 s h => ?_) fun e3 s => ?_
    ·exact hfal (by rw [e, e2, e3]; rfl) _ (by simp (disch := omega) [go_sem, h])
    ·simp (disch := omega) [go_sem]
     exact ht (by rw [e, e2, e3]; rfl) _ (by simp (disch := omega) [go_sem])
 by_cases k1 : p.views.length <= 140
 ·have k1' : ¬ (140 : Int) < p.views.length := by omega
  by_cases k2 : p.weights.length <= 10
  ·have k2' : ¬ (10 : Int) < p.weights.length := by omega
   by_cases k3 : p.code.length <= 300
   ·have k3' : ¬ (300 : Int) < p.code.length := by omega
    cases hb : c4m 70 300 p.consts with
    | true =>
     rw [hb] at cT
     simp (disch := omega) [go_sem, a2v, eP, k1', k2', k3']
     refine a0b cT rfl rfl ?_
     simp (disch := omega) [go_sem]
     refine rest (by simp (disch := omega) [go_sem, eP]) (fun e s h => ?_) fun e s h => ?_
     ·have ew : b6e p = true := by rw [f00 k1 k2 k3 hb]; exact e
      simp (disch := omega) [go_sem, h, ew]
     ·have ew : b6e p = false := by rw [f00 k1 k2 k3 hb]; exact e
      simp (disch := omega) [go_sem, h, ew]
    | false =>
     rw [hb] at cT
     simp (disch := omega) [go_sem, a2v, eP, k1', k2', k3']
     refine a0b cT rfl rfl ?_
     simp (disch := omega) [go_sem, b6e, hb]
   ·have k3' : (300 : Int) < p.code.length := by omega
    simp (disch := omega) [go_sem, a2v, eP, k1', k2', k3', b6e, k3]
  ·have k2' : (10 : Int) < p.weights.length := by omega
   simp (disch := omega) [go_sem, a2v, eP, k1', k2', b6e, k2]
 ·have k1' : (140 : Int) < p.views.length := by omega
  simp (disch := omega) [go_sem, a2v, eP, k1', b6e, k1]
theorem d2r (a b : In) (ha : a.ins.length < 2 ^ 62) (ha2 : a.args.length < 2 ^ 62) : ACalls pg G a6z [.agg (eI a), .agg (eI b)] (lb (decide (a = b))) := by
 refine a9y rfl ?_
 obtain ⟨o1, d1, i1, a1, f1, t1⟩ := a
 obtain ⟨o2, d2, i2, a2, f2, t2⟩ := b
 simp only at ha ha2
 simp (disch := omega) [go_sem, a63, eI]
 refine a0b (a9p ha) rfl rfl ?_
 simp (disch := omega) [go_sem]
 refine a0b (a9p ha2) rfl rfl ?_
 by_cases k3 : i1 = i2
 ·subst k3
  by_cases k4 : a1 = a2
  ·subst k4
   by_cases k1 : o1 = o2
   ·subst k1
    by_cases k2 : d1 = d2
    ·subst k2
     by_cases k5 : f1 = f2
     ·subst k5
      by_cases k6 : t1 = t2 <;> simp (disch := omega) [go_sem, k6, In.mk.injEq]
     ·simp (disch := omega) [go_sem, k5, In.mk.injEq]
    ·simp (disch := omega) [go_sem, k2, In.mk.injEq]
   ·simp (disch := omega) [go_sem, k1, In.mk.injEq]
  ·simp (disch := omega) [go_sem, k4, In.mk.injEq]
 ·simp (disch := omega) [go_sem, k3, In.mk.injEq]
end
end Go.Ideal.Tryz
end
section
namespace Go.Ideal.Tryz
abbrev Dr := Ds × Er
def dn : Ds := ⟨[], false⟩
def bad (g : Nat) : Dr := (dn, .s g)
def chk (e : Er) (r : Dr) : Dr := if e.isNil = true then r else (dn, e)
def a1s (n : Int) : Bool := decide (-128 <= n) && decide (n <= 127)
def a6r (sh : List Int) (w : Bool) : Dr := chk (a03 sh) (⟨sh, w⟩, .nil)
def c0h (za zb : Int) (a b : Ds) : Dr :=
 chk (a03 a.shape) (chk (a03 b.shape) (
  if a.shape.length = 2 /\ b.shape.length = 2 /\ a.shape[1]! = b.shape[0]! /\ a.wide = false /\ b.wide = false then
   (if (a1s za && a1s zb) = true then a6r [a.shape[0]!, b.shape[1]!] true else bad 3) else bad 6))
def a8l (args : List Int) (a k : Ds) : Dr :=
 chk (a03 a.shape) (chk (a03 k.shape) (
  if a.shape.length = 3 /\ k.shape.length = 4 /\ a.shape[2]! = k.shape[2]! /\ a.wide = false /\ k.wide = false then
   (if 1 <= args[0]! /\ args[0]! <= 16 /\ 0 <= args[1]! /\ args[1]! <= 15 /\ a1s args[2]! = true then
    (if 0 <= a.shape[0]! + 2 * args[1]! - k.shape[0]! /\ 0 <= a.shape[1]! + 2 * args[1]! - k.shape[1]! then
     a6r [(a.shape[0]! + 2 * args[1]! - k.shape[0]!) / args[0]! + 1, (a.shape[1]! + 2 * args[1]! - k.shape[1]!) / args[0]! + 1, k.shape[3]!] true else bad 6) else bad 3) else bad 6))
def a70 (args : List Int) (a : Ds) : Dr :=
 chk (a03 a.shape) (
  if a.shape.length = 3 then
   (if 1 <= args[0]! /\ args[0]! <= 16 /\ 1 <= args[1]! /\ args[1]! <= 16 then
    (if 0 <= a.shape[0]! - args[0]! /\ 0 <= a.shape[1]! - args[0]! then
     (⟨[(a.shape[0]! - args[0]!) / args[1]! + 1, (a.shape[1]! - args[0]!) / args[1]! + 1, a.shape[2]!], a.wide⟩, .nil) else bad 6) else bad 3) else bad 6)
instance : Inhabited Ds := ⟨dn⟩
def a1m (op : Int) (ins : List Ds) : Ds × Bool :=
 if op = 16 then (ins[0]!, decide (0 < ins[0]!.shape.length /\ ins[0]!.wide = false /\ ins[1]! = ⟨[256], true⟩))
 else if op = 17 then (if ins[0]!.shape.length = 2 /\ ins[1]!.shape.length = 1 /\ ins[1]!.wide = true then (⟨[ins[1]!.shape[0]!, ins[0]!.shape[1]!], ins[0]!.wide⟩, true) else (dn, false))
 else (if ins[0]!.shape.length = 0 then (dn, false) else (⟨ins[0]!.shape.dropLast, true⟩, true))
def a81 : List Ds -> Dr -> Dr
 | [], r => r
 | d :: ds, r => chk (a03 d.shape) (a81 ds r)
def a3c (op : Int) (ins : List Ds) : Dr := a81 ins (if (a1m op ins).2 = true then a6r (a1m op ins).1.shape (a1m op ins).1.wide else bad 6)
def b9h (n : Int) (w : Bool) : Bool := if w = true then decide (-2147483648 <= n) && decide (n <= 2147483647) else a1s n
def a1q (op : Int) (args : List Int) (w : Bool) : Bool :=
 if op = 9 then decide (args[0]! <= args[1]!) && (b9h args[0]! w && b9h args[1]! w)
 else if op = 10 then (decide (0 <= args[0]!) && decide (args[0]! <= 2147483647)) && ((decide (0 <= args[1]!) && decide (args[1]! <= 62)) && a1s args[2]!)
 else if op = 11 then a1s args[0]!
 else true
def a1u (op : Int) (w : Bool) : Bool := if op = 10 then false else if op = 11 then true else w
def a13 (op : Int) (args : List Int) (ins : List Ds) : Dr := a81 ins (
 if (ins.length = 2 /\ ins[0]! ≠ ins[1]!) \/ (op = 10 /\ ins[0]!.wide = false) \/ (op = 11 /\ ins[0]!.wide = true) then bad 6
 else if a1q op args ins[0]!.wide = true then (⟨ins[0]!.shape, a1u op ins[0]!.wide⟩, .nil) else bad 3)
def a4s (args : List Int) (a : Ds) : Dr := chk (a03 a.shape) (chk (a03 args) (if a22 a.shape = a22 args then (⟨args, a.wide⟩, .nil) else bad 6))
def b5l (a : Ds) : Dr := chk (a03 a.shape) (if a.shape.length = 2 then (⟨[a.shape[1]!, a.shape[0]!], a.wide⟩, .nil) else bad 6)
def a0x (op : Int) : Bool := decide (4 <= op) && decide (op <= 21)
def a1x (op : Int) : Nat := if op = 4 \/ op = 5 \/ op = 6 \/ op = 7 \/ op = 12 \/ op = 13 \/ op = 16 \/ op = 17 then 2 else if a0x op = true then 1 else 0
def a1c (op : Int) : Nat := if op = 9 \/ op = 12 \/ op = 14 \/ op = 15 then 2 else if op = 10 \/ op = 13 then 3 else if op = 11 then 1 else 0
def opR (op : Int) (args : List Int) (ins : List Ds) : Dr :=
 if a0x op = true then
  if ins.length = a1x op /\ (op = 18 \/ args.length = a1c op) then
   if op = 12 then c0h args[0]! args[1]! ins[0]! ins[1]!
   else if op = 13 then a8l args ins[0]! ins[1]!
   else if op = 14 \/ op = 15 then a70 args ins[0]!
   else if op = 16 \/ op = 17 \/ op = 19 \/ op = 20 then a3c op ins
   else if op = 18 then a4s args ins[0]!
   else if op = 21 then b5l ins[0]!
   else a13 op args ins
  else bad 6
 else bad 5
def opU (op : Int) (args : List Int) (ins : List Ds) : Int :=
 if op = 10 then 2
 else if op = 12 then ins[0]!.shape[1]!
 else if op = 13 then ins[1]!.shape[0]! * ins[1]!.shape[1]! * ins[1]!.shape[2]!
 else if op = 14 \/ op = 15 then args[0]! * args[0]!
 else if op = 16 \/ op = 19 \/ op = 20 then ins[0]!.shape[ins[0]!.shape.length - 1]!
 else 1
end Go.Ideal.Tryz
end
section
namespace Go.Ideal.Tryz
def atE (k : Int) : Er -> Er
 | .nil => .nil
 | .s g => .at k (.s g)
 | .at _ e => .at k e
def orE (a b : Er) : Er := if a.isNil = true then b else a
def a04 {α : Type} (f : α -> Er) : List α -> Int -> Er
 | [], _ => .nil
 | x :: xs, k => if (f x).isNil = true then a04 f xs (k + 1) else atE k (f x)
def b0x (size : Int) (v : Vw) : Er := if (a03 v.shape).isNil = true then (if 0 <= v.off /\ v.off <= size /\ a32 v.shape v.wide <= size - v.off then .nil else .s 3) else a03 v.shape
def tE (t : Tn) : Er := a95 t.shape t.wide t.data
def dE (d : Ds) : Er := a03 d.shape
def a14 (p : Pl) (k : Int) : Bool := decide (0 <= k) && decide (k < (p.views.length : Int))
def a2o (p : Pl) : Er :=
 if 128 < p.views.length \/ 64 < p.consts.length \/ 8 < p.weights.length \/ 2048 < p.code.length then .s 2
 else if p.size < 0 \/ 65536 < p.size then .s 3
 else orE (a04 (b0x p.size) p.views 0) (orE (a04 tE p.consts 0) (orE (a04 dE p.weights 0) (if (a14 p p.input && a14 p p.output) = true then .nil else .s 3)))
instance : Inhabited Vw := ⟨⟨0, [], false⟩⟩
instance : Inhabited Tn := ⟨⟨[], false, []⟩⟩
instance : Inhabited In := ⟨⟨0, 0, [], [], 0, 0⟩⟩
def Vw.ds (v : Vw) : Ds := ⟨v.shape, v.wide⟩
def Tn.ds (v : Tn) : Ds := ⟨v.shape, v.wide⟩
def a5n (a b : Vw) : Bool := decide (a.off + a32 a.shape a.wide <= b.off) || decide (b.off + a32 b.shape b.wide <= a.off)
def b9o (i : In) : Bool := decide (i.op = 2) || (decide (i.op = 3) || a0x i.op)
def a83 (p : Pl) (i : In) : List Ds := i.ins.map fun k => (p.views[k.toNat]!).ds
def c3a (p : Pl) (i : In) : Vw := p.views[i.dst.toNat]!
def c50 (op : Int) : Nat := if op = 24 then 0 else 1
def f83 (op : Int) : Nat := if op = 23 then 1 else 0
def a6m (p : Pl) (i : In) : Er :=
 if i.args.length = c50 i.op /\ i.ins.length = f83 i.op then (if 0 < c50 i.op /\ (i.args[0]! < 0 \/ (p.code.length : Int) < i.args[0]!) then .s 10 else .nil) else .s 6
def b23 (p : Pl) (i : In) : Option Ds :=
 if i.op = 2 /\ (0 : Int) <= i.args[0]! /\ i.args[0]! < (p.consts.length : Int) then some (p.consts[i.args[0]!.toNat]!).ds
 else if i.op = 3 /\ (0 : Int) <= i.args[0]! /\ i.args[0]! < (p.weights.length : Int) then some (p.weights[i.args[0]!.toNat]!) else none
def a3f (p : Pl) (i : In) : Int × Er :=
 if a0x i.op = true then
  (if (opR i.op i.args (a83 p i)).2.isNil = true then
   (if (opR i.op i.args (a83 p i)).1 = (c3a p i).ds then
    (if (i.ins.all fun k => a5n (c3a p i) (p.views[k.toNat]!)) = true then (opU i.op i.args (a83 p i), .nil) else (0, .s 8))
   else (0, .s 6))
  else (0, (opR i.op i.args (a83 p i)).2))
 else if i.args.length = 1 /\ i.ins.length = 0 then
  (match b23 p i with
  | none => (0, .s 0)
  | some d => if d = (c3a p i).ds then (1, .nil) else (0, .s 6))
 else (0, .s 6)
def c28 (p : Pl) (i : In) (u : Int) : Int × Er :=
 if 0 <= i.frm /\ i.frm <= i.to /\ i.to <= a22 (c3a p i).shape then
  (if max ((i.to - i.frm) * u) 1 <= 1024 then (max ((i.to - i.frm) * u) 1, .nil) else (0, .s 9))
 else (0, .s 3)
def a1v (p : Pl) (i : In) : Int × Er :=
 if b9o i = false /\ (i.op < 22 \/ 24 < i.op) then (0, .s 5)
 else if b9o i = true /\ a14 p i.dst = false then (0, .s 0)
 else if (i.ins.all (a14 p)) = false then (0, .s 0)
 else if b9o i = false then
  (if (a6m p i).isNil = true then (if i.dst = 0 /\ i.frm = 0 /\ i.to = 0 then (1, .nil) else (0, .s 3)) else (0, a6m p i))
 else if (a3f p i).2.isNil = true then c28 p i (a3f p i).1 else (0, (a3f p i).2)
def a5t (p : Pl) : Er := orE (a2o p) (a04 (fun i => (a1v p i).2) p.code 0)
def b61 (p : Pl) : Int := (p.code.map fun i => (a1v p i).1).sum
end Go.Ideal.Tryz
end
