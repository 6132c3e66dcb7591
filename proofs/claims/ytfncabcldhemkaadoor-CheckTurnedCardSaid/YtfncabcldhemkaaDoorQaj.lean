/- Part Qaj of the proof: a machine with trees for values, its soundness, and walks on it. -/
import Derived.Test.YtfncabcldhemkaaDoorQag
import Derived.Test.YtfncabcldhemkaaDoorQah
import Derived.Test.YtfncabcldhemkaaDoorQai
section
set_option linter.unusedVariables false
set_option linter.unusedSimpArgs false
set_option maxRecDepth 10000
namespace Go.Ideal.Tryd
section
variable {G : GG} {bk : Nat → Nat × Nat} {Q : Exit → St → Prop} {st : St}
theorem b1z {e : Er} : e.isNil = true ↔ e = .nil := by cases e <;> simp [Er.isNil]
theorem h8s (hS : Sent G bk) {e : Er} (he : e.ok) (k : Int) : ACalls pg G d3b [a0m bk e, li k] (lb (decide (e.flt = (k, false, 0)))) := by
  refine b81 rfl ?_
  simp (disch := omega) [go_sem, b51]
  refine a0d (e83 k) rfl rfl ?_
  simp (disch := omega) [go_sem]
  refine a0f (b0t hS he (k, false, 0)) rfl (by simp (disch := omega) [go_sem]) ?_
  simp (disch := omega) [go_sem]
end
end Go.Ideal.Tryd
end
section
set_option linter.unusedVariables false
set_option linter.unusedSimpArgs false
set_option maxRecDepth 10000
namespace Go.Ideal.Tryd
def b8j (m : Nat) (t : Tn) : Bool := decide (t.shape.length ≤ 8) && decide (t.data.length ≤ m)
def d55 (k m : Nat) (ts : List Tn) : Bool := decide (ts.length ≤ k) && ts.all (b8j m)
def b17 (v : Vw) : Bool := decide (v.shape.length ≤ 8)
def b1t (v : Ds) : Bool := decide (v.shape.length ≤ 8)
def a52 (v : In) : Bool := decide (v.ins.length ≤ 10) && decide (v.args.length ≤ 10)
def b87 (p : Pl) : Bool := decide (p.views.length ≤ 140) && decide (p.weights.length ≤ 10) && decide (p.code.length ≤ 300) && d55 70 300 p.consts && p.views.all b17 && p.weights.all b1t && p.code.all a52
@[go_sem] theorem g9k {xs : List Vw} {i : Nat} (h : i < xs.length) : ((fm eV xs).drop (i * 3 + 1)).take 2 = [slI xs[i].shape, lb xs[i].wide] := by
  have := congrArg (List.drop 1) (f8o h)
  rw [List.drop_take, List.drop_drop] at this
  exact this
@[go_sem] theorem h9p {xs : List In} {i : Nat} (h : i < xs.length) : (fm eI xs)[i * 6]? = some (li xs[i].op) := d7w (f := eI) (k := 6) (j := 0) (fun _ => rfl) h (by omega)
@[go_sem] theorem h9v {xs : List In} {i : Nat} (h : i < xs.length) : (fm eI xs)[i * 6 + 2]? = some (slI xs[i].ins) := d7w (f := eI) (k := 6) (fun _ => rfl) h (by omega)
@[go_sem] theorem h9k {xs : List In} {i : Nat} (h : i < xs.length) : (fm eI xs)[i * 6 + 3]? = some (slI xs[i].args) := d7w (f := eI) (k := 6) (fun _ => rfl) h (by omega)
section
variable {G : GG} {bk : Nat → Nat × Nat} {Q : Exit → St → Prop} {st : St}
theorem e12 (ts : List Tn) (k m : Nat) (hn : ts.length < 2 ^ 62) (hf : ∀ x ∈ ts, x.shape.length < 2 ^ 62 ∧ x.data.length < 2 ^ 62) : ACalls pg G b2l [slT ts, li k, li m] (lb (d55 k m ts)) := by
  refine a97 rfl ?_
  by_cases h70 : ts.length ≤ k
  · have h70' : ¬ (k : Int) < ts.length := by omega
    simp (disch := omega) [go_sem, a3l, h70']
    refine a1g Nat (fun i st => i ≤ ts.length ∧ (ts.drop i).all (b8j m) = ts.all (b8j m) ∧ st.s 0 = slT ts ∧ st.s 1 = li k ∧ st.s 2 = li m ∧ st.s 7 = li i) (fun i => ts.length - i) 0 ⟨by simp, rfl, by simp (disch := omega) [go_sem]⟩ ?_
    rintro i st K ⟨hi, hm, h⟩ hK
    by_cases hlt : i < ts.length
    · rw [List.drop_eq_getElem_cons hlt, List.all_cons] at hm
      have hfi := hf _ (List.getElem_mem hlt)
      have c := f1f (G := G) ts[i].shape ts[i].wide ts[i].data m hfi.1
      simp (disch := omega) [go_sem, a3b, h, hlt]
      refine a0d c rfl rfl ?_
      cases hb : (decide (ts[i].shape.length ≤ 8) && decide (ts[i].data.length ≤ m)) with
      | true =>
        rw [show b8j m ts[i] = true from hb] at hm
        simp (disch := omega) [go_sem, h]
        exact hK (i + 1) _ ⟨by omega, hm, by simp (disch := omega) [go_sem, h]⟩ (by omega)
      | false =>
        rw [show b8j m ts[i] = false from hb] at hm
        have hm' : ts.all (b8j m) = false := hm.symm
        simp (disch := omega) [go_sem, h, d55, hm']
    · obtain rfl : i = ts.length := by omega
      rw [List.drop_length] at hm
      have hm' : ts.all (b8j m) = true := hm.symm
      simp (disch := omega) [go_sem, a3b, h, d55, h70, hm']
  · have h70' : (k : Int) < ts.length := by omega
    simp (disch := omega) [go_sem, a3l, h70', d55, h70]
theorem e7p {p : Pl} (hf : p.fin) (h : st.s 1 = .var (eP p) ∧ st.s 3 = li 0) (hbad : p.views.all b17 = false → ∀ s, s.s 2 = lb false → Q .ret s) (hex : p.views.all b17 = true → ∀ s, s.s 1 = .var (eP p) → Q (.exit 0) s) : AW pg G 82 (.loop a2g) Q st := by
  refine a1g Nat (fun i st => i ≤ p.views.length ∧ (p.views.drop i).all b17 = p.views.all b17 ∧ st.s 1 = .var (eP p) ∧ st.s 3 = li i) (fun i => p.views.length - i) 0 ⟨by simp, rfl, by simp (disch := omega) [go_sem, h]⟩ ?_
  clear h
  rintro i st K ⟨hi, hm, h⟩ hK
  have hl := hf.vl
  by_cases hlt : i < p.views.length
  · rw [List.drop_eq_getElem_cons hlt, List.all_cons] at hm
    have c := d8l (G := G) p.views[i].shape p.views[i].wide (hf.vs _ (List.getElem_mem hlt))
    simp (disch := omega) [go_sem, a2g, h, hlt, eP]
    refine a0d c rfl rfl ?_
    cases hb : decide (p.views[i].shape.length ≤ 8) with
    | true =>
      rw [show b17 p.views[i] = true from hb] at hm
      simp (disch := omega) [go_sem, h]
      exact hK (i + 1) _ ⟨by omega, hm, by simp (disch := omega) [go_sem, h, eP]⟩ (by omega)
    | false =>
      rw [show b17 p.views[i] = false from hb] at hm
      simp (disch := omega) [go_sem, h]
      exact hbad hm.symm _ (by simp (disch := omega) [go_sem, h])
  · obtain rfl : i = p.views.length := by omega
    rw [List.drop_length] at hm
    simp (disch := omega) [go_sem, a2g, h, eP]
    exact hex hm.symm _ (by simp (disch := omega) [go_sem, h, eP])
theorem e7i {p : Pl} (hf : p.fin) (h : st.s 1 = .var (eP p) ∧ st.s 4 = li 0) (hbad : p.weights.all b1t = false → ∀ s, s.s 2 = lb false → Q .ret s) (hex : p.weights.all b1t = true → ∀ s, s.s 1 = .var (eP p) → Q (.exit 2) s) : AW pg G 82 (.loop a2d) Q st := by
  refine a1g Nat (fun i st => i ≤ p.weights.length ∧ (p.weights.drop i).all b1t = p.weights.all b1t ∧ st.s 1 = .var (eP p) ∧ st.s 4 = li i) (fun i => p.weights.length - i) 0 ⟨by simp, rfl, by simp (disch := omega) [go_sem, h]⟩ ?_
  clear h
  rintro i st K ⟨hi, hm, h⟩ hK
  have hl := hf.wl
  by_cases hlt : i < p.weights.length
  · rw [List.drop_eq_getElem_cons hlt, List.all_cons] at hm
    have c := d8l (G := G) p.weights[i].shape p.weights[i].wide (hf.ws _ (List.getElem_mem hlt))
    simp (disch := omega) [go_sem, a2d, h, hlt, eP]
    refine a0d c rfl rfl ?_
    cases hb : decide (p.weights[i].shape.length ≤ 8) with
    | true =>
      rw [show b1t p.weights[i] = true from hb] at hm
      simp (disch := omega) [go_sem, h]
      exact hK (i + 1) _ ⟨by omega, hm, by simp (disch := omega) [go_sem, h, eP]⟩ (by omega)
    | false =>
      rw [show b1t p.weights[i] = false from hb] at hm
      simp (disch := omega) [go_sem, h]
      exact hbad hm.symm _ (by simp (disch := omega) [go_sem, h])
  · obtain rfl : i = p.weights.length := by omega
    rw [List.drop_length] at hm
    simp (disch := omega) [go_sem, a2d, h, eP]
    exact hex hm.symm _ (by simp (disch := omega) [go_sem, h, eP])
theorem e79 {p : Pl} (hf : p.fin) (h : st.s 1 = .var (eP p) ∧ st.s 5 = li 0) (hbad : p.code.all a52 = false → ∀ s, s.s 2 = lb false → Q .ret s) (hex : p.code.all a52 = true → ∀ s, Q (.exit 4) s) : AW pg G 82 (.loop a1j) Q st := by
  refine a1g Nat (fun i st => i ≤ p.code.length ∧ (p.code.drop i).all a52 = p.code.all a52 ∧ st.s 1 = .var (eP p) ∧ st.s 5 = li i) (fun i => p.code.length - i) 0 ⟨by simp, rfl, by simp (disch := omega) [go_sem, h]⟩ ?_
  clear h
  rintro i st K ⟨hi, hm, h⟩ hK
  have hl := hf.il
  by_cases hlt : i < p.code.length
  · rw [List.drop_eq_getElem_cons hlt, List.all_cons] at hm
    obtain ⟨f1, f2⟩ := hf.is _ (List.getElem_mem hlt)
    by_cases k1 : p.code[i].ins.length ≤ 10
    · have k1' : ¬ (10 : Int) < p.code[i].ins.length := by omega
      by_cases k2 : p.code[i].args.length ≤ 10
      · have k2' : ¬ (10 : Int) < p.code[i].args.length := by omega
        rw [show a52 p.code[i] = true by simp [a52, k1, k2]] at hm
        simp (disch := omega) [go_sem, a1j, h, hlt, eP, k1', k2']
        exact hK (i + 1) _ ⟨by omega, hm, by simp (disch := omega) [go_sem, h, eP]⟩ (by omega)
      · have k2' : (10 : Int) < p.code[i].args.length := by omega
        rw [show a52 p.code[i] = false by simp [a52, k2]] at hm
        simp (disch := omega) [go_sem, a1j, h, hlt, eP, k1', k2']
        exact hbad hm.symm _ (by simp (disch := omega) [go_sem, h])
    · have k1' : (10 : Int) < p.code[i].ins.length := by omega
      rw [show a52 p.code[i] = false by simp [a52, k1]] at hm
      simp (disch := omega) [go_sem, a1j, h, hlt, eP, k1']
      exact hbad hm.symm _ (by simp (disch := omega) [go_sem, h])
  · obtain rfl : i = p.code.length := by omega
    rw [List.drop_length] at hm
    simp (disch := omega) [go_sem, a1j, h, eP]
    exact hex hm.symm _
theorem g2z {p : Pl} (k1 : p.views.length ≤ 140) (k2 : p.weights.length ≤ 10) (k3 : p.code.length ≤ 300) (hb : d55 70 300 p.consts = true) : b87 p = (p.views.all b17 && p.weights.all b1t && p.code.all a52) := by
  unfold b87
  rw [decide_eq_true k1, decide_eq_true k2, decide_eq_true k3, hb]
  rfl
theorem f2b (p : Pl) (hf : p.fin) : ACalls pg G b6s [.agg (eP p)] (lb (b87 p)) := by
  refine b2z rfl ?_
  obtain ⟨hl1, hl2, hl3, hl4, -⟩ := id hf
  have cT := e12 (G := G) p.consts 70 300 hf.cl hf.cs
  have rest : ∀ {Q : Exit → St → Prop} {st : St}, st.s 1 = .var (eP p) → ((p.views.all b17 && p.weights.all b1t && p.code.all a52) = true → ∀ s, s.s 2 = lb true → Q .ret s) → ((p.views.all b17 && p.weights.all b1t && p.code.all a52) = false → ∀ s, s.s 2 = lb false → Q .ret s) → AW pg G 82 (.seq (.seq (.reg a7p) (.block 0 (.loop a2g))) (.seq (.seq (.reg a7x) (.block 2 (.loop a2d))) (.seq (.seq (.reg a53) (.block 4 (.loop a1j))) (.seq (.reg a59) .ret)))) Q st := by
    intro Q st h ht hfal
    simp (disch := omega) [go_sem, h]
    refine e7p hf (by simp (disch := omega) [go_sem, h]) (fun e s h => ?_) fun e s h => ?_
    · exact hfal (by rw [e]; rfl) _ (by simp (disch := omega) [go_sem, h])
    · simp (disch := omega) [go_sem, h]
      refine e7i hf (by simp (disch := omega) [go_sem, h]) (fun e2 s h => ?_) fun e2 s h => ?_
      · exact hfal (by rw [e, e2]; rfl) _ (by simp (disch := omega) [go_sem, h])
      · simp (disch := omega) [go_sem, h]
        refine e79 hf (by simp (disch := omega) [go_sem, h]) (fun e3 s h => ?_) fun e3 s => ?_
        · exact hfal (by rw [e, e2, e3]; rfl) _ (by simp (disch := omega) [go_sem, h])
        · simp (disch := omega) [go_sem]
          exact ht (by rw [e, e2, e3]; rfl) _ (by simp (disch := omega) [go_sem])
  by_cases k1 : p.views.length ≤ 140
  · have k1' : ¬ (140 : Int) < p.views.length := by omega
    by_cases k2 : p.weights.length ≤ 10
    · have k2' : ¬ (10 : Int) < p.weights.length := by omega
      by_cases k3 : p.code.length ≤ 300
      · have k3' : ¬ (300 : Int) < p.code.length := by omega
        cases hb : d55 70 300 p.consts with
        | true =>
          rw [hb] at cT
          simp (disch := omega) [go_sem, a14, eP, k1', k2', k3']
          refine a0d cT rfl rfl ?_
          simp (disch := omega) [go_sem]
          refine rest (by simp (disch := omega) [go_sem, eP]) (fun e s h => ?_) fun e s h => ?_
          · have ew : b87 p = true := by rw [g2z k1 k2 k3 hb]; exact e
            simp (disch := omega) [go_sem, h, ew]
          · have ew : b87 p = false := by rw [g2z k1 k2 k3 hb]; exact e
            simp (disch := omega) [go_sem, h, ew]
        | false =>
          rw [hb] at cT
          simp (disch := omega) [go_sem, a14, eP, k1', k2', k3']
          refine a0d cT rfl rfl ?_
          simp (disch := omega) [go_sem, b87, hb]
      · have k3' : (300 : Int) < p.code.length := by omega
        simp (disch := omega) [go_sem, a14, eP, k1', k2', k3', b87, k3]
    · have k2' : (10 : Int) < p.weights.length := by omega
      simp (disch := omega) [go_sem, a14, eP, k1', k2', b87, k2]
  · have k1' : (140 : Int) < p.views.length := by omega
    simp (disch := omega) [go_sem, a14, eP, k1', b87, k1]
end
end Go.Ideal.Tryd
end
section
set_option linter.unusedVariables false
set_option linter.unusedSimpArgs false
set_option maxRecDepth 10000
namespace Go.Ideal.Tryd
abbrev Dr := Ds × Er
def dn : Ds := ⟨[], false⟩
def bad (g : Nat) : Dr := (dn, .s g)
def chk (e : Er) (r : Dr) : Dr := if e.isNil = true then r else (dn, e)
def a2r (n : Int) : Bool := decide (-128 ≤ n) && decide (n ≤ 127)
def b9s (sh : List Int) (w : Bool) : Dr := chk (a03 sh) (⟨sh, w⟩, .nil)
def d9t (za zb : Int) (a b : Ds) : Dr :=
  chk (a03 a.shape) (chk (a03 b.shape) (
    if a.shape.length = 2 ∧ b.shape.length = 2 ∧ a.shape[1]! = b.shape[0]! ∧ a.wide = false ∧ b.wide = false then
      (if (a2r za && a2r zb) = true then b9s [a.shape[0]!, b.shape[1]!] true else bad 3) else bad 6))
def b7z (args : List Int) (a k : Ds) : Dr :=
  chk (a03 a.shape) (chk (a03 k.shape) (
    if a.shape.length = 3 ∧ k.shape.length = 4 ∧ a.shape[2]! = k.shape[2]! ∧ a.wide = false ∧ k.wide = false then
      (if 1 ≤ args[0]! ∧ args[0]! ≤ 16 ∧ 0 ≤ args[1]! ∧ args[1]! ≤ 15 ∧ a2r args[2]! = true then
        (if 0 ≤ a.shape[0]! + 2 * args[1]! - k.shape[0]! ∧ 0 ≤ a.shape[1]! + 2 * args[1]! - k.shape[1]! then
          b9s [(a.shape[0]! + 2 * args[1]! - k.shape[0]!) / args[0]! + 1, (a.shape[1]! + 2 * args[1]! - k.shape[1]!) / args[0]! + 1, k.shape[3]!] true else bad 6) else bad 3) else bad 6))
def b63 (args : List Int) (a : Ds) : Dr :=
  chk (a03 a.shape) (
    if a.shape.length = 3 then
      (if 1 ≤ args[0]! ∧ args[0]! ≤ 16 ∧ 1 ≤ args[1]! ∧ args[1]! ≤ 16 then
        (if 0 ≤ a.shape[0]! - args[0]! ∧ 0 ≤ a.shape[1]! - args[0]! then
          (⟨[(a.shape[0]! - args[0]!) / args[1]! + 1, (a.shape[1]! - args[0]!) / args[1]! + 1, a.shape[2]!], a.wide⟩, .nil) else bad 6) else bad 3) else bad 6)
instance : Inhabited Ds := ⟨dn⟩
def a20 (op : Int) (ins : List Ds) : Ds × Bool :=
  if op = 16 then (ins[0]!, decide (0 < ins[0]!.shape.length ∧ ins[0]!.wide = false ∧ ins[1]! = ⟨[256], true⟩))
  else if op = 17 then (if ins[0]!.shape.length = 2 ∧ ins[1]!.shape.length = 1 ∧ ins[1]!.wide = true then (⟨[ins[1]!.shape[0]!, ins[0]!.shape[1]!], ins[0]!.wide⟩, true) else (dn, false))
  else (if ins[0]!.shape.length = 0 then (dn, false) else (⟨ins[0]!.shape.dropLast, true⟩, true))
def d1e : List Ds → Dr → Dr
  | [], r => r
  | d :: ds, r => chk (a03 d.shape) (d1e ds r)
def b37 (op : Int) (ins : List Ds) : Dr := d1e ins (if (a20 op ins).2 = true then b9s (a20 op ins).1.shape (a20 op ins).1.wide else bad 6)
def d37 (n : Int) (w : Bool) : Bool := if w = true then decide (-2147483648 ≤ n) && decide (n ≤ 2147483647) else a2r n
def a2e (op : Int) (args : List Int) (w : Bool) : Bool :=
  if op = 9 then decide (args[0]! ≤ args[1]!) && (d37 args[0]! w && d37 args[1]! w)
  else if op = 10 then (decide (0 ≤ args[0]!) && decide (args[0]! ≤ 2147483647)) && ((decide (0 ≤ args[1]!) && decide (args[1]! ≤ 62)) && a2r args[2]!)
  else if op = 11 then a2r args[0]!
  else true
def a18 (op : Int) (w : Bool) : Bool := if op = 10 then false else if op = 11 then true else w
def b0b (op : Int) (args : List Int) (ins : List Ds) : Dr := d1e ins (
  if (ins.length = 2 ∧ ins[0]! ≠ ins[1]!) ∨ (op = 10 ∧ ins[0]!.wide = false) ∨ (op = 11 ∧ ins[0]!.wide = true) then bad 6
  else if a2e op args ins[0]!.wide = true then (⟨ins[0]!.shape, a18 op ins[0]!.wide⟩, .nil) else bad 3)
def a71 (args : List Int) (a : Ds) : Dr := chk (a03 a.shape) (chk (a03 args) (if a23 a.shape = a23 args then (⟨args, a.wide⟩, .nil) else bad 6))
def d2h (a : Ds) : Dr := chk (a03 a.shape) (if a.shape.length = 2 then (⟨[a.shape[1]!, a.shape[0]!], a.wide⟩, .nil) else bad 6)
def a2b (op : Int) : Bool := decide (4 ≤ op) && decide (op ≤ 21)
def a24 (op : Int) : Nat := if op = 4 ∨ op = 5 ∨ op = 6 ∨ op = 7 ∨ op = 12 ∨ op = 13 ∨ op = 16 ∨ op = 17 then 2 else if a2b op = true then 1 else 0
def a2i (op : Int) : Nat := if op = 9 ∨ op = 12 ∨ op = 14 ∨ op = 15 then 2 else if op = 10 ∨ op = 13 then 3 else if op = 11 then 1 else 0
def opR (op : Int) (args : List Int) (ins : List Ds) : Dr :=
  if a2b op = true then
    if ins.length = a24 op ∧ (op = 18 ∨ args.length = a2i op) then
      if op = 12 then d9t args[0]! args[1]! ins[0]! ins[1]!
      else if op = 13 then b7z args ins[0]! ins[1]!
      else if op = 14 ∨ op = 15 then b63 args ins[0]!
      else if op = 16 ∨ op = 17 ∨ op = 19 ∨ op = 20 then b37 op ins
      else if op = 18 then a71 args ins[0]!
      else if op = 21 then d2h ins[0]!
      else b0b op args ins
    else bad 6
  else bad 5
def opU (op : Int) (args : List Int) (ins : List Ds) : Int :=
  if op = 10 then 2
  else if op = 12 then ins[0]!.shape[1]!
  else if op = 13 then ins[1]!.shape[0]! * ins[1]!.shape[1]! * ins[1]!.shape[2]!
  else if op = 14 ∨ op = 15 then args[0]! * args[0]!
  else if op = 16 ∨ op = 19 ∨ op = 20 then ins[0]!.shape[ins[0]!.shape.length - 1]!
  else 1
end Go.Ideal.Tryd
end
section
set_option linter.unusedVariables false
set_option linter.unusedSimpArgs false
set_option maxRecDepth 10000
namespace Go.Ideal.Tryd
def atE (k : Int) : Er → Er
  | .nil => .nil
  | .s g => .at k (.s g)
  | .at _ e => .at k e
def orE (a b : Er) : Er := if a.isNil = true then b else a
def a1a {α : Type} (f : α → Er) : List α → Int → Er
  | [], _ => .nil
  | x :: xs, k => if (f x).isNil = true then a1a f xs (k + 1) else atE k (f x)
def b2m (size : Int) (v : Vw) : Er := if (a03 v.shape).isNil = true then (if 0 ≤ v.off ∧ v.off ≤ size ∧ a05 v.shape v.wide ≤ size - v.off then .nil else .s 3) else a03 v.shape
def tE (t : Tn) : Er := b7c t.shape t.wide t.data
def dE (d : Ds) : Er := a03 d.shape
def a1x (p : Pl) (k : Int) : Bool := decide (0 ≤ k) && decide (k < (p.views.length : Int))
def a28 (p : Pl) : Er :=
  if 128 < p.views.length ∨ 64 < p.consts.length ∨ 8 < p.weights.length ∨ 2048 < p.code.length then .s 2
  else if p.size < 0 ∨ 65536 < p.size then .s 3
  else orE (a1a (b2m p.size) p.views 0) (orE (a1a tE p.consts 0) (orE (a1a dE p.weights 0) (if (a1x p p.input && a1x p p.output) = true then .nil else .s 3)))
instance : Inhabited Vw := ⟨⟨0, [], false⟩⟩
instance : Inhabited Tn := ⟨⟨[], false, []⟩⟩
instance : Inhabited In := ⟨⟨0, 0, [], [], 0, 0⟩⟩
def Vw.ds (v : Vw) : Ds := ⟨v.shape, v.wide⟩
def Tn.ds (v : Tn) : Ds := ⟨v.shape, v.wide⟩
def a3j (a b : Vw) : Bool := decide (a.off + a05 a.shape a.wide ≤ b.off) || decide (b.off + a05 b.shape b.wide ≤ a.off)
def b84 (i : In) : Bool := decide (i.op = 2) || (decide (i.op = 3) || a2b i.op)
def d4j (p : Pl) (i : In) : List Ds := i.ins.map fun k => (p.views[k.toNat]!).ds
def c9o (p : Pl) (i : In) : Vw := p.views[i.dst.toNat]!
def b6v (op : Int) : Nat := if op = 24 then 0 else 1
def f50 (op : Int) : Nat := if op = 23 then 1 else 0
def c0k (p : Pl) (i : In) : Er :=
  if i.args.length = b6v i.op ∧ i.ins.length = f50 i.op then (if 0 < b6v i.op ∧ (i.args[0]! < 0 ∨ (p.code.length : Int) < i.args[0]!) then .s 10 else .nil) else .s 6
def e8l (p : Pl) (i : In) : Option Ds :=
  if i.op = 2 ∧ (0 : Int) ≤ i.args[0]! ∧ i.args[0]! < (p.consts.length : Int) then some (p.consts[i.args[0]!.toNat]!).ds
  else if i.op = 3 ∧ (0 : Int) ≤ i.args[0]! ∧ i.args[0]! < (p.weights.length : Int) then some (p.weights[i.args[0]!.toNat]!) else none
def a8m (p : Pl) (i : In) : Int × Er :=
  if a2b i.op = true then
    (if (opR i.op i.args (d4j p i)).2.isNil = true then
      (if (opR i.op i.args (d4j p i)).1 = (c9o p i).ds then
        (if (i.ins.all fun k => a3j (c9o p i) (p.views[k.toNat]!)) = true then (opU i.op i.args (d4j p i), .nil) else (0, .s 8))
      else (0, .s 6))
    else (0, (opR i.op i.args (d4j p i)).2))
  else if i.args.length = 1 ∧ i.ins.length = 0 then
    (match e8l p i with
    | none => (0, .s 0)
    | some d => if d = (c9o p i).ds then (1, .nil) else (0, .s 6))
  else (0, .s 6)
def e6p (p : Pl) (i : In) (u : Int) : Int × Er :=
  if 0 ≤ i.frm ∧ i.frm ≤ i.to ∧ i.to ≤ a23 (c9o p i).shape then
    (if max ((i.to - i.frm) * u) 1 ≤ 1024 then (max ((i.to - i.frm) * u) 1, .nil) else (0, .s 9))
  else (0, .s 3)
def a1i (p : Pl) (i : In) : Int × Er :=
  if b84 i = false ∧ (i.op < 22 ∨ 24 < i.op) then (0, .s 5)
  else if b84 i = true ∧ a1x p i.dst = false then (0, .s 0)
  else if (i.ins.all (a1x p)) = false then (0, .s 0)
  else if b84 i = false then
    (if (c0k p i).isNil = true then (if i.dst = 0 ∧ i.frm = 0 ∧ i.to = 0 then (1, .nil) else (0, .s 3)) else (0, c0k p i))
  else if (a8m p i).2.isNil = true then e6p p i (a8m p i).1 else (0, (a8m p i).2)
def a5n (p : Pl) : Er := orE (a28 p) (a1a (fun i => (a1i p i).2) p.code 0)
def b27 (p : Pl) : Int := (p.code.map fun i => (a1i p i).1).sum
end Go.Ideal.Tryd
end
