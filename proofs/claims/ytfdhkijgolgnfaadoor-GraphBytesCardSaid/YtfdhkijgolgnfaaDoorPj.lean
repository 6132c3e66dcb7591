/- Part Pj of the proof: a machine with trees for values, its soundness, and walks on it. -/
import Derived.Test.YtfdhkijgolgnfaaDoorPi
import Derived.Test.YtfdhkijgolgnfaaDoorPb

section
set_option linter.unusedVariables false
set_option linter.unusedSimpArgs false
set_option maxRecDepth 10000
namespace Go.Ideal
theorem fm_at {α : Type} {f : α → List AV} {k : Nat} {xs : List α} (hf : ∀ x, (f x).length = k) {i j : Nat} (h : i < xs.length) (hj : j < k) : (fm f xs)[i * k + j]? = (f xs[i])[j]? := by
  have h1 := fm_get (f := f) (k := k) hf h
  rw [← h1, List.getElem?_take, if_pos hj, List.getElem?_drop]
theorem fm_sub {α : Type} {f : α → List AV} {k : Nat} {xs : List α} (hf : ∀ x, (f x).length = k) {i j m : Nat} (h : i < xs.length) (hj : j + m ≤ k) : ((fm f xs).drop (i * k + j)).take m = ((f xs[i]).drop j).take m := by
  have h1 := fm_get (f := f) (k := k) hf h
  rw [← h1, List.drop_take, List.take_take, List.drop_drop, Nat.min_eq_left (by omega)]
namespace Tryd
section
variable {xs : List Nd} {i : Nat}
@[go_sem] theorem encN_0 (h : i < xs.length) : (fm encN xs)[i * 6]? = some (li xs[i].op) := fm_at (f := encN) (k := 6) (j := 0) (fun _ => rfl) h (by omega)
@[go_sem] theorem encN_1 (h : i < xs.length) : (fm encN xs)[i * 6 + 1]? = some (slI xs[i].ins) := fm_at (f := encN) (k := 6) (fun _ => rfl) h (by omega)
@[go_sem] theorem encN_2 (h : i < xs.length) : (fm encN xs)[i * 6 + 2]? = some (slI xs[i].args) := fm_at (f := encN) (k := 6) (fun _ => rfl) h (by omega)
@[go_sem] theorem encN_t (h : i < xs.length) : ((fm encN xs).drop (i * 6 + 3)).take 3 = [slI xs[i].shape, lb xs[i].wide, slI xs[i].data] := fm_sub (f := encN) (k := 6) (fun _ => rfl) h (by omega)
end
section
variable {G : Nat → Option Value} {bk : Nat → Nat × Nat} {Q : Exit → St → Prop} {st : St}
theorem ruses_l0 {ns : List Nd} {out : Int} {u0 : List (List Int)} {i c : Nat} (hi : i < ns.length) (hn : ns.length < 2 ^ 40) (hu : u0.length < 2 ^ 40) (hr : ns[i].ins.length < 2 ^ 40) (hc : c + ns[i].ins.length < 2 ^ 41) (hb : ∀ r ∈ u0, r.length ≤ c) (h : st.s 1 = .var [slN ns, li out] ∧ st.s 3 = owII u0 ∧ st.s 4 = li i ∧ st.s 5 = li 0)
    (hex : ∀ s u, u = uRow i ns[i].ins u0 → u.length = u0.length → (∀ r ∈ u, r.length ≤ c + ns[i].ins.length) → s.s 1 = .var [slN ns, li out] ∧ s.s 3 = owII u ∧ s.s 4 = li i → Q (.exit 2) s) : AW pg G 66 (.loop lodgeref17_Uses_l0) Q st := by
  refine aw_loop (Nat × List (List Int)) (fun p st => p.1 ≤ ns[i].ins.length ∧ uRow i (ns[i].ins.drop p.1) p.2 = uRow i ns[i].ins u0 ∧ p.2.length = u0.length ∧ (∀ r ∈ p.2, r.length ≤ c + p.1) ∧ st.s 1 = .var [slN ns, li out] ∧ st.s 3 = owII p.2 ∧ st.s 4 = li i ∧ st.s 5 = li p.1) (fun p => ns[i].ins.length - p.1) (0, u0) ⟨by simp, rfl, rfl, fun r hr => by have := hb r hr; omega, h⟩ ?_
  clear h
  rintro ⟨j, u⟩ st K ⟨hj, ht, hl, hb2, h⟩ hK
  simp only at hj ht hl hb2 h
  by_cases hlt : j < ns[i].ins.length
  · rw [List.drop_eq_getElem_cons hlt, uRow] at ht
    by_cases k1 : 0 ≤ ns[i].ins[j]
    · by_cases k2 : ns[i].ins[j] < (u.length : Int)
      · have k3 : ns[i].ins[j].toNat < u.length := by omega
        have k4 : u[ns[i].ins[j].toNat].length < 2 ^ 62 := by have := hb2 _ (List.getElem_mem k3); omega
        simp (disch := omega) [go_sem, lodgeref17_Uses_l0, h, hi, hlt, k1, k2]
        refine cal_pure (among31 G u[ns[i].ins[j].toNat] i k4) rfl rfl ?_
        by_cases k5 : (i : Int) ∈ u[ns[i].ins[j].toNat]
        · rw [if_neg (by simp [k3, k5])] at ht
          simp (disch := omega) [go_sem, h, hi, hlt, k1, k2, k5]
          exact hK (j + 1, u) _ ⟨by simp only; omega, ht, hl, fun r hr => by have := hb2 r hr; simp only; omega, by simp (disch := omega) [go_sem, h]⟩ (by simp only; omega)
        · rw [if_pos (by simp [k1, k2, k3, k5])] at ht
          have k6 : u[ns[i].ins[j].toNat].length ≤ c + j := hb2 _ (List.getElem_mem k3)
          simp (disch := omega) [go_sem, h, hi, hlt, k1, k2, k5]
          refine hK (j + 1, u.set ns[i].ins[j].toNat (u[ns[i].ins[j].toNat]! ++ [(i : Int)])) _ ⟨by simp only; omega, ht, by simpa using hl, fun r hr => ?_, by simp (disch := omega) [go_sem, h, k3]⟩ (by simp only; omega)
          simp only at hr ⊢
          rcases List.mem_or_eq_of_mem_set hr with hr | rfl
          · have := hb2 r hr; omega
          · simp [k3]; omega
      · rw [if_neg (by simp; omega)] at ht
        simp (disch := omega) [go_sem, lodgeref17_Uses_l0, h, hi, hlt, k1, k2]
        exact hK (j + 1, u) _ ⟨by simp only; omega, ht, hl, fun r hr => by have := hb2 r hr; simp only; omega, by simp (disch := omega) [go_sem, h]⟩ (by simp only; omega)
    · rw [if_neg (by simp; omega)] at ht
      simp (disch := omega) [go_sem, lodgeref17_Uses_l0, h, hi, hlt, k1]
      exact hK (j + 1, u) _ ⟨by simp only; omega, ht, hl, fun r hr => by have := hb2 r hr; simp only; omega, by simp (disch := omega) [go_sem, h]⟩ (by simp only; omega)
  · obtain rfl : j = ns[i].ins.length := by omega
    rw [List.drop_length, uRow] at ht
    simp (disch := omega) [go_sem, lodgeref17_Uses_l0, h, hi]
    exact hex _ u ht hl hb2 (by simp (disch := omega) [go_sem, h])
theorem ruses27 (ns : List Nd) (out : Int) (hg : ns.length < 2 ^ 40) (hc : tot (ns.map (·.ins)) < 2 ^ 40) : ACalls pg G F_lodgeref17_Uses [.agg [slN ns, li out]] (owII (uAll (ns.map (·.ins)) 0 (List.replicate ns.length []))) := by
  refine lodgeref17_Uses_call rfl ?_
  simp (disch := omega) [go_sem, lodgeref17_Uses_c]
  have hlm : (ns.map (·.ins)).length = ns.length := by simp
  refine aw_loop (Nat × List (List Int)) (fun p st => p.1 ≤ ns.length ∧ uAll ((ns.map (·.ins)).drop p.1) p.1 p.2 = uAll (ns.map (·.ins)) 0 (List.replicate ns.length []) ∧ p.2.length = ns.length ∧ (∀ r ∈ p.2, r.length ≤ tot ((ns.map (·.ins)).take p.1)) ∧ st.s 1 = .var [slN ns, li out] ∧ st.s 3 = owII p.2 ∧ st.s 4 = li p.1) (fun p => ns.length - p.1) (0, List.replicate ns.length []) ⟨by simp, rfl, by simp, fun r hr => by rw [List.eq_of_mem_replicate hr]; simp, by simp (disch := omega) [go_sem]⟩ ?_
  rintro ⟨i, u⟩ st K ⟨hi, ht, hl, hb, h⟩ hK
  simp only at hi ht hl hb h
  by_cases hlt : i < ns.length
  · have hlt2 : i < (ns.map (·.ins)).length := by omega
    obtain ⟨t1, t2⟩ := tot_take hlt2
    rw [List.getElem_map] at t1
    rw [List.drop_eq_getElem_cons hlt2, List.getElem_map, uAll] at ht
    simp (disch := omega) [go_sem, lodgeref17_Uses_l1, h, hlt]
    refine ruses_l0 (ns := ns) (out := out) (u0 := u) (i := i) (c := tot ((ns.map (·.ins)).take i)) hlt hg (by omega) (by omega) (by omega) hb (by simp (disch := omega) [go_sem, h]) ?_
    intro s u' hu' kl kb h
    rw [← hu'] at ht
    simp (disch := omega) [go_sem, h]
    exact hK (i + 1, u') _ ⟨by simp only; omega, ht, by simp only; omega, fun r hr => by have := kb r hr; simp only; omega, by simp (disch := omega) [go_sem, h]⟩ (by simp only; omega)
  · obtain rfl : i = ns.length := by omega
    rw [List.drop_eq_nil_of_le (by omega), uAll] at ht
    subst ht
    simp (disch := omega) [go_sem, lodgeref17_Uses_l1, h]
end
end Tryd
end Go.Ideal
end

section
set_option linter.unusedVariables false
set_option linter.unusedSimpArgs false
set_option maxRecDepth 10000
namespace Go.Ideal.Tryd
def Er.isNil : Er → Bool
  | .nil => true
  | _ => false
section
variable {G : Nat → Option Value} {bk : Nat → Nat × Nat} {Q : Exit → St → Prop} {st : St}
theorem count58 (n : Int) : ACalls pg G F_lodgeref17_count [li n] (lb (decide (0 ≤ n ∧ n ≤ 65535))) := by
  refine lodgeref17_count_call rfl ?_
  by_cases h1 : 0 ≤ n <;> by_cases h2 : n ≤ 65535 <;> simp (disch := omega) [go_sem, lodgeref17_count_c, h1, h2]
theorem wide59 (n : Int) : ACalls pg G F_lodgeref17_wide [li n] (lb (decide (-2147483648 ≤ n ∧ n ≤ 2147483647))) := by
  refine lodgeref17_wide_call rfl ?_
  by_cases h1 : -2147483648 ≤ n <;> by_cases h2 : n ≤ 2147483647 <;> simp (disch := omega) [go_sem, lodgeref17_wide_c, h1, h2]
theorem rb_l0 {ns : List Nd} {out : Int} {m0 T : Bool} (hn : ns.length < 2 ^ 62) (hf : ∀ n ∈ ns, n.fin) (hT : (m0 || ns.any manyN) = T) (h : st.s 1 = .var [slN ns, li out] ∧ st.s 3 = .var [li 0, lb false, li 0] ∧ st.s 4 = lb m0 ∧ st.s 5 = li 0)
    (hex : ∀ s, s.s 1 = .var [slN ns, li out] ∧ s.s 3 = .var [li 0, lb false, li 0] ∧ s.s 4 = lb T → Q (.exit 0) s) : AW pg G 252 (.loop lodgeref17_Bytes_l0) Q st := by
  refine aw_loop (Nat × Bool) (fun p st => p.1 ≤ ns.length ∧ (p.2 || (ns.drop p.1).any manyN) = T ∧ st.s 1 = .var [slN ns, li out] ∧ st.s 3 = .var [li 0, lb false, li 0] ∧ st.s 4 = lb p.2 ∧ st.s 5 = li p.1) (fun p => ns.length - p.1) (0, m0) ⟨by simp, hT, h⟩ ?_
  clear h hT
  rintro ⟨i, m⟩ st K ⟨hi, hm, h⟩ hK
  simp only at hi hm h
  by_cases hlt : i < ns.length
  · cases m with
    | true =>
      have hT : T = true := by rw [← hm]; rfl
      simp (disch := omega) [go_sem, lodgeref17_Bytes_l0, h, hlt]
      exact hex _ (by simp (disch := omega) [go_sem, h, hT])
    | false =>
      rw [List.drop_eq_getElem_cons hlt, List.any_cons] at hm
      have hfi := hf _ (List.getElem_mem hlt)
      have f1 := hfi.ins
      have f2 := hfi.args
      by_cases k1 : 8 < ns[i].ins.length
      · have k1' : (8 : Int) < ns[i].ins.length := by omega
        rw [show manyN ns[i] = true by simp [manyN, k1]] at hm
        simp (disch := omega) [go_sem, lodgeref17_Bytes_l0, h, hlt, k1']
        exact hK (i + 1, true) _ ⟨by simp only; omega, hm, by simp (disch := omega) [go_sem, h]⟩ (by simp only; omega)
      · have k1' : ¬ (8 : Int) < ns[i].ins.length := by omega
        by_cases k2 : 8 < ns[i].args.length
        · have k2' : (8 : Int) < ns[i].args.length := by omega
          rw [show manyN ns[i] = true by simp [manyN, k2]] at hm
          simp (disch := omega) [go_sem, lodgeref17_Bytes_l0, h, hlt, k1', k2']
          exact hK (i + 1, true) _ ⟨by simp only; omega, hm, by simp (disch := omega) [go_sem, h]⟩ (by simp only; omega)
        · have k2' : ¬ (8 : Int) < ns[i].args.length := by omega
          rw [show manyN ns[i] = false by simp [manyN, k1, k2]] at hm
          simp (disch := omega) [go_sem, lodgeref17_Bytes_l0, h, hlt, k1', k2']
          exact hK (i + 1, false) _ ⟨by simp only; omega, hm, by simp (disch := omega) [go_sem, h]⟩ (by simp only; omega)
  · obtain rfl : i = ns.length := by omega
    rw [List.drop_length, List.any_nil, Bool.or_false] at hm
    subst hm
    simp (disch := omega) [go_sem, lodgeref17_Bytes_l0, h]
    exact hex _ (by simp (disch := omega) [go_sem, h])
theorem rb_l1 {ns : List Nd} {out : Int} {i : Nat} {x : Nd} {o0 T : Bool} (hf : x.fin) (hT : (o0 || x.ins.any oddI) = T) (h : st.s 1 = .var [slN ns, li out] ∧ st.s 3 = .var [li 0, lb false, li 0] ∧ st.s 7 = li i ∧ st.s 8 = .var (encN x) ∧ st.s 6 = lb o0 ∧ st.s 9 = li 0)
    (hex : ∀ s, s.s 1 = .var [slN ns, li out] ∧ s.s 3 = .var [li 0, lb false, li 0] ∧ s.s 7 = li i ∧ s.s 8 = .var (encN x) ∧ s.s 6 = lb T → Q (.exit 4) s) : AW pg G 252 (.loop lodgeref17_Bytes_l1) Q st := by
  have f1 := hf.ins
  refine aw_loop (Nat × Bool) (fun p st => p.1 ≤ x.ins.length ∧ (p.2 || (x.ins.drop p.1).any oddI) = T ∧ st.s 1 = .var [slN ns, li out] ∧ st.s 3 = .var [li 0, lb false, li 0] ∧ st.s 7 = li i ∧ st.s 8 = .var (encN x) ∧ st.s 6 = lb p.2 ∧ st.s 9 = li p.1) (fun p => x.ins.length - p.1) (0, o0) ⟨by simp, hT, h⟩ ?_
  clear h hT
  rintro ⟨j, m⟩ st K ⟨hj, hm, h⟩ hK
  simp only at hj hm h
  by_cases hlt : j < x.ins.length
  · rw [List.drop_eq_getElem_cons hlt, List.any_cons, ← Bool.or_assoc] at hm
    cases m with
    | true =>
      simp (disch := omega) [go_sem, lodgeref17_Bytes_l1, h, hlt, encN]
      exact hK (j + 1, true) _ ⟨by simp only; omega, hm, by simp (disch := omega) [go_sem, h, encN]⟩ (by simp only; omega)
    | false =>
      simp (disch := omega) [go_sem, lodgeref17_Bytes_l1, h, hlt, encN]
      refine cal_pure (count58 x.ins[j]) rfl rfl ?_
      cases ho : decide (0 ≤ x.ins[j] ∧ x.ins[j] ≤ 65535) <;> rw [oddI, ho] at hm <;> simp (disch := omega) [go_sem, h, encN]
      · exact hK (j + 1, true) _ ⟨by simp only; omega, hm, by simp (disch := omega) [go_sem, h, encN]⟩ (by simp only; omega)
      · exact hK (j + 1, false) _ ⟨by simp only; omega, hm, by simp (disch := omega) [go_sem, h, encN]⟩ (by simp only; omega)
  · obtain rfl : j = x.ins.length := by omega
    rw [List.drop_length, List.any_nil, Bool.or_false] at hm
    subst hm
    simp (disch := omega) [go_sem, lodgeref17_Bytes_l1, h, encN]
    exact hex _ (by simp (disch := omega) [go_sem, h, encN])
theorem rb_l2 {ns : List Nd} {out : Int} {i : Nat} {x : Nd} {o0 T : Bool} (hf : x.fin) (hT : (o0 || x.args.any offI) = T) (h : st.s 1 = .var [slN ns, li out] ∧ st.s 3 = .var [li 0, lb false, li 0] ∧ st.s 7 = li i ∧ st.s 8 = .var (encN x) ∧ st.s 6 = lb o0 ∧ st.s 10 = li 0)
    (hex : ∀ s, s.s 1 = .var [slN ns, li out] ∧ s.s 3 = .var [li 0, lb false, li 0] ∧ s.s 7 = li i ∧ s.s 8 = .var (encN x) ∧ s.s 6 = lb T → Q (.exit 6) s) : AW pg G 252 (.loop lodgeref17_Bytes_l2) Q st := by
  have f1 := hf.args
  refine aw_loop (Nat × Bool) (fun p st => p.1 ≤ x.args.length ∧ (p.2 || (x.args.drop p.1).any offI) = T ∧ st.s 1 = .var [slN ns, li out] ∧ st.s 3 = .var [li 0, lb false, li 0] ∧ st.s 7 = li i ∧ st.s 8 = .var (encN x) ∧ st.s 6 = lb p.2 ∧ st.s 10 = li p.1) (fun p => x.args.length - p.1) (0, o0) ⟨by simp, hT, h⟩ ?_
  clear h hT
  rintro ⟨j, m⟩ st K ⟨hj, hm, h⟩ hK
  simp only at hj hm h
  by_cases hlt : j < x.args.length
  · rw [List.drop_eq_getElem_cons hlt, List.any_cons, ← Bool.or_assoc] at hm
    cases m with
    | true =>
      simp (disch := omega) [go_sem, lodgeref17_Bytes_l2, h, hlt, encN]
      exact hK (j + 1, true) _ ⟨by simp only; omega, hm, by simp (disch := omega) [go_sem, h, encN]⟩ (by simp only; omega)
    | false =>
      simp (disch := omega) [go_sem, lodgeref17_Bytes_l2, h, hlt, encN]
      refine cal_pure (wide59 x.args[j]) rfl rfl ?_
      cases ho : decide (-2147483648 ≤ x.args[j] ∧ x.args[j] ≤ 2147483647) <;> rw [offI, ho] at hm <;> simp (disch := omega) [go_sem, h, encN]
      · exact hK (j + 1, true) _ ⟨by simp only; omega, hm, by simp (disch := omega) [go_sem, h, encN]⟩ (by simp only; omega)
      · exact hK (j + 1, false) _ ⟨by simp only; omega, hm, by simp (disch := omega) [go_sem, h, encN]⟩ (by simp only; omega)
  · obtain rfl : j = x.args.length := by omega
    rw [List.drop_length, List.any_nil, Bool.or_false] at hm
    subst hm
    simp (disch := omega) [go_sem, lodgeref17_Bytes_l2, h, encN]
    exact hex _ (by simp (disch := omega) [go_sem, h, encN])
theorem rb_l3 {ns : List Nd} {out : Int} {o0 T : Bool} (hn : ns.length < 2 ^ 62) (hf : ∀ n ∈ ns, n.fin) (hT : (o0 || ns.any offN) = T) (h : st.s 1 = .var [slN ns, li out] ∧ st.s 3 = .var [li 0, lb false, li 0] ∧ st.s 6 = lb o0 ∧ st.s 7 = li 0)
    (hex : ∀ s, s.s 1 = .var [slN ns, li out] ∧ s.s 3 = .var [li 0, lb false, li 0] ∧ s.s 6 = lb T → Q (.exit 2) s) : AW pg G 252 (.loop lodgeref17_Bytes_l3) Q st := by
  refine aw_loop (Nat × Bool) (fun p st => p.1 ≤ ns.length ∧ (p.2 || (ns.drop p.1).any offN) = T ∧ st.s 1 = .var [slN ns, li out] ∧ st.s 3 = .var [li 0, lb false, li 0] ∧ st.s 6 = lb p.2 ∧ st.s 7 = li p.1) (fun p => ns.length - p.1) (0, o0) ⟨by simp, hT, h⟩ ?_
  clear h hT
  rintro ⟨i, m⟩ st K ⟨hi, hm, h⟩ hK
  simp only at hi hm h
  by_cases hlt : i < ns.length
  · rw [List.drop_eq_getElem_cons hlt, List.any_cons, ← Bool.or_assoc] at hm
    have hfi := hf _ (List.getElem_mem hlt)
    have go : ∀ (s : St) (b : Bool), b = (m || (decide (ns[i].op < 0) || decide (255 < ns[i].op))) → s.s 1 = .var [slN ns, li out] ∧ s.s 3 = .var [li 0, lb false, li 0] ∧ s.s 7 = li i ∧ s.s 8 = .var (encN ns[i]) ∧ s.s 6 = lb b ∧ s.s 9 = li 0 →
        AW pg G 252 (.loop lodgeref17_Bytes_l1) (blockA 4 (thenA (AW pg G 252 (.seq (.reg lodgeref17_Bytes_r18) (.block 6 (.loop lodgeref17_Bytes_l2))) (blockA 3 (thenA (AW pg G 252 (.reg lodgeref17_Bytes_r11) (thenA K Q)) (thenA K Q)))) (blockA 3 (thenA (AW pg G 252 (.reg lodgeref17_Bytes_r11) (thenA K Q)) (thenA K Q))))) s := by
      intro s b hb h
      refine rb_l1 (ns := ns) (out := out) (i := i) (x := ns[i]) (o0 := b) hfi rfl (by simp (disch := omega) [go_sem, h]) fun s h => ?_
      simp (disch := omega) [go_sem, h]
      refine rb_l2 (ns := ns) (out := out) (i := i) (x := ns[i]) (o0 := b || ns[i].ins.any oddI) hfi rfl (by simp (disch := omega) [go_sem, h]) fun s h => ?_
      simp (disch := omega) [go_sem, h]
      refine hK (i + 1, (b || ns[i].ins.any oddI || ns[i].args.any offI)) _ ⟨by simp only; omega, ?_, by simp (disch := omega) [go_sem, h]⟩ (by simp only; omega)
      simp only
      rw [← hm, hb, offN]
      simp only [Bool.or_assoc]
    cases m with
    | true =>
      simp (disch := omega) [go_sem, lodgeref17_Bytes_l3, h, hlt]
      exact go _ true (by simp) (by simp (disch := omega) [go_sem, h, encN])
    | false =>
      by_cases k1 : ns[i].op < 0
      · simp (disch := omega) [go_sem, lodgeref17_Bytes_l3, h, hlt, k1, encN]
        exact go _ true (by simp [k1]) (by simp (disch := omega) [go_sem, h, encN])
      · by_cases k2 : 255 < ns[i].op
        · simp (disch := omega) [go_sem, lodgeref17_Bytes_l3, h, hlt, k1, k2, encN]
          exact go _ true (by simp [k2]) (by simp (disch := omega) [go_sem, h, encN])
        · simp (disch := omega) [go_sem, lodgeref17_Bytes_l3, h, hlt, k1, k2, encN]
          exact go _ false (by simp [k1, k2]) (by simp (disch := omega) [go_sem, h, encN])
  · obtain rfl : i = ns.length := by omega
    rw [List.drop_length, List.any_nil, Bool.or_false] at hm
    subst hm
    simp (disch := omega) [go_sem, lodgeref17_Bytes_l3, h]
    exact hex _ (by simp (disch := omega) [go_sem, h])
theorem rb_l4 {ns : List Nd} {out : Int} (hn : ns.length < 2 ^ 62) (hf : ∀ n ∈ ns, n.fin) (h : st.s 1 = .var [slN ns, li out] ∧ st.s 3 = .var [li 0, lb false, li 0] ∧ st.s 11 = li 0)
    (hex : constErr ns = .nil → ∀ s, s.s 1 = .var [slN ns, li out] ∧ s.s 3 = .var [li 0, lb false, li 0] → Q (.exit 8) s) (hret : constErr ns ≠ .nil → ∀ s, s.s 2 = owU [] ∧ s.s 3 = .var [li (constErr ns).flt.1, lb (constErr ns).flt.2.1, li (constErr ns).flt.2.2] → Q .ret s) : AW pg G 252 (.loop lodgeref17_Bytes_l4) Q st := by
  refine aw_loop Nat (fun i st => i ≤ ns.length ∧ constErr (ns.drop i) = constErr ns ∧ st.s 1 = .var [slN ns, li out] ∧ st.s 3 = .var [li 0, lb false, li 0] ∧ st.s 11 = li i) (fun i => ns.length - i) 0 ⟨by simp, rfl, h⟩ ?_
  clear h
  rintro i st K ⟨hi, hm, h⟩ hK
  by_cases hlt : i < ns.length
  · rw [List.drop_eq_getElem_cons hlt, constErr] at hm
    have hfi := hf _ (List.getElem_mem hlt)
    have c1 := rvalid60 (G := G) ns[i].shape ns[i].wide ns[i].data hfi.shape hfi.data
    by_cases k1 : ns[i].op = 2
    · rw [if_pos k1] at hm
      simp (disch := omega) [go_sem, lodgeref17_Bytes_l4, h, hlt, k1]
      refine cal_pure c1 rfl rfl ?_
      rcases tvErr_cases ns[i].shape ns[i].wide ns[i].data with e | ⟨g, hg, e⟩ | ⟨p, g, hg, e⟩ <;> rw [e] at hm ⊢
      · simp (disch := omega) [go_sem, h, Er.flt]
        exact hK (i + 1) _ ⟨by omega, hm, by simp (disch := omega) [go_sem, h]⟩ (by omega)
      · have hc := codeOf_ne g hg
        simp (disch := omega) [go_sem, h, Er.flt, hc]
        refine aw_draw ?_
        simp (disch := omega) [go_sem, h, hc]
        refine dFin_i (by decide) fun s2 hs he => ?_
        simp (disch := omega) [go_sem]
        exact hret (by rw [← hm]; simp) _ (by simp (disch := omega) [go_sem, hs, ← hm, Er.flt])
      · have hc := codeOf_ne g hg
        simp (disch := omega) [go_sem, h, Er.flt, hc]
        refine aw_draw ?_
        simp (disch := omega) [go_sem, h, hc]
        refine dFin_i (by decide) fun s2 hs he => ?_
        simp (disch := omega) [go_sem]
        exact hret (by rw [← hm]; simp) _ (by simp (disch := omega) [go_sem, hs, ← hm, Er.flt])
    · rw [if_neg k1] at hm
      simp (disch := omega) [go_sem, lodgeref17_Bytes_l4, h, hlt, k1]
      exact hK (i + 1) _ ⟨by omega, hm, by simp (disch := omega) [go_sem, h]⟩ (by omega)
  · obtain rfl : i = ns.length := by omega
    rw [List.drop_length] at hm
    simp (disch := omega) [go_sem, lodgeref17_Bytes_l4, h]
    exact hex hm.symm _ (by simp (disch := omega) [go_sem, h])
theorem rb_l5 {ns : List Nd} {out : Int} {x : Nd} {i : Nat} {bs : List Int} (hr : x.ins.length ≤ 8) (hb : bs.length < 2 ^ 39) (h : st.s 1 = .var [slN ns, li out] ∧ st.s 3 = .var [li 0, lb false, li 0] ∧ st.s 14 = li i ∧ st.s 15 = .var (encN x) ∧ st.s 16 = li 0 ∧ st.s 13 = owU bs)
    (hex : ∀ s b, b = bs ++ x.ins.flatMap le2 → s.s 1 = .var [slN ns, li out] ∧ s.s 3 = .var [li 0, lb false, li 0] ∧ s.s 14 = li i ∧ s.s 15 = .var (encN x) ∧ s.s 13 = owU b → Q (.exit 12) s) : AW pg G 252 (.loop lodgeref17_Bytes_l5) Q st := by
  refine aw_loop (Nat × List Int) (fun p st => p.1 ≤ x.ins.length ∧ p.2 ++ (x.ins.drop p.1).flatMap le2 = bs ++ x.ins.flatMap le2 ∧ p.2.length ≤ bs.length + 2 * p.1 ∧ st.s 1 = .var [slN ns, li out] ∧ st.s 3 = .var [li 0, lb false, li 0] ∧ st.s 14 = li i ∧ st.s 15 = .var (encN x) ∧ st.s 16 = li p.1 ∧ st.s 13 = owU p.2) (fun p => x.ins.length - p.1) (0, bs) ⟨by simp, rfl, by simp, h⟩ ?_
  clear h
  rintro ⟨j, b⟩ st K ⟨hj, hm, hl, h⟩ hK
  simp only at hj hm hl h
  by_cases hlt : j < x.ins.length
  · rw [List.drop_eq_getElem_cons hlt, List.flatMap_cons, ← List.append_assoc] at hm
    simp (disch := omega) [go_sem, lodgeref17_Bytes_l5, h, hlt, encN]
    refine aw_draw ?_
    simp (disch := omega) [go_sem, h, hlt, encN]
    refine dFin_i (by decide) fun s2 hs he => ?_
    simp (disch := omega) [go_sem, hs, h, encN]
    exact hK (j + 1, b ++ le2 x.ins[j]) _ ⟨by simp only; omega, hm, by simp only [List.length_append, le2, List.length_cons, List.length_nil]; omega, by simp (disch := omega) [go_sem, hs, h, encN, le2]⟩ (by simp only; omega)
  · obtain rfl : j = x.ins.length := by omega
    rw [List.drop_length] at hm
    simp only [List.flatMap_nil, List.append_nil] at hm
    simp (disch := omega) [go_sem, lodgeref17_Bytes_l5, h, encN]
    exact hex _ _ hm (by simp (disch := omega) [go_sem, h, encN])
theorem rb_l6 {ns : List Nd} {out : Int} {x : Nd} {i : Nat} {bs : List Int} (hr : x.args.length ≤ 8) (hb : bs.length < 2 ^ 39) (h : st.s 1 = .var [slN ns, li out] ∧ st.s 3 = .var [li 0, lb false, li 0] ∧ st.s 14 = li i ∧ st.s 15 = .var (encN x) ∧ st.s 17 = li 0 ∧ st.s 13 = owU bs)
    (hex : ∀ s b, b = bs ++ x.args.flatMap (put1 true) → s.s 1 = .var [slN ns, li out] ∧ s.s 3 = .var [li 0, lb false, li 0] ∧ s.s 14 = li i ∧ s.s 15 = .var (encN x) ∧ s.s 13 = owU b → Q (.exit 14) s) : AW pg G 252 (.loop lodgeref17_Bytes_l6) Q st := by
  refine aw_loop (Nat × List Int) (fun p st => p.1 ≤ x.args.length ∧ p.2 ++ (x.args.drop p.1).flatMap (put1 true) = bs ++ x.args.flatMap (put1 true) ∧ p.2.length ≤ bs.length + 4 * p.1 ∧ st.s 1 = .var [slN ns, li out] ∧ st.s 3 = .var [li 0, lb false, li 0] ∧ st.s 14 = li i ∧ st.s 15 = .var (encN x) ∧ st.s 17 = li p.1 ∧ st.s 13 = owU p.2) (fun p => x.args.length - p.1) (0, bs) ⟨by simp, rfl, by simp, h⟩ ?_
  clear h
  rintro ⟨j, b⟩ st K ⟨hj, hm, hl, h⟩ hK
  simp only at hj hm hl h
  by_cases hlt : j < x.args.length
  · have hp := put1_len true x.args[j]
    rw [List.drop_eq_getElem_cons hlt, List.flatMap_cons, ← List.append_assoc] at hm
    simp (disch := omega) [go_sem, lodgeref17_Bytes_l6, h, hlt, encN]
    exact hK (j + 1, b ++ put1 true x.args[j]) _ ⟨by simp only; omega, hm, by simp only [List.length_append]; omega, by simp (disch := omega) [go_sem, h, encN, put1]⟩ (by simp only; omega)
  · obtain rfl : j = x.args.length := by omega
    rw [List.drop_length] at hm
    simp only [List.flatMap_nil, List.append_nil] at hm
    simp (disch := omega) [go_sem, lodgeref17_Bytes_l6, h, encN]
    exact hex _ _ hm (by simp (disch := omega) [go_sem, h, encN])
theorem rb_l7 {ns : List Nd} {out : Int} {T : List Int} (hn : ns.length ≤ 64) (hg : ∀ n ∈ ns, n.good) {b0 : List Int} (hb0 : b0.length = 4) (hT : T = b0 ++ ns.flatMap nBytes) (h : st.s 1 = .var [slN ns, li out] ∧ st.s 3 = .var [li 0, lb false, li 0] ∧ st.s 14 = li 0 ∧ st.s 13 = owU b0)
    (hex : ∀ s, T.length < 2 ^ 39 → s.s 1 = .var [slN ns, li out] ∧ s.s 3 = .var [li 0, lb false, li 0] ∧ s.s 13 = owU T → Q (.exit 10) s) : AW pg G 252 (.loop lodgeref17_Bytes_l7) Q st := by
  refine aw_loop (Nat × List Int) (fun p st => p.1 ≤ ns.length ∧ p.2 ++ (ns.drop p.1).flatMap nBytes = T ∧ p.2.length ≤ 4 + 70000 * p.1 ∧ st.s 1 = .var [slN ns, li out] ∧ st.s 3 = .var [li 0, lb false, li 0] ∧ st.s 14 = li p.1 ∧ st.s 13 = owU p.2) (fun p => ns.length - p.1) (0, b0) ⟨by simp, hT.symm, by simp; omega, h⟩ ?_
  clear h hT
  rintro ⟨i, bs⟩ st K ⟨hi, hm, hl, h⟩ hK
  simp only at hi hm hl h
  by_cases hlt : i < ns.length
  · rw [List.drop_eq_getElem_cons hlt, List.flatMap_cons, ← List.append_assoc] at hm
    have hgi := hg _ (List.getElem_mem hlt)
    have g1 := hgi.ins
    have g2 := hgi.args
    have hnl := nBytes_len hgi
    have l1 := le2_len ns[i].ins
    have l2 := put1_true_len ns[i].args
    obtain ⟨b2, e2⟩ : ∃ b, b = bs ++ [u8 ns[i].op, u8 ns[i].ins.length] := ⟨_, rfl⟩
    have n2 := congrArg List.length e2
    simp only [List.length_append, List.length_cons, List.length_nil] at n2
    simp (disch := omega) [go_sem, lodgeref17_Bytes_l7, h, hlt, encN]
    refine rb_l5 (ns := ns) (out := out) (x := ns[i]) (i := i) (bs := b2) g1 (by omega) (by simp (disch := omega) [go_sem, h, encN, e2]) fun s b3 e3 h => ?_
    have n3 := congrArg List.length e3
    simp only [List.length_append, l1] at n3
    obtain ⟨b4, e4⟩ : ∃ b, b = b3 ++ [u8 ns[i].args.length] := ⟨_, rfl⟩
    have n4 := congrArg List.length e4
    simp only [List.length_append, List.length_cons, List.length_nil] at n4
    simp (disch := omega) [go_sem, h, encN]
    refine rb_l6 (ns := ns) (out := out) (x := ns[i]) (i := i) (bs := b4) g2 (by omega) (by simp (disch := omega) [go_sem, h, encN, e4]) fun s b5 e5 h => ?_
    have n5 := congrArg List.length e5
    simp only [List.length_append, l2] at n5
    have eN : b5 ++ (if ns[i].op = 2 then tBytes ns[i].shape ns[i].wide ns[i].data else []) = bs ++ nBytes ns[i] := by rw [e5, e4, e3, e2]; simp [nBytes]
    by_cases k : ns[i].op = 2
    · rw [if_pos k] at eN
      have ht := tvErr_len (hgi.tens k)
      have hr := rawB_len ns[i].wide ns[i].data
      have hd := dBytes_len ns[i].shape ns[i].wide
      have htl : (tBytes ns[i].shape ns[i].wide ns[i].data).length < 2 ^ 38 := by simp only [tBytes, List.length_append]; omega
      simp (disch := omega) [go_sem, h, encN, k]
      refine cal_pure (rtbytes61 ns[i].shape ns[i].wide ns[i].data (by omega) (by omega)) rfl (noImm_owU _) ?_
      obtain ⟨b6, e6⟩ : ∃ b, b = bs ++ nBytes ns[i] := ⟨_, rfl⟩
      rw [← e6] at eN hm
      simp (disch := omega) [go_sem, h, encN]
      exact hK (i + 1, b6) _ ⟨by simp only; omega, hm, by simp only [e6, List.length_append]; omega, by simp (disch := omega) [go_sem, h, encN, ← eN]⟩ (by simp only; omega)
    · rw [if_neg k, List.append_nil] at eN
      rw [← eN] at hm
      have n6 := congrArg List.length eN
      simp only [List.length_append] at n6
      simp (disch := omega) [go_sem, h, encN, k]
      exact hK (i + 1, b5) _ ⟨by simp only; omega, hm, by simp only; omega, by simp (disch := omega) [go_sem, h, encN]⟩ (by simp only; omega)
  · obtain rfl : i = ns.length := by omega
    rw [List.drop_length] at hm
    simp only [List.flatMap_nil, List.append_nil] at hm
    subst hm
    simp (disch := omega) [go_sem, lodgeref17_Bytes_l7, h]
    exact hex _ (by omega) (by simp (disch := omega) [go_sem, h])
theorem rbytes25 (g : Gr) (hn : g.nodes.length < 2 ^ 62) (hf : ∀ n ∈ g.nodes, n.fin) : ACalls pg G F_lodgeref17_Bytes [grAV g] (.tup [owU (if (gErr g).isNil = true then gBytes g else []), fl (gErr g).flt]) := by
  have hok := gErr_good (g := g)
  obtain ⟨ns, out⟩ := g
  simp only at hn hf
  have f2 : (Er.s 2).flt = (104, false, 0) := by decide
  have f3 : (Er.s 3).flt = (102, false, 0) := by decide
  refine lodgeref17_Bytes_call rfl ?_
  have h64 : decide ((64 : Int) < ns.length) = decide (64 < ns.length) := by
    by_cases k : 64 < ns.length
    · have : (64 : Int) < ns.length := by omega
      simp [k, this]
    · have : ¬ (64 : Int) < ns.length := by omega
      simp [k, this]
  simp (disch := omega) [go_sem, lodgeref17_Bytes_c, h64]
  refine rb_l0 (ns := ns) (out := out) (T := manyG ⟨ns, out⟩) hn hf rfl (by simp (disch := omega) [go_sem, h64]) fun s h => ?_
  cases hM : manyG ⟨ns, out⟩ with
  | true =>
    rw [hM] at h
    simp (disch := omega) [go_sem, h]
    refine cal_pure (bare57 104) rfl rfl ?_
    simp (disch := omega) [go_sem, h, gErr, hM, Er.isNil, f2]
  | false =>
    rw [hM] at h
    simp (disch := omega) [go_sem, h]
    refine cal_pure (count58 out) rfl rfl ?_
    simp (disch := omega) [go_sem, h]
    refine rb_l3 (ns := ns) (out := out) (o0 := oddI out) (T := offG ⟨ns, out⟩) hn hf (by simp only [offG]; exact Bool.or_comm _ _) (by simp (disch := omega) [go_sem, h, oddI]) fun s h => ?_
    cases hO : offG ⟨ns, out⟩ with
    | true =>
      rw [hO] at h
      simp (disch := omega) [go_sem, h]
      refine cal_pure (bare57 102) rfl rfl ?_
      simp (disch := omega) [go_sem, h, gErr, hM, hO, Er.isNil, f3]
    | false =>
      rw [hO] at h
      simp (disch := omega) [go_sem, h]
      have eG : gErr ⟨ns, out⟩ = constErr ns := by simp [gErr, hM, hO]
      refine rb_l4 (ns := ns) (out := out) hn hf (by simp (disch := omega) [go_sem, h]) (fun hc s h => ?_) (fun hc s h => ?_)
      · rw [eG] at hok ⊢
        obtain ⟨g1, g2⟩ := hok hc
        obtain ⟨T, eT⟩ : ∃ T, T = ([76, 71] ++ le2 ns.length) ++ ns.flatMap nBytes := ⟨_, rfl⟩
        simp (disch := omega) [go_sem, h]
        refine rb_l7 (ns := ns) (out := out) (T := T) g1 g2 (b0 := [76, 71] ++ le2 ns.length) rfl eT (by simp (disch := omega) [go_sem, h, le2]) fun s hTl h => ?_
        simp (disch := omega) [go_sem, h]
        refine cal_pure (none47 G) rfl rfl ?_
        have e : gBytes ⟨ns, out⟩ = T ++ le2 out := by rw [eT]; rfl
        simp (disch := omega) [go_sem, h, hc, Er.isNil, Er.flt, e, le2]
      · rw [eG] at hok ⊢
        have hni : (constErr ns).isNil = false := by
          cases hh : constErr ns <;> first | exact absurd hh hc | rfl
        simp (disch := omega) [go_sem, h, hni]
end
end Go.Ideal.Tryd
end

section
set_option linter.unusedVariables false
set_option linter.unusedSimpArgs false
set_option maxRecDepth 10000
namespace Go.Ideal.Tryd
section
variable {G : Nat → Option Value} {bk : Nat → Nat × Nat} {Q : Exit → St → Prop} {st : St}
theorem gbl_l0 {u : List (List Int)} {v5 v6 v7 v8 : AV} (hn : u.length < 2 ^ 40) (hb : ∀ r ∈ u, r.length < 2 ^ 40) (h : st.s 9 = owII u ∧ st.s 10 = owII u ∧ st.s 5 = v5 ∧ st.s 6 = v6 ∧ st.s 7 = v7 ∧ st.s 8 = v8 ∧ st.s 11 = li 0) (hex : ∀ s, s.s 9 = owII u ∧ s.s 10 = owII u ∧ s.s 5 = v5 ∧ s.s 6 = v6 ∧ s.s 7 = v7 ∧ s.s 8 = v8 → Q (.exit 0) s) : AW pg G 74 (.loop lodgelaw17_GraphBytes_l0) Q st := by
  refine aw_loop Nat (fun i st => i ≤ u.length ∧ st.s 9 = owII u ∧ st.s 10 = owII u ∧ st.s 5 = v5 ∧ st.s 6 = v6 ∧ st.s 7 = v7 ∧ st.s 8 = v8 ∧ st.s 11 = li i) (fun i => u.length - i) 0 ⟨by simp, h⟩ ?_
  clear h
  rintro i st K ⟨hi, h⟩ hK
  by_cases hlt : i < u.length
  · have hbi := hb _ (List.getElem_mem hlt)
    simp (disch := omega) [go_sem, lodgelaw17_GraphBytes_l0, h, hlt]
    refine aw_draw ?_
    simp (disch := omega) [go_sem, h, hlt]
    refine dCal_pure (sameInts17 (a := u[i]) (b := u[i]) (by omega)) rfl rfl (by simp) [64] (by simp) (by simp (disch := omega) [go_sem, h]) ?_
    simp (disch := omega) [go_sem, h]
    refine dFin_i (by decide) fun s2 hs he => ?_
    simp (disch := omega) [go_sem, hs, h]
    exact hK (i + 1) _ ⟨by omega, by simp (disch := omega) [go_sem, hs, h]⟩ (by omega)
  · obtain rfl : i = u.length := by omega
    simp (disch := omega) [go_sem, lodgelaw17_GraphBytes_l0, h]
    exact hex _ (by simp (disch := omega) [go_sem, h])
theorem small_sh {n : Nd} (h : smallN n = true) : n.sh ∧ n.ins.length ≤ 10 := by
  simp only [smallN, Bool.and_eq_true, decide_eq_true_eq] at h
  exact ⟨⟨by omega, by omega, by omega, by omega⟩, h.1.1⟩
theorem tot_le {l : List (List Int)} {m : Nat} (h : ∀ r ∈ l, r.length ≤ m) : tot l ≤ m * l.length := by
  induction l with
  | nil => simp [tot]
  | cons r l ih =>
    have h1 := h r (by simp)
    have h2 := ih fun x hx => h x (by simp [hx])
    simp only [tot, List.map_cons, List.sum_cons, List.length_cons] at h2 ⊢
    rw [Nat.mul_add, Nat.mul_one]
    omega
theorem flat_len {l : List Nd} (h : ∀ n ∈ l, n.good) : (l.flatMap nBytes).length ≤ 70000 * l.length := by
  induction l with
  | nil => simp
  | cons n l ih =>
    have h1 := nBytes_len (h n (by simp))
    have h2 := ih fun x hx => h x (by simp [hx])
    simp only [List.flatMap_cons, List.length_append, List.length_cons, Nat.mul_add, Nat.mul_one]
    omega
theorem gBytes_len {g : Gr} (h : gErr g = .nil) : (gBytes g).length < 2 ^ 39 := by
  obtain ⟨h1, h2⟩ := gErr_good h
  have := flat_len h2
  simp only [gBytes, List.length_append, le2, List.length_cons, List.length_nil]
  omega
theorem graphBytes5 (hS : Sent G bk) (g : Gr) (hn : g.nodes.length < 2 ^ 62) (hf : ∀ n ∈ g.nodes, n.fin) : ACalls pg G F_lodgelaw17_GraphBytes [grAV g] (lb true) := by
  refine lodgelaw17_GraphBytes_call rfl ?_
  have hw := wgraph22 (G := G) g hn hf
  have hb := gbytes24 (G := G) hS g hf
  have hbe := gbytes24e (G := G) hS g hn hf
  have hr := rbytes25 (G := G) g hn hf
  have hc := cgraph23 (G := G) g
  have hsg := sgraph28 (G := G) g hn hf
  have hsm := same18 (G := G) hS (gErr_ok g) (gErr g).flt
  have hcs := gErr_cases g
  have hle := gErr_good (g := g)
  obtain ⟨ns, out⟩ := g
  simp only at hn hf hw hc hle
  simp (disch := omega) [go_sem, lodgelaw17_GraphBytes_c]
  refine cal_pure first21 rfl rfl ?_
  simp (disch := omega) [go_sem]
  refine cal_pure hw rfl rfl ?_
  cases hws : wGraph ⟨ns, out⟩ with
  | false => simp (disch := omega) [go_sem]
  | true =>
    simp only [wGraph, Bool.and_eq_true, decide_eq_true_eq, List.all_eq_true] at hws
    have hsh : ∀ n ∈ ns, n.sh := fun n hm => (small_sh (hws.2 n hm)).1
    simp (disch := omega) [go_sem]
    refine cal_pure (hc (by omega) hsh) rfl (by simp only [noImm, noImmL, encM_noImm]; rfl) ?_
    simp (disch := omega) [go_sem]
    have htot : tot (ns.map (·.ins)) < 2 ^ 40 := by
      have := tot_le (l := ns.map (·.ins)) (m := 10) (fun r hr => by
        obtain ⟨n, hn, rfl⟩ := List.mem_map.1 hr
        exact (small_sh (hws.2 n hn)).2)
      simp only [List.length_map] at this
      omega
    have hU := uses26 (G := G) ns out (by omega) htot
    have hV := ruses27 (G := G) ns out (by omega) htot
    obtain ⟨u, hu⟩ : ∃ u, u = uAll (ns.map (·.ins)) 0 (List.replicate ns.length []) := ⟨_, rfl⟩
    rw [← hu] at hU hV
    have hu2 : u = uAll (ns.map (·.ins)) 0 (List.replicate (ns.map (·.ins)).length []) := by simpa using hu
    obtain ⟨u1, u2, -, -⟩ := uses_law hu2
    simp only [List.length_map] at u1 u2
    have hiU : noImm (owII u) = true := by simp only [noImm]; exact noImmL_map fun x => by simp only [noImm]; exact noImmL_li x
    have hbu : ∀ r ∈ u, r.length < 2 ^ 40 := fun r hr => by have := u2 r hr; omega
    rcases hcs with e | ⟨k, hk, e⟩ | ⟨p, k, hk, e⟩
    · have hbl := gBytes_len e
      obtain ⟨B, hB⟩ : ∃ B, B = gBytes ⟨ns, out⟩ := ⟨_, rfl⟩
      have hne : B ≠ [] := by rw [hB]; simp [gBytes]
      have hb' := hb e
      rw [e] at hr hsm
      rw [← hB] at hb' hr hbl
      simp only [encE, Er.isNil, if_true] at hsm hb' hr
      refine cal_imm hb' rfl (by simp [noImm, noImmL, hne]) ?_
      simp (disch := omega) [go_sem]
      refine cal_pure hr rfl (by simp only [noImm, noImmL, noImmL_lu]; rfl) ?_
      simp (disch := omega) [go_sem]
      refine cal_pure hU rfl hiU ?_
      simp (disch := omega) [go_sem]
      refine cal_pure hV rfl hiU ?_
      simp (disch := omega) [go_sem]
      refine cal_pure hsg rfl rfl ?_
      simp (disch := omega) [go_sem]
      refine gbl_l0 (u := u) (v5 := slU B) (v6 := .lit .nilIface) (v7 := owU B) (v8 := .var [li (Er.nil).flt.1, lb (Er.nil).flt.2.1, li (Er.nil).flt.2.2]) (by omega) hbu (by simp (disch := omega) [go_sem]) fun s h => ?_
      simp (disch := omega) [go_sem, h]
      refine cal_pure (sbytes29 B (by omega)) rfl rfl ?_
      simp (disch := omega) [go_sem, h]
      refine cal_pure hsm rfl rfl ?_
      simp (disch := omega) [go_sem, h]
    · have hb' := hbe (by rw [e]; simp)
      rw [e] at hr hsm hb'
      simp only [encE, Er.isNil, Bool.false_eq_true, if_false] at hsm hb' hr
      refine cal_pure hb' rfl rfl ?_
      simp (disch := omega) [go_sem]
      refine cal_pure hr rfl (by simp only [noImm, noImmL]; rfl) ?_
      simp (disch := omega) [go_sem]
      refine cal_pure hU rfl hiU ?_
      simp (disch := omega) [go_sem]
      refine cal_pure hV rfl hiU ?_
      simp (disch := omega) [go_sem]
      refine cal_pure hsg rfl rfl ?_
      simp (disch := omega) [go_sem]
      refine gbl_l0 (u := u) (v5 := owU []) (v6 := sv bk k) (v7 := owU []) (v8 := .var [li (Er.s k).flt.1, lb (Er.s k).flt.2.1, li (Er.s k).flt.2.2]) (by omega) hbu (by simp (disch := omega) [go_sem]) fun s h => ?_
      simp (disch := omega) [go_sem, h]
      refine cal_pure (sbytes29 [] (by simp)) rfl rfl ?_
      simp (disch := omega) [go_sem, h]
      refine cal_pure hsm rfl rfl ?_
      simp (disch := omega) [go_sem, h]
    · have hb' := hbe (by rw [e]; simp)
      rw [e] at hr hsm hb'
      simp only [encE, Er.isNil, Bool.false_eq_true, if_false] at hsm hb' hr
      refine cal_imm hb' rfl rfl ?_
      simp (disch := omega) [go_sem]
      refine cal_pure hr rfl (by simp only [noImm, noImmL]; rfl) ?_
      simp (disch := omega) [go_sem]
      refine cal_pure hU rfl hiU ?_
      simp (disch := omega) [go_sem]
      refine cal_pure hV rfl hiU ?_
      simp (disch := omega) [go_sem]
      refine cal_pure hsg rfl rfl ?_
      simp (disch := omega) [go_sem]
      refine gbl_l0 (u := u) (v5 := owU []) (v6 := .ifc T_At (.ip [li p, sv bk k] 0)) (v7 := owU []) (v8 := .var [li (Er.at p (.s k)).flt.1, lb (Er.at p (.s k)).flt.2.1, li (Er.at p (.s k)).flt.2.2]) (by omega) hbu (by simp (disch := omega) [go_sem]) fun s h => ?_
      simp (disch := omega) [go_sem, h]
      refine cal_pure (sbytes29 [] (by simp)) rfl rfl ?_
      simp (disch := omega) [go_sem, h]
      refine cal_pure hsm rfl rfl ?_
      simp (disch := omega) [go_sem, h]
end
end Go.Ideal.Tryd
end
