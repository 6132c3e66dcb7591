/- Part Ps of the proof: a machine with trees for values, its soundness, and walks on it. -/
import Derived.Test.YtfdhkijgolgnfaaDoorPr
import Derived.Test.YtfdhkijgolgnfaaDoorPi
import Derived.Shelf.Spec.SlicesGrow
section
set_option linter.unusedVariables false
set_option linter.unusedSimpArgs false
set_option maxRecDepth 10000
namespace Go.Ideal.Tryd
section
variable {G : Nat → Option Value} {bk : Nat → Nat × Nat} {Q : Exit → St → Prop} {st : St}
theorem d12 {row bs : List Int} (hr : row.length ≤ 8) (hb : bs.length < 2 ^ 39) (h0 : st.ep 0 = 0) (h : st.s 18 = slI row ∧ st.s 19 = li row.length ∧ st.s 20 = li 0 ∧ st.s 0 = .var [owU bs])
    (hex : ∀ s b, b = bs ++ row.flatMap le2 → s.ep 0 = 0 ∧ s.s 0 = .var [owU b] → Q (.exit 0) s) : AW pg G 28 (.loop a18) Q st := by
  refine a02 (Nat × List Int) (fun p st => p.1 ≤ row.length ∧ p.2 ++ (row.drop p.1).flatMap le2 = bs ++ row.flatMap le2 ∧ p.2.length ≤ bs.length + 2 * p.1 ∧ st.ep 0 = 0 ∧ st.s 18 = slI row ∧ st.s 19 = li row.length ∧ st.s 20 = li p.1 ∧ st.s 0 = .var [owU p.2]) (fun p => row.length - p.1) (0, bs) ⟨by simp, rfl, by simp, h0, h⟩ ?_
  clear h h0
  rintro ⟨j, b⟩ st K ⟨hj, hm, hl, h0, h⟩ hK
  simp only at hj hm hl h
  by_cases hlt : j < row.length
  · rw [List.drop_eq_getElem_cons hlt, List.flatMap_cons, ← List.append_assoc] at hm
    simp (disch := omega) [go_sem, a18, h, h0, hlt]
    refine a0s (b6y b row[j] (by omega)) rfl rfl rfl (c0s _) ?_
    simp (disch := omega) [go_sem, h, h0]
    exact hK (j + 1, b ++ le2 row[j]) _ ⟨by simp only; omega, hm, by simp only [List.length_append, le2, List.length_cons, List.length_nil]; omega, by simp (disch := omega) [go_sem, h0], by simp (disch := omega) [go_sem, h, h0, le2]⟩ (by simp only; omega)
  · obtain rfl : j = row.length := by omega
    rw [List.drop_length] at hm
    simp only [List.flatMap_nil, List.append_nil] at hm
    simp (disch := omega) [go_sem, a18, h, h0]
    exact hex _ _ hm (by simp (disch := omega) [go_sem, h, h0])
theorem d5e (b : List Int) (sh : List Int) (w : Bool) (hb : b.length < 2 ^ 38) (hr : sh.length ≤ 8) : ACallsX pg G b4q [.var [owU b], .agg [slI sh, lb w]] (.tup []) [(0, .var [owU (b ++ a3h sh w)])] := by
  refine a8s (pins := [0]) (by kernel_rfl) rfl rfl (by simp [go_sem]) rfl ?_
  cases w with
  | true =>
    simp (disch := omega) [go_sem, a3n]
    refine a0s (c8a b ((sh.length : Int) + 8) (by omega)) rfl rfl rfl (c0s _) ?_
    simp (disch := omega) [go_sem]
    refine d12 (row := sh) (bs := b ++ [u8 ((sh.length : Int) + 8)]) hr (by simp; omega) (by simp (disch := omega) [go_sem]) (by simp (disch := omega) [go_sem]) fun s b2 hb2 h => ?_
    subst hb2
    simp (disch := omega) [go_sem, h, a3h]
  | false =>
    simp (disch := omega) [go_sem, a3n]
    refine a0s (c8a b (sh.length : Int) (by omega)) rfl rfl rfl (c0s _) ?_
    simp (disch := omega) [go_sem]
    refine d12 (row := sh) (bs := b ++ [u8 (sh.length : Int)]) hr (by simp; omega) (by simp (disch := omega) [go_sem]) (by simp (disch := omega) [go_sem]) fun s b2 hb2 h => ?_
    subst hb2
    simp (disch := omega) [go_sem, h, a3h]
theorem c7z {v : In} {i : Nat} {row bs : List Int} (hr : row.length ≤ 8) (hb : bs.length < 2 ^ 39) (h0 : st.ep 0 = 0) (h : st.s 3 = .var (eI v) ∧ st.s 20 = .own 1 2 [slI v.ins, slI v.args] ∧ st.s 21 = li 2 ∧ st.s 22 = li i ∧ st.s 30 = slI row ∧ st.s 31 = li row.length ∧ st.s 32 = li 0 ∧ st.s 0 = .var [owU bs])
    (hex : ∀ s b, b = bs ++ row.flatMap (a4q true) → s.ep 0 = 0 ∧ s.s 3 = .var (eI v) ∧ s.s 20 = .own 1 2 [slI v.ins, slI v.args] ∧ s.s 21 = li 2 ∧ s.s 22 = li i ∧ s.s 0 = .var [owU b] → Q (.exit 2) s) : AW pg G 49 (.loop a1v) Q st := by
  refine a02 (Nat × List Int) (fun p st => p.1 ≤ row.length ∧ p.2 ++ (row.drop p.1).flatMap (a4q true) = bs ++ row.flatMap (a4q true) ∧ p.2.length ≤ bs.length + 4 * p.1 ∧ st.ep 0 = 0 ∧ st.s 3 = .var (eI v) ∧ st.s 20 = .own 1 2 [slI v.ins, slI v.args] ∧ st.s 21 = li 2 ∧ st.s 22 = li i ∧ st.s 30 = slI row ∧ st.s 31 = li row.length ∧ st.s 32 = li p.1 ∧ st.s 0 = .var [owU p.2]) (fun p => row.length - p.1) (0, bs) ⟨by simp, rfl, by simp, h0, h⟩ ?_
  clear h h0
  rintro ⟨j, b⟩ st K ⟨hj, hm, hl, h0, h⟩ hK
  simp only at hj hm hl h
  by_cases hlt : j < row.length
  · have hp := a17 true row[j]
    rw [List.drop_eq_getElem_cons hlt, List.flatMap_cons, ← List.append_assoc] at hm
    simp (disch := omega) [go_sem, a1v, h, h0, hlt, eI]
    refine a0s (a6a b row[j] (by omega)) rfl rfl rfl (c0s _) ?_
    simp (disch := omega) [go_sem, h, h0, eI]
    exact hK (j + 1, b ++ a4q true row[j]) _ ⟨by simp only; omega, hm, by simp only [List.length_append]; omega, by simp (disch := omega) [go_sem, h0], by simp (disch := omega) [go_sem, h, h0, eI]⟩ (by simp only; omega)
  · obtain rfl : j = row.length := by omega
    rw [List.drop_length] at hm
    simp only [List.flatMap_nil, List.append_nil] at hm
    simp (disch := omega) [go_sem, a1v, h, h0]
    exact hex _ _ hm (by simp (disch := omega) [go_sem, h, h0])
def wI (v : In) (b : List Int) : Nat → List Int
  | 0 => b
  | 1 => b ++ (u8 v.ins.length :: v.ins.flatMap (a4q true))
  | _ => b ++ (u8 v.ins.length :: v.ins.flatMap (a4q true)) ++ (u8 v.args.length :: v.args.flatMap (a4q true))
theorem d3n {v : In} {bs : List Int} (h1 : v.ins.length ≤ 8) (h2 : v.args.length ≤ 8) (hb : bs.length < 2 ^ 38) (h0 : st.ep 0 = 0) (h : st.s 3 = .var (eI v) ∧ st.s 20 = .own 1 2 [slI v.ins, slI v.args] ∧ st.s 21 = li 2 ∧ st.s 22 = li 0 ∧ st.s 0 = .var [owU bs])
    (hex : ∀ s, s.ep 0 = 0 ∧ s.s 3 = .var (eI v) ∧ s.s 0 = .var [owU (wI v bs 2)] → Q (.exit 0) s) : AW pg G 49 (.loop a1c) Q st := by
  refine a02 (Nat × List Int) (fun p st => p.1 ≤ 2 ∧ p.2 = wI v bs p.1 ∧ p.2.length ≤ bs.length + 40 * p.1 ∧ st.ep 0 = 0 ∧ st.s 3 = .var (eI v) ∧ st.s 20 = .own 1 2 [slI v.ins, slI v.args] ∧ st.s 21 = li 2 ∧ st.s 22 = li p.1 ∧ st.s 0 = .var [owU p.2]) (fun p => 2 - p.1) (0, bs) ⟨by simp, rfl, by simp, h0, by simp (disch := omega) [go_sem, h]⟩ ?_
  clear h h0
  rintro ⟨i, b⟩ st K ⟨hi, hm, hl, h0, h⟩ hK
  simp only at hi hm hl h
  have q1 := a1d v.ins
  have q2 := a1d v.args
  match i, hi with
  | 0, _ =>
    simp (disch := omega) [go_sem, a1c, h, h0]
    refine a0s (c8a b (v.ins.length : Int) (by omega)) rfl rfl rfl (c0s _) ?_
    simp (disch := omega) [go_sem, h, h0]
    refine c7z (v := v) (i := 0) (row := v.ins) (bs := b ++ [u8 (v.ins.length : Int)]) h1 (by simp; omega) (by simp (disch := omega) [go_sem, h0]) (by simp (disch := omega) [go_sem, h, h0, eI]) fun s b2 hb2 hh => ?_
    simp (disch := omega) [go_sem, hh]
    refine hK (1, b2) _ ⟨by simp, by rw [hb2, hm]; simp [wI], by rw [hb2]; simp only [List.length_append, List.length_cons, List.length_nil]; omega, by simp (disch := omega) [go_sem, hh], by simp (disch := omega) [go_sem, hh]⟩ (by simp)
  | 1, _ =>
    simp (disch := omega) [go_sem, a1c, h, h0]
    refine a0s (c8a b (v.args.length : Int) (by omega)) rfl rfl rfl (c0s _) ?_
    simp (disch := omega) [go_sem, h, h0]
    refine c7z (v := v) (i := 1) (row := v.args) (bs := b ++ [u8 (v.args.length : Int)]) h2 (by simp; omega) (by simp (disch := omega) [go_sem, h0]) (by simp (disch := omega) [go_sem, h, h0, eI]) fun s b2 hb2 hh => ?_
    simp (disch := omega) [go_sem, hh]
    refine hK (2, b2) _ ⟨by simp, by rw [hb2, hm]; simp [wI], by rw [hb2]; simp only [List.length_append, List.length_cons, List.length_nil]; omega, by simp (disch := omega) [go_sem, hh], by simp (disch := omega) [go_sem, hh]⟩ (by simp)
  | 2, _ =>
    simp (disch := omega) [go_sem, a1c, h, h0]
    exact hex _ (by simp (disch := omega) [go_sem, h, h0, ← hm])
theorem d78 (b : List Int) (v : In) (hb : b.length < 2 ^ 37) (h1 : v.ins.length ≤ 8) (h2 : v.args.length ≤ 8) (hop : 0 ≤ v.op ∧ v.op ≤ 255) : ACallsX pg G b3l [.var [owU b], .agg (eI v)] (.tup []) [(0, .var [owU (b ++ a7b v)])] := by
  refine a75 (pins := [0]) (by kernel_rfl) rfl rfl (by simp [go_sem]) rfl ?_
  have e1 : u8 v.op = v.op := by rw [c5x]; omega
  have p1 := a17 true v.dst
  have p2 := a17 true v.frm
  have q1 := a1d v.ins
  have q2 := a1d v.args
  simp (disch := omega) [go_sem, a5l, eI]
  refine a0s (c8a b v.op (by omega)) rfl rfl rfl (c0s _) ?_
  simp (disch := omega) [go_sem, eI]
  refine a0s (a6a _ v.dst (by simp; omega)) rfl rfl rfl (c0s _) ?_
  simp (disch := omega) [go_sem, eI]
  refine d3n (v := v) (bs := b ++ [u8 v.op] ++ a4q true v.dst) h1 h2 (by simp; omega) (by simp (disch := omega) [go_sem]) (by simp (disch := omega) [go_sem, eI]) fun s h => ?_
  have hl : (wI v (b ++ u8 v.op :: a4q true v.dst) 2).length < 2 ^ 38 := by
    simp only [wI, List.length_append, List.length_cons, List.length_nil]
    omega
  simp (disch := omega) [go_sem, h, eI]
  refine a0s (a6a _ v.frm (by omega)) rfl rfl rfl (c0s _) ?_
  simp (disch := omega) [go_sem, h, eI]
  refine a0s (a6a _ v.to (by simp only [List.length_append]; omega)) rfl rfl rfl (c0s _) ?_
  simp (disch := omega) [go_sem, h, wI, a7b, e1]
end
end Go.Ideal.Tryd
end
section
set_option linter.unusedVariables false
set_option linter.unusedSimpArgs false
namespace Go.Ideal.Tryd
open Go.Proofs Go.Shelf
noncomputable def b5h : Ren where
  f := fun x => match x with
    | 4 => 170
    | n => n
  t := fun x => match x with
    | 22 => 24
    | 25 => 3
    | n => n
  g := fun n => n
theorem e6o : Lays8.n4 Go.Proofs.Tryd.prog b5h where
  mixed := Eq.refl true
  f4 := ⟨Go.Proofs.Tryd.f170.name, of_decide_eq_true (by kernel_rfl), Go.Proofs.Tryd.func170.trans (by kernel_rfl)⟩
  t0 := Go.Proofs.Tryd.underlying0
  a0 := Go.Proofs.Tryd.isAgg0
  z0 := Go.Proofs.Tryd.sizeOf0
  v0 := Go.Proofs.Tryd.zeroValue0
  t3 := Go.Proofs.Tryd.underlying3
  a3 := Go.Proofs.Tryd.isAgg3
  z3 := Go.Proofs.Tryd.sizeOf3
  v3 := Go.Proofs.Tryd.zeroValue3
  t4 := Go.Proofs.Tryd.underlying4
  a4 := Go.Proofs.Tryd.isAgg4
  z4 := Go.Proofs.Tryd.sizeOf4
  v4 := Go.Proofs.Tryd.zeroValue4
  t9 := Go.Proofs.Tryd.underlying9
  a9 := Go.Proofs.Tryd.isAgg9
  z9 := Go.Proofs.Tryd.sizeOf9
  v9 := Go.Proofs.Tryd.zeroValue9
  t20 := Go.Proofs.Tryd.underlying20
  a20 := Go.Proofs.Tryd.isAgg20
  z20 := Go.Proofs.Tryd.sizeOf20
  v20 := Go.Proofs.Tryd.zeroValue20
  t22 := Go.Proofs.Tryd.underlying24
  a22 := Go.Proofs.Tryd.isAgg24
  z22 := Go.Proofs.Tryd.sizeOf24
  v22 := Go.Proofs.Tryd.zeroValue24
theorem d9a (G : Nat → Option Value) (n : Nat) (hn : n < 2 ^ 40) : ACalls pg G 170 [.lit (.slice none 0 0), li n] (.own 1 0 []) := by
  intro w args A ow hsz hA how hG hpre
  have h0 := hpre 0 _ rfl
  have h1 := hpre 1 _ rfl
  simp only [R] at h0 h1
  have e : args = #[.slice none 0 0, .int .i64 n] := by
    apply Array.ext
    · simpa using hsz
    · intro i hi hi2
      simp at hi2
      match i, hi2 with
      | 0, _ => simpa [Array.getD, hi] using h0
      | 1, _ => simpa [Array.getD, hi] using h1
  rw [e]
  by_cases hz : n = 0
  · subst hz
    refine (Any8.slices_Grow_room e6o none 0 0 0 w (by omega) (by omega) (by omega) (by omega)).mono fun ex w' ⟨he, hw⟩ => ?_
    subst hw
    refine ⟨_, he, ⟨Nat.le_refl _, rfl, rfl, rfl, fun _ _ _ => rfl, noB, fun b hb => hb.elim, ?_⟩⟩
    simp only [R]
    exact .inl ⟨trivial, by simp [RL], none, rfl⟩
  · obtain ⟨i0, hi0, z, hz0, hs0, hb0, hz1⟩ : ∃ i0, pg.info? 3 = some i0 ∧ ∃ z, i0.zero = some z ∧ i0.size = 1 ∧ i0.bytes = 8 ∧ z.cells.size = 1 := by
      have h : ((pg.info? 3).bind fun i => i.zero.map fun z => (i.size, i.bytes, z.cells.size)) = some (1, 8, 1) := by kernel_rfl
      cases hi : pg.info? 3 with
      | none => rw [hi] at h; cases h
      | some i =>
        rw [hi] at h
        cases hz : i.zero with
        | none => simp [hz] at h
        | some z =>
          simp only [Option.bind, hz, Option.map, Option.some.injEq, Prod.mk.injEq] at h
          exact ⟨i, rfl, z, hz, h.1, h.2.1, h.2.2⟩
    refine (Any8.slices_Grow_grow e6o i0 z hi0 hz0 (by omega) none 0 0 n [] w (by omega) (by omega) (by rw [hb0]; omega) (by omega) (by simp) (fun _ => rfl) (fun a h => by cases h)).mono fun ex w' ⟨he, hw⟩ => ?_
    have hge := grownCap_ge w (0 + n) 0 (b5h.t 25)
    have hle : grownCap w (0 + n) 0 (b5h.t 25) ≤ maxLen := grownCap_le_maxLen w (0 + n) 0 (b5h.t 25) (by simp only [maxLen]; omega)
    generalize hc : grownCap w (0 + n) 0 (b5h.t 25) = c at *
    generalize hcur : ([].toArray ++ Builtin.zeroCells z.cells (0 + n - 0) ++ Builtin.zeroCells z.cells (c - (0 + n)) : Array Value) = cur at *
    have hcs : cur.size = c * 1 := by
      rw [← hcur]
      simp only [Array.size_append, size_zeroCells, hz1]
      simp
      omega
    have hh : w'.heap = w.heap.push (.cells cur (b5h.t 25)) := by rw [hw]; rfl
    refine ⟨_, he, ⟨by rw [hh, Array.size_push]; omega, by rw [hw]; rfl, by rw [hw]; rfl, by rw [hw]; rfl, fun b hb _ => by rw [hh, Array.getElem?_push_lt hb]; simp [hb], fun b => b = w.heap.size, fun b hb => ⟨.inr (by omega), by rw [hh, Array.size_push]; omega⟩, ?_⟩⟩
    simp only [R]
    refine .inr ⟨w.heap.size, c, cur, _, (0, 0), rfl, rfl, by rw [hh, Array.getElem?_push_size], .inl rfl, Nat.zero_le _, hle, hcs, by simp [C1], by simp [RL]⟩
end Go.Ideal.Tryd
end
section
set_option linter.unusedVariables false
set_option linter.unusedSimpArgs false
set_option maxRecDepth 10000
namespace Go.Ideal.Tryd
abbrev slR (xs : List (List Int)) : AV := .sl xs.length (xs.map slI)
section
variable {G : Nat → Option Value} {bk : Nat → Nat × Nat} {Q : Exit → St → Prop} {st : St}
def a3w (xs : List (List Int)) : Nat := (xs.map (·.length)).sum
theorem d3j {xs : List (List Int)} (hn : xs.length < 2 ^ 20) (hl : a3w xs < 2 ^ 39) (h : st.s 0 = slR xs ∧ st.s 2 = .own 1 0 [] ∧ st.s 3 = li (0 : Nat) ∧ st.s 9 = slR xs ∧ st.s 10 = li xs.length ∧ st.s 11 = li 0)
    (hex : ∀ s, s.s 0 = slR xs ∧ s.s 2 = .own 1 0 [] ∧ s.s 3 = li (a3w xs) → Q (.exit 0) s) : AW pg G 36 (.loop a1u) Q st := by
  refine a02 (Nat × Nat) (fun p st => p.1 ≤ xs.length ∧ p.2 + a3w (xs.drop p.1) = a3w xs ∧ st.s 0 = slR xs ∧ st.s 2 = .own 1 0 [] ∧ st.s 3 = li p.2 ∧ st.s 9 = slR xs ∧ st.s 10 = li xs.length ∧ st.s 11 = li p.1) (fun p => xs.length - p.1) (0, 0) ⟨by simp, by simp, h⟩ ?_
  clear h
  rintro ⟨j, n⟩ st K ⟨hj, hm, h⟩ hK
  simp only at hj hm h
  by_cases hlt : j < xs.length
  · rw [List.drop_eq_getElem_cons hlt] at hm
    have hs : a3w (xs[j] :: xs.drop (j + 1)) = xs[j].length + a3w (xs.drop (j + 1)) := by simp only [a3w, List.map_cons, List.sum_cons]
    rw [hs] at hm
    have hnn : ¬ ((n : Int) + (xs[j].length : Int) < 0) := by omega
    simp (disch := omega) [go_sem, a1u, h, hlt, hnn]
    exact hK (j + 1, n + xs[j].length) _ ⟨by simp only; omega, by simp only; omega, by simp (disch := omega) [go_sem, h]⟩ (by simp only; omega)
  · obtain rfl : j = xs.length := by omega
    rw [List.drop_length] at hm
    have : n = a3w xs := by simpa [a3w] using hm
    simp (disch := omega) [go_sem, a1u, h]
    exact hex _ (by simp (disch := omega) [go_sem, h, ← this])
theorem d44 {xs : List (List Int)} (hn : xs.length < 2 ^ 20) (hl : a3w xs < 2 ^ 39) (h : st.s 0 = slR xs ∧ st.s 2 = .own 1 0 [] ∧ st.s 6 = owI [] ∧ st.s 25 = slR xs ∧ st.s 26 = li xs.length ∧ st.s 27 = li 0)
    (hex : ∀ s, s.s 2 = .own 1 0 [] ∧ s.s 6 = owI xs.flatten → Q (.exit 2) s) : AW pg G 36 (.loop a1w) Q st := by
  refine a02 (Nat × List Int) (fun p st => p.1 ≤ xs.length ∧ p.2 ++ (xs.drop p.1).flatten = xs.flatten ∧ p.2.length + a3w (xs.drop p.1) = a3w xs ∧ st.s 0 = slR xs ∧ st.s 2 = .own 1 0 [] ∧ st.s 6 = owI p.2 ∧ st.s 25 = slR xs ∧ st.s 26 = li xs.length ∧ st.s 27 = li p.1) (fun p => xs.length - p.1) (0, []) ⟨by simp, by simp, by simp, h⟩ ?_
  clear h
  rintro ⟨j, ys⟩ st K ⟨hj, hm, hlen, h⟩ hK
  simp only at hj hm hlen h
  by_cases hlt : j < xs.length
  · rw [List.drop_eq_getElem_cons hlt] at hm hlen
    have hs : a3w (xs[j] :: xs.drop (j + 1)) = xs[j].length + a3w (xs.drop (j + 1)) := by simp only [a3w, List.map_cons, List.sum_cons]
    rw [hs] at hlen
    rw [List.flatten_cons, ← List.append_assoc] at hm
    simp (disch := omega) [go_sem, a1w, h, hlt]
    exact hK (j + 1, ys ++ xs[j]) _ ⟨by simp only; omega, hm, by simp only [List.length_append]; omega, by simp (disch := omega) [go_sem, h]⟩ (by simp only; omega)
  · obtain rfl : j = xs.length := by omega
    rw [List.drop_length] at hm
    have : ys = xs.flatten := by simpa using hm
    simp (disch := omega) [go_sem, a1w, h]
    exact hex _ (by simp (disch := omega) [go_sem, h, ← this])
theorem d5a (xs : List (List Int)) (hn : xs.length < 2 ^ 20) (hl : a3w xs < 2 ^ 39) : ACalls pg G b2z [slR xs] (owI xs.flatten) := by
  refine a8x rfl ?_
  obtain ⟨ys, hys⟩ : ∃ ys, ys = xs.flatten := ⟨_, rfl⟩
  rw [← hys]
  simp (disch := omega) [go_sem, a5q]
  refine d3j hn hl (by simp (disch := omega) [go_sem]) fun s h => ?_
  simp (disch := omega) [go_sem, h]
  refine a0w (d9a G (a3w xs) (by omega)) rfl rfl ?_
  simp (disch := omega) [go_sem, h]
  refine d44 hn hl (by simp (disch := omega) [go_sem, h]) fun s h => ?_
  rw [← hys] at h
  simp (disch := omega) [go_sem, h]
end
end Go.Ideal.Tryd
end
