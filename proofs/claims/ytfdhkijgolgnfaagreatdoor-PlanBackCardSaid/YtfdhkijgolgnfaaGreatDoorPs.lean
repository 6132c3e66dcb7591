/- Part Ps of the proof: a machine with trees for values, its soundness, and walks on it. -/
import Derived.Test.YtfdhkijgolgnfaaGreatDoorPr
import Derived.Test.YtfdhkijgolgnfaaGreatDoorPi
import Derived.Shelf.Spec.SlicesGrow
section
set_option linter.unusedVariables false
set_option linter.unusedSimpArgs false
set_option maxRecDepth 10000
namespace Go.Ideal.Tryz
section
variable {G : Nat → Option Value} {bk : Nat → Nat × Nat} {Q : Exit → St → Prop} {st : St}
theorem e1h {row bs : List Int} (hr : row.length ≤ 8) (hb : bs.length < 2 ^ 39) (h0 : st.ep 0 = 0) (h : st.s 18 = slI row ∧ st.s 19 = li row.length ∧ st.s 20 = li 0 ∧ st.s 0 = .var [owU bs])
    (hex : ∀ s b, b = bs ++ row.flatMap le2 → s.ep 0 = 0 ∧ s.s 0 = .var [owU b] → Q (.exit 0) s) : AW pg G 28 (.loop a2q) Q st := by
  refine a0u (Nat × List Int) (fun p st => p.1 ≤ row.length ∧ p.2 ++ (row.drop p.1).flatMap le2 = bs ++ row.flatMap le2 ∧ p.2.length ≤ bs.length + 2 * p.1 ∧ st.ep 0 = 0 ∧ st.s 18 = slI row ∧ st.s 19 = li row.length ∧ st.s 20 = li p.1 ∧ st.s 0 = .var [owU p.2]) (fun p => row.length - p.1) (0, bs) ⟨by simp, rfl, by simp, h0, h⟩ ?_
  clear h h0
  rintro ⟨j, b⟩ st K ⟨hj, hm, hl, h0, h⟩ hK
  simp only at hj hm hl h
  by_cases hlt : j < row.length
  · rw [List.drop_eq_getElem_cons hlt, List.flatMap_cons, ← List.append_assoc] at hm
    simp (disch := omega) [go_sem, a2q, h, h0, hlt]
    refine a0o (c4x b row[j] (by omega)) rfl rfl rfl (c6i _) ?_
    simp (disch := omega) [go_sem, h, h0]
    exact hK (j + 1, b ++ le2 row[j]) _ ⟨by simp only; omega, hm, by simp only [List.length_append, le2, List.length_cons, List.length_nil]; omega, by simp (disch := omega) [go_sem, h0], by simp (disch := omega) [go_sem, h, h0, le2]⟩ (by simp only; omega)
  · obtain rfl : j = row.length := by omega
    rw [List.drop_length] at hm
    simp only [List.flatMap_nil, List.append_nil] at hm
    simp (disch := omega) [go_sem, a2q, h, h0]
    exact hex _ _ hm (by simp (disch := omega) [go_sem, h, h0])
theorem e4y (b : List Int) (sh : List Int) (w : Bool) (hb : b.length < 2 ^ 38) (hr : sh.length ≤ 8) : ACallsX pg G c03 [.var [owU b], .agg [slI sh, lb w]] (.tup []) [(0, .var [owU (b ++ a3e sh w)])] := by
  refine b15 (pins := [0]) (by kernel_rfl) rfl rfl (by simp [go_sem]) rfl ?_
  cases w with
  | true =>
    simp (disch := omega) [go_sem, a4f]
    refine a0o (d6x b ((sh.length : Int) + 8) (by omega)) rfl rfl rfl (c6i _) ?_
    simp (disch := omega) [go_sem]
    refine e1h (row := sh) (bs := b ++ [u8 ((sh.length : Int) + 8)]) hr (by simp; omega) (by simp (disch := omega) [go_sem]) (by simp (disch := omega) [go_sem]) fun s b2 hb2 h => ?_
    subst hb2
    simp (disch := omega) [go_sem, h, a3e]
  | false =>
    simp (disch := omega) [go_sem, a4f]
    refine a0o (d6x b (sh.length : Int) (by omega)) rfl rfl rfl (c6i _) ?_
    simp (disch := omega) [go_sem]
    refine e1h (row := sh) (bs := b ++ [u8 (sh.length : Int)]) hr (by simp; omega) (by simp (disch := omega) [go_sem]) (by simp (disch := omega) [go_sem]) fun s b2 hb2 h => ?_
    subst hb2
    simp (disch := omega) [go_sem, h, a3e]
theorem d7g {v : In} {i : Nat} {row bs : List Int} (hr : row.length ≤ 8) (hb : bs.length < 2 ^ 39) (h0 : st.ep 0 = 0) (h : st.s 3 = .var (eI v) ∧ st.s 20 = .own 1 2 [slI v.ins, slI v.args] ∧ st.s 21 = li 2 ∧ st.s 22 = li i ∧ st.s 30 = slI row ∧ st.s 31 = li row.length ∧ st.s 32 = li 0 ∧ st.s 0 = .var [owU bs])
    (hex : ∀ s b, b = bs ++ row.flatMap (a45 true) → s.ep 0 = 0 ∧ s.s 3 = .var (eI v) ∧ s.s 20 = .own 1 2 [slI v.ins, slI v.args] ∧ s.s 21 = li 2 ∧ s.s 22 = li i ∧ s.s 0 = .var [owU b] → Q (.exit 2) s) : AW pg G 49 (.loop a2d) Q st := by
  refine a0u (Nat × List Int) (fun p st => p.1 ≤ row.length ∧ p.2 ++ (row.drop p.1).flatMap (a45 true) = bs ++ row.flatMap (a45 true) ∧ p.2.length ≤ bs.length + 4 * p.1 ∧ st.ep 0 = 0 ∧ st.s 3 = .var (eI v) ∧ st.s 20 = .own 1 2 [slI v.ins, slI v.args] ∧ st.s 21 = li 2 ∧ st.s 22 = li i ∧ st.s 30 = slI row ∧ st.s 31 = li row.length ∧ st.s 32 = li p.1 ∧ st.s 0 = .var [owU p.2]) (fun p => row.length - p.1) (0, bs) ⟨by simp, rfl, by simp, h0, h⟩ ?_
  clear h h0
  rintro ⟨j, b⟩ st K ⟨hj, hm, hl, h0, h⟩ hK
  simp only at hj hm hl h
  by_cases hlt : j < row.length
  · have hp := a07 true row[j]
    rw [List.drop_eq_getElem_cons hlt, List.flatMap_cons, ← List.append_assoc] at hm
    simp (disch := omega) [go_sem, a2d, h, h0, hlt, eI]
    refine a0o (a7z b row[j] (by omega)) rfl rfl rfl (c6i _) ?_
    simp (disch := omega) [go_sem, h, h0, eI]
    exact hK (j + 1, b ++ a45 true row[j]) _ ⟨by simp only; omega, hm, by simp only [List.length_append]; omega, by simp (disch := omega) [go_sem, h0], by simp (disch := omega) [go_sem, h, h0, eI]⟩ (by simp only; omega)
  · obtain rfl : j = row.length := by omega
    rw [List.drop_length] at hm
    simp only [List.flatMap_nil, List.append_nil] at hm
    simp (disch := omega) [go_sem, a2d, h, h0]
    exact hex _ _ hm (by simp (disch := omega) [go_sem, h, h0])
def wI (v : In) (b : List Int) : Nat → List Int
  | 0 => b
  | 1 => b ++ (u8 v.ins.length :: v.ins.flatMap (a45 true))
  | _ => b ++ (u8 v.ins.length :: v.ins.flatMap (a45 true)) ++ (u8 v.args.length :: v.args.flatMap (a45 true))
theorem e4k {v : In} {bs : List Int} (h1 : v.ins.length ≤ 8) (h2 : v.args.length ≤ 8) (hb : bs.length < 2 ^ 38) (h0 : st.ep 0 = 0) (h : st.s 3 = .var (eI v) ∧ st.s 20 = .own 1 2 [slI v.ins, slI v.args] ∧ st.s 21 = li 2 ∧ st.s 22 = li 0 ∧ st.s 0 = .var [owU bs])
    (hex : ∀ s, s.ep 0 = 0 ∧ s.s 3 = .var (eI v) ∧ s.s 0 = .var [owU (wI v bs 2)] → Q (.exit 0) s) : AW pg G 49 (.loop a1k) Q st := by
  refine a0u (Nat × List Int) (fun p st => p.1 ≤ 2 ∧ p.2 = wI v bs p.1 ∧ p.2.length ≤ bs.length + 40 * p.1 ∧ st.ep 0 = 0 ∧ st.s 3 = .var (eI v) ∧ st.s 20 = .own 1 2 [slI v.ins, slI v.args] ∧ st.s 21 = li 2 ∧ st.s 22 = li p.1 ∧ st.s 0 = .var [owU p.2]) (fun p => 2 - p.1) (0, bs) ⟨by simp, rfl, by simp, h0, by simp (disch := omega) [go_sem, h]⟩ ?_
  clear h h0
  rintro ⟨i, b⟩ st K ⟨hi, hm, hl, h0, h⟩ hK
  simp only at hi hm hl h
  have q1 := a04 v.ins
  have q2 := a04 v.args
  match i, hi with
  | 0, _ =>
    simp (disch := omega) [go_sem, a1k, h, h0]
    refine a0o (d6x b (v.ins.length : Int) (by omega)) rfl rfl rfl (c6i _) ?_
    simp (disch := omega) [go_sem, h, h0]
    refine d7g (v := v) (i := 0) (row := v.ins) (bs := b ++ [u8 (v.ins.length : Int)]) h1 (by simp; omega) (by simp (disch := omega) [go_sem, h0]) (by simp (disch := omega) [go_sem, h, h0, eI]) fun s b2 hb2 hh => ?_
    simp (disch := omega) [go_sem, hh]
    refine hK (1, b2) _ ⟨by simp, by rw [hb2, hm]; simp [wI], by rw [hb2]; simp only [List.length_append, List.length_cons, List.length_nil]; omega, by simp (disch := omega) [go_sem, hh], by simp (disch := omega) [go_sem, hh]⟩ (by simp)
  | 1, _ =>
    simp (disch := omega) [go_sem, a1k, h, h0]
    refine a0o (d6x b (v.args.length : Int) (by omega)) rfl rfl rfl (c6i _) ?_
    simp (disch := omega) [go_sem, h, h0]
    refine d7g (v := v) (i := 1) (row := v.args) (bs := b ++ [u8 (v.args.length : Int)]) h2 (by simp; omega) (by simp (disch := omega) [go_sem, h0]) (by simp (disch := omega) [go_sem, h, h0, eI]) fun s b2 hb2 hh => ?_
    simp (disch := omega) [go_sem, hh]
    refine hK (2, b2) _ ⟨by simp, by rw [hb2, hm]; simp [wI], by rw [hb2]; simp only [List.length_append, List.length_cons, List.length_nil]; omega, by simp (disch := omega) [go_sem, hh], by simp (disch := omega) [go_sem, hh]⟩ (by simp)
  | 2, _ =>
    simp (disch := omega) [go_sem, a1k, h, h0]
    exact hex _ (by simp (disch := omega) [go_sem, h, h0, ← hm])
theorem e1b (b : List Int) (v : In) (hb : b.length < 2 ^ 37) (h1 : v.ins.length ≤ 8) (h2 : v.args.length ≤ 8) (hop : 0 ≤ v.op ∧ v.op ≤ 255) : ACallsX pg G b8q [.var [owU b], .agg (eI v)] (.tup []) [(0, .var [owU (b ++ a03 v)])] := by
  refine b0x (pins := [0]) (by kernel_rfl) rfl rfl (by simp [go_sem]) rfl ?_
  have e1 : u8 v.op = v.op := by rw [c3q]; omega
  have p1 := a07 true v.dst
  have p2 := a07 true v.frm
  have q1 := a04 v.ins
  have q2 := a04 v.args
  simp (disch := omega) [go_sem, a6l, eI]
  refine a0o (d6x b v.op (by omega)) rfl rfl rfl (c6i _) ?_
  simp (disch := omega) [go_sem, eI]
  refine a0o (a7z _ v.dst (by simp; omega)) rfl rfl rfl (c6i _) ?_
  simp (disch := omega) [go_sem, eI]
  refine e4k (v := v) (bs := b ++ [u8 v.op] ++ a45 true v.dst) h1 h2 (by simp; omega) (by simp (disch := omega) [go_sem]) (by simp (disch := omega) [go_sem, eI]) fun s h => ?_
  have hl : (wI v (b ++ u8 v.op :: a45 true v.dst) 2).length < 2 ^ 38 := by
    simp only [wI, List.length_append, List.length_cons, List.length_nil]
    omega
  simp (disch := omega) [go_sem, h, eI]
  refine a0o (a7z _ v.frm (by omega)) rfl rfl rfl (c6i _) ?_
  simp (disch := omega) [go_sem, h, eI]
  refine a0o (a7z _ v.to (by simp only [List.length_append]; omega)) rfl rfl rfl (c6i _) ?_
  simp (disch := omega) [go_sem, h, wI, a03, e1]
end
end Go.Ideal.Tryz
end
section
set_option linter.unusedVariables false
set_option linter.unusedSimpArgs false
namespace Go.Ideal.Tryz
open Go.Proofs Go.Shelf
noncomputable def c1t : Ren where
  f := fun x => match x with
    | 4 => 84
    | n => n
  t := fun x => match x with
    | 22 => 46
    | 25 => 3
    | n => n
  g := fun n => n
theorem f7w : Lays8.n4 Go.Proofs.Tryz.prog c1t where
  mixed := Eq.refl true
  f4 := ⟨Go.Proofs.Tryz.f84.name, of_decide_eq_true (by kernel_rfl), Go.Proofs.Tryz.func84.trans (by kernel_rfl)⟩
  t0 := Go.Proofs.Tryz.underlying0
  a0 := Go.Proofs.Tryz.isAgg0
  z0 := Go.Proofs.Tryz.sizeOf0
  v0 := Go.Proofs.Tryz.zeroValue0
  t3 := Go.Proofs.Tryz.underlying3
  a3 := Go.Proofs.Tryz.isAgg3
  z3 := Go.Proofs.Tryz.sizeOf3
  v3 := Go.Proofs.Tryz.zeroValue3
  t4 := Go.Proofs.Tryz.underlying4
  a4 := Go.Proofs.Tryz.isAgg4
  z4 := Go.Proofs.Tryz.sizeOf4
  v4 := Go.Proofs.Tryz.zeroValue4
  t9 := Go.Proofs.Tryz.underlying9
  a9 := Go.Proofs.Tryz.isAgg9
  z9 := Go.Proofs.Tryz.sizeOf9
  v9 := Go.Proofs.Tryz.zeroValue9
  t20 := Go.Proofs.Tryz.underlying20
  a20 := Go.Proofs.Tryz.isAgg20
  z20 := Go.Proofs.Tryz.sizeOf20
  v20 := Go.Proofs.Tryz.zeroValue20
  t22 := Go.Proofs.Tryz.underlying46
  a22 := Go.Proofs.Tryz.isAgg46
  z22 := Go.Proofs.Tryz.sizeOf46
  v22 := Go.Proofs.Tryz.zeroValue46
theorem e96 (G : Nat → Option Value) (n : Nat) (hn : n < 2 ^ 40) : ACalls pg G 84 [.lit (.slice none 0 0), li n] (.own 1 0 []) := by
  intro w args A ow hsz hA how hG hpre
  have h0 := hpre 0 _ rfl
  have h1 := hpre 1 _ rfl
  simp only [R] at h0 h1
  have e : args = #[.slice none 0 0, .int .i64 n] := by
    apply Array.ext
    · simpa using hsz
    · intro i hi hi2
      simp at hi2
      match i, hi2 with
      | 0, _ => simpa [Array.getD, hi] using h0
      | 1, _ => simpa [Array.getD, hi] using h1
  rw [e]
  by_cases hz : n = 0
  · subst hz
    refine (Any8.slices_Grow_room f7w none 0 0 0 w (by omega) (by omega) (by omega) (by omega)).mono fun ex w' ⟨he, hw⟩ => ?_
    subst hw
    refine ⟨_, he, ⟨Nat.le_refl _, rfl, rfl, rfl, fun _ _ _ => rfl, noB, fun b hb => hb.elim, ?_⟩⟩
    simp only [R]
    exact .inl ⟨trivial, by simp [RL], none, rfl⟩
  · obtain ⟨i0, hi0, z, hz0, hs0, hb0, hz1⟩ : ∃ i0, pg.info? 3 = some i0 ∧ ∃ z, i0.zero = some z ∧ i0.size = 1 ∧ i0.bytes = 8 ∧ z.cells.size = 1 := by
      have h : ((pg.info? 3).bind fun i => i.zero.map fun z => (i.size, i.bytes, z.cells.size)) = some (1, 8, 1) := by kernel_rfl
      cases hi : pg.info? 3 with
      | none => rw [hi] at h; cases h
      | some i =>
        rw [hi] at h
        cases hz : i.zero with
        | none => simp [hz] at h
        | some z =>
          simp only [Option.bind, hz, Option.map, Option.some.injEq, Prod.mk.injEq] at h
          exact ⟨i, rfl, z, hz, h.1, h.2.1, h.2.2⟩
    refine (Any8.slices_Grow_grow f7w i0 z hi0 hz0 (by omega) none 0 0 n [] w (by omega) (by omega) (by rw [hb0]; omega) (by omega) (by simp) (fun _ => rfl) (fun a h => by cases h)).mono fun ex w' ⟨he, hw⟩ => ?_
    have hge := grownCap_ge w (0 + n) 0 (c1t.t 25)
    have hle : grownCap w (0 + n) 0 (c1t.t 25) ≤ maxLen := grownCap_le_maxLen w (0 + n) 0 (c1t.t 25) (by simp only [maxLen]; omega)
    generalize hc : grownCap w (0 + n) 0 (c1t.t 25) = c at *
    generalize hcur : ([].toArray ++ Builtin.zeroCells z.cells (0 + n - 0) ++ Builtin.zeroCells z.cells (c - (0 + n)) : Array Value) = cur at *
    have hcs : cur.size = c * 1 := by
      rw [← hcur]
      simp only [Array.size_append, size_zeroCells, hz1]
      simp
      omega
    have hh : w'.heap = w.heap.push (.cells cur (c1t.t 25)) := by rw [hw]; rfl
    refine ⟨_, he, ⟨by rw [hh, Array.size_push]; omega, by rw [hw]; rfl, by rw [hw]; rfl, by rw [hw]; rfl, fun b hb _ => by rw [hh, Array.getElem?_push_lt hb]; simp [hb], fun b => b = w.heap.size, fun b hb => ⟨.inr (by omega), by rw [hh, Array.size_push]; omega⟩, ?_⟩⟩
    simp only [R]
    refine .inr ⟨w.heap.size, c, cur, _, (0, 0), rfl, rfl, by rw [hh, Array.getElem?_push_size], .inl rfl, Nat.zero_le _, hle, hcs, by simp [C1], by simp [RL]⟩
end Go.Ideal.Tryz
end
section
set_option linter.unusedVariables false
set_option linter.unusedSimpArgs false
set_option maxRecDepth 10000
namespace Go.Ideal.Tryz
abbrev slR (xs : List (List Int)) : AV := .sl xs.length (xs.map slI)
section
variable {G : Nat → Option Value} {bk : Nat → Nat × Nat} {Q : Exit → St → Prop} {st : St}
def a4q (xs : List (List Int)) : Nat := (xs.map (·.length)).sum
theorem e5e {xs : List (List Int)} (hn : xs.length < 2 ^ 20) (hl : a4q xs < 2 ^ 39) (h : st.s 0 = slR xs ∧ st.s 2 = .own 1 0 [] ∧ st.s 3 = li (0 : Nat) ∧ st.s 9 = slR xs ∧ st.s 10 = li xs.length ∧ st.s 11 = li 0)
    (hex : ∀ s, s.s 0 = slR xs ∧ s.s 2 = .own 1 0 [] ∧ s.s 3 = li (a4q xs) → Q (.exit 0) s) : AW pg G 36 (.loop a2c) Q st := by
  refine a0u (Nat × Nat) (fun p st => p.1 ≤ xs.length ∧ p.2 + a4q (xs.drop p.1) = a4q xs ∧ st.s 0 = slR xs ∧ st.s 2 = .own 1 0 [] ∧ st.s 3 = li p.2 ∧ st.s 9 = slR xs ∧ st.s 10 = li xs.length ∧ st.s 11 = li p.1) (fun p => xs.length - p.1) (0, 0) ⟨by simp, by simp, h⟩ ?_
  clear h
  rintro ⟨j, n⟩ st K ⟨hj, hm, h⟩ hK
  simp only at hj hm h
  by_cases hlt : j < xs.length
  · rw [List.drop_eq_getElem_cons hlt] at hm
    have hs : a4q (xs[j] :: xs.drop (j + 1)) = xs[j].length + a4q (xs.drop (j + 1)) := by simp only [a4q, List.map_cons, List.sum_cons]
    rw [hs] at hm
    have hnn : ¬ ((n : Int) + (xs[j].length : Int) < 0) := by omega
    simp (disch := omega) [go_sem, a2c, h, hlt, hnn]
    exact hK (j + 1, n + xs[j].length) _ ⟨by simp only; omega, by simp only; omega, by simp (disch := omega) [go_sem, h]⟩ (by simp only; omega)
  · obtain rfl : j = xs.length := by omega
    rw [List.drop_length] at hm
    have : n = a4q xs := by simpa [a4q] using hm
    simp (disch := omega) [go_sem, a2c, h]
    exact hex _ (by simp (disch := omega) [go_sem, h, ← this])
theorem e3q {xs : List (List Int)} (hn : xs.length < 2 ^ 20) (hl : a4q xs < 2 ^ 39) (h : st.s 0 = slR xs ∧ st.s 2 = .own 1 0 [] ∧ st.s 6 = owI [] ∧ st.s 25 = slR xs ∧ st.s 26 = li xs.length ∧ st.s 27 = li 0)
    (hex : ∀ s, s.s 2 = .own 1 0 [] ∧ s.s 6 = owI xs.flatten → Q (.exit 2) s) : AW pg G 36 (.loop a2b) Q st := by
  refine a0u (Nat × List Int) (fun p st => p.1 ≤ xs.length ∧ p.2 ++ (xs.drop p.1).flatten = xs.flatten ∧ p.2.length + a4q (xs.drop p.1) = a4q xs ∧ st.s 0 = slR xs ∧ st.s 2 = .own 1 0 [] ∧ st.s 6 = owI p.2 ∧ st.s 25 = slR xs ∧ st.s 26 = li xs.length ∧ st.s 27 = li p.1) (fun p => xs.length - p.1) (0, []) ⟨by simp, by simp, by simp, h⟩ ?_
  clear h
  rintro ⟨j, ys⟩ st K ⟨hj, hm, hlen, h⟩ hK
  simp only at hj hm hlen h
  by_cases hlt : j < xs.length
  · rw [List.drop_eq_getElem_cons hlt] at hm hlen
    have hs : a4q (xs[j] :: xs.drop (j + 1)) = xs[j].length + a4q (xs.drop (j + 1)) := by simp only [a4q, List.map_cons, List.sum_cons]
    rw [hs] at hlen
    rw [List.flatten_cons, ← List.append_assoc] at hm
    simp (disch := omega) [go_sem, a2b, h, hlt]
    exact hK (j + 1, ys ++ xs[j]) _ ⟨by simp only; omega, hm, by simp only [List.length_append]; omega, by simp (disch := omega) [go_sem, h]⟩ (by simp only; omega)
  · obtain rfl : j = xs.length := by omega
    rw [List.drop_length] at hm
    have : ys = xs.flatten := by simpa using hm
    simp (disch := omega) [go_sem, a2b, h]
    exact hex _ (by simp (disch := omega) [go_sem, h, ← this])
theorem e36 (xs : List (List Int)) (hn : xs.length < 2 ^ 20) (hl : a4q xs < 2 ^ 39) : ACalls pg G b7a [slR xs] (owI xs.flatten) := by
  refine b13 rfl ?_
  obtain ⟨ys, hys⟩ : ∃ ys, ys = xs.flatten := ⟨_, rfl⟩
  rw [← hys]
  simp (disch := omega) [go_sem, a6n]
  refine e5e hn hl (by simp (disch := omega) [go_sem]) fun s h => ?_
  simp (disch := omega) [go_sem, h]
  refine a0g (e96 G (a4q xs) (by omega)) rfl rfl ?_
  simp (disch := omega) [go_sem, h]
  refine e3q hn hl (by simp (disch := omega) [go_sem, h]) fun s h => ?_
  rw [← hys] at h
  simp (disch := omega) [go_sem, h]
end
end Go.Ideal.Tryz
end
