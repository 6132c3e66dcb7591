/- Part Po of the proof: a machine with trees for values, its soundness, and walks on it. -/
import Derived.Test.YtfdhkijgolgnfaaDoorPn
import Derived.Test.YtfdhkijgolgnfaaDoorPb
import Derived.Test.YtfdhkijgolgnfaaDoorPj

section
set_option linter.unusedVariables false
set_option linter.unusedSimpArgs false
set_option maxRecDepth 10000
namespace Go.Ideal.Tryd
deriving instance DecidableEq for Nd
deriving instance DecidableEq for Gr
section
variable {G : Nat → Option Value} {bk : Nat → Nat × Nat} {Q : Exit → St → Prop} {st : St}
theorem is37 (hS : Sent G bk) {e : Er} (he : e.ok) (k : Int) : ACalls pg G F_lodgesee_Is [encE bk e, li k] (lb (decide (e.flt = (k, false, 0)))) := by
  refine lodgesee_Is_call rfl ?_
  simp (disch := omega) [go_sem, lodgesee_Is_c]
  refine cal_pure (bare57 k) rfl rfl ?_
  simp (disch := omega) [go_sem]
  refine cal_same (same18 hS he (k, false, 0)) rfl (by simp (disch := omega) [go_sem]) ?_
  simp (disch := omega) [go_sem]
end
end Go.Ideal.Tryd
end

section
set_option linter.unusedVariables false
set_option linter.unusedSimpArgs false
set_option maxRecDepth 10000
namespace Go.Ideal
section
variable {k : IntKind} {a b : Int}
theorem bl_rem' (h : b ≠ 0) : binLit .rem (.int k a) (.int k b) = some (.int k (a.tmod b)) := by simp [binLit, Op.intDiv, h]; rfl
@[go_sem] theorem ba_rem (h : b ≠ 0) : binAV .rem 0 (.lit (.int k a)) (.lit (.int k b)) = some (.lit (.int k (a.tmod b))) := ba_arith (bl_rem' h) rfl
theorem bl_quo' (h : b ≠ 0) : binLit .quo (.int k a) (.int k b) = some (.int k (k.wrap (a.tdiv b))) := by simp [binLit, Op.intDiv, h]; rfl
@[go_sem] theorem ba_quo (h : b ≠ 0) : binAV .quo 0 (.lit (.int k a)) (.lit (.int k b)) = some (.lit (.int k (k.wrap (a.tdiv b)))) := ba_arith (bl_quo' h) rfl
end
namespace Tryd
section
variable {G : Nat → Option Value} {bk : Nat → Nat × Nat} {Q : Exit → St → Prop} {st : St}
def numb (n m : Int) : Int := ((n.tmod m) + m).tmod m
theorem numb_rng {n m : Int} (h : 0 < m) : 0 ≤ numb n m ∧ numb n m < m := by
  have h1 := Int.lt_tmod_of_pos n h
  unfold numb
  exact ⟨Int.tmod_nonneg _ (by omega), Int.tmod_lt_of_pos _ h⟩
theorem number19 (n m : Int) (h : 0 < m) (h2 : m < 2 ^ 62) : ACalls pg G F_lodgeworld_Number [li n, li m] (li (numb n m)) := by
  refine lodgeworld_Number_call rfl ?_
  have h1 := Int.lt_tmod_of_pos n h
  have h3 := Int.tmod_lt_of_pos n h
  simp (disch := omega) [go_sem, lodgeworld_Number_c, numb]
/-! ### numbers in a row -/
end
end Tryd
end Go.Ideal
end

section
set_option linter.unusedVariables false
set_option linter.unusedSimpArgs false
set_option maxRecDepth 10000
namespace Go.Ideal.Tryd
/-! ### GraphBounds -/
theorem byteL_le2 (k : Int) : byteL (le2 k) := by
  intro x hx
  simp only [le2, List.mem_cons, List.not_mem_nil, or_false] at hx
  rcases hx with rfl | rfl <;> simp only [u8_eq] <;> omega
theorem byteL_put1 (w : Bool) (k : Int) : byteL (put1 w k) := by
  intro x hx
  unfold put1 at hx
  split at hx
  · simp only [List.mem_cons, List.not_mem_nil, or_false] at hx
    rcases hx with rfl | rfl | rfl | rfl <;> simp only [u8_eq] <;> omega
  · simp only [List.mem_cons, List.not_mem_nil, or_false] at hx
    rw [hx, u8_eq]; omega
theorem byteL_app {a b : List Int} (ha : byteL a) (hb : byteL b) : byteL (a ++ b) := fun x hx => (List.mem_append.1 hx).elim (ha x) (hb x)
theorem byteL_flat {α : Type} {f : α → List Int} {l : List α} (h : ∀ x ∈ l, byteL (f x)) : byteL (l.flatMap f) := fun x hx => by
  obtain ⟨y, hy, hx⟩ := List.mem_flatMap.1 hx
  exact h y hy x hx
theorem byteL_u8 (k : Int) : byteL [u8 k] := fun x hx => by
  simp only [List.mem_singleton] at hx
  rw [hx, u8_eq]; omega
theorem byteL_tBytes (sh : List Int) (w : Bool) (d : List Int) : byteL (tBytes sh w d) := by
  unfold tBytes dBytes rawB
  exact byteL_app (byteL_app (a := [_]) (byteL_u8 _) (byteL_flat fun k _ => byteL_le2 k)) (byteL_flat fun k _ => byteL_put1 w k)
theorem frz_lits (m : Nat) : frzL (List.replicate m (AV.lit (Value.int IntKind.i64 0))) = (List.replicate m (0 : Int)).map li := by
  induction m with
  | zero => rfl
  | succ m ih => simp only [List.replicate_succ, frzL, ih, List.map_cons, frz]
section
variable {G : Nat → Option Value} {bk : Nat → Nat × Nat} {Q : Exit → St → Prop} {st : St}
end
end Go.Ideal.Tryd
end
