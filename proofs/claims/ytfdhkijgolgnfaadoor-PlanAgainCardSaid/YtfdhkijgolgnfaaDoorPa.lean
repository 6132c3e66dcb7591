/- Part Pa of the proof: a machine with trees for values, its soundness, and walks on it. -/
import Derived.Test.YtfdhkijgolgnfaaDoorNx
import Derived.Test.YtfdhkijgolgnfaaDoorProg
section
set_option linter.unusedVariables false
set_option maxRecDepth 10000
namespace Go.Ideal.Tryd
noncomputable abbrev pg : Program := Go.Proofs.Tryd.prog
end Go.Ideal.Tryd
end
section
set_option linter.unusedVariables false
set_option linter.unusedSimpArgs false
set_option maxRecDepth 10000
namespace Go.Ideal.Tryd
abbrev li (n : Int) : AV := .lit (.int .i64 n)
abbrev lb (b : Bool) : AV := .lit (.bool b)
abbrev f8q (k : Int) (p : Bool) (n : Int) : AV := .agg [li k, lb p, li n]
end Go.Ideal.Tryd
end
section
set_option linter.unusedVariables false
set_option linter.unusedSimpArgs false
set_option maxRecDepth 10000
namespace Go.Ideal.Tryd
@[go_sem] abbrev e6y : Nat := 231
@[go_sem] abbrev g40 : Nat := 92
structure Sent (G : Nat → Option Value) (bk : Nat → Nat × Nat) : Prop where
  val : ∀ g, g < 21 → G g = some (.iface e6y (.pointer (some ⟨(bk g).1, (bk g).2, none⟩)))
  blk : ∀ g, g < 21 → (G (bk g).1).isSome = true
  inj : ∀ g h, g < 21 → h < 21 → bk g = bk h → g = h
structure Sent5 (G : Nat → Option Value) (bk : Nat → Nat × Nat) : Prop where
  val : ∀ g, 2 ≤ g ∧ g ≤ 6 → G g = some (.iface e6y (.pointer (some ⟨(bk g).1, (bk g).2, none⟩)))
  blk : ∀ g, 2 ≤ g ∧ g ≤ 6 → (G (bk g).1).isSome = true
  inj : ∀ g h, 2 ≤ g ∧ g ≤ 6 → 2 ≤ h ∧ h ≤ 6 → bk g = bk h → g = h
theorem Sent.five {G : Nat → Option Value} {bk : Nat → Nat × Nat} (h : Sent G bk) : Sent5 G bk :=
  ⟨fun g hg => h.val g (by omega), fun g hg => h.blk g (by omega), fun g k hg hk => h.inj g k (by omega) (by omega)⟩
instance {G : Nat → Option Value} {bk : Nat → Nat × Nat} : Coe (Sent G bk) (Sent5 G bk) := ⟨Sent.five⟩
structure Sent3 (G : Nat → Option Value) (bk : Nat → Nat × Nat) : Prop where
  val : ∀ g, g = 2 ∨ g = 3 ∨ g = 6 → G g = some (.iface e6y (.pointer (some ⟨(bk g).1, (bk g).2, none⟩)))
theorem Sent5.three {G : Nat → Option Value} {bk : Nat → Nat × Nat} (h : Sent5 G bk) : Sent3 G bk := ⟨fun g hg => h.val g (by omega)⟩
instance {G : Nat → Option Value} {bk : Nat → Nat × Nat} : Coe (Sent5 G bk) (Sent3 G bk) := ⟨Sent5.three⟩
@[go_sem] abbrev sv (bk : Nat → Nat × Nat) (g : Nat) : AV := .lit (.iface e6y (.pointer (some ⟨(bk g).1, (bk g).2, none⟩)))
end Go.Ideal.Tryd
end
section
set_option linter.unusedVariables false
set_option linter.unusedSimpArgs false
set_option maxRecDepth 10000
namespace Go.Ideal.Tryd
abbrev slB (xs : List Bool) : AV := .sl xs.length (xs.map lb)
abbrev slI (xs : List Int) : AV := .sl xs.length (xs.map li)
abbrev owI (xs : List Int) : AV := .own 1 xs.length (xs.map li)
abbrev owB (xs : List Bool) : AV := .own 1 xs.length (xs.map lb)
abbrev g4o (xs : List (List Int)) : AV := .sl xs.length (xs.map slI)
abbrev g4q (xs : List (List Int)) : AV := .own 1 xs.length (xs.map owI)
attribute [go_sem] slB slI owI owB g4o g4q
@[go_sem] theorem b4j (xs : List Int) : a08 (xs.map li) = true := b0v fun x => by simp only [a0r]
@[go_sem] theorem e5s (xs : List Bool) : a08 (xs.map lb) = true := b0v fun x => by simp only [a0r]
@[go_sem] theorem e6z (xs : List Int) : a0i (xs.map li) = true := b5o fun x => by simp only [a0j]
@[go_sem] theorem e8a (xs : List Bool) : a0i (xs.map lb) = true := b5o fun x => by simp only [a0j]
end Go.Ideal.Tryd
end
