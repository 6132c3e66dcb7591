/- Part Pn of the proof: a machine with trees for values, its soundness, and walks on it. -/
import Derived.Test.YtfdhkijgolgnfaaDoorPm
import Derived.Test.YtfdhkijgolgnfaaDoorPi
section
set_option linter.unusedVariables false
set_option linter.unusedSimpArgs false
set_option maxRecDepth 10000
namespace Go.Ideal.Tryd
theorem d6k {b : List Int} {p q : UInt8} {s : Rs} (h : s.at_ ≤ b.length) : (a33 b p q s).at_ ≤ b.length := by
  unfold a33
  split
  · exact h
  · simp only; omega
theorem b6w {rd : Rs → Int × Rs} {b : List Int} (h : ∀ s, s.at_ ≤ b.length → (rd s).2.at_ ≤ b.length) (s : Rs) (ha : s.at_ ≤ b.length) : (b7b b rd s).2.at_ ≤ b.length := b7s h _ _ _ (d0i (fun s h => a3l s h) s ha)
section
variable {G : Nat → Option Value} {bk : Nat → Nat × Nat} {Q : Exit → St → Prop} {st : St} {b : List Int}
end
end Go.Ideal.Tryd
end
section
set_option linter.unusedVariables false
set_option linter.unusedSimpArgs false
namespace Go.Ideal.Tryd
section
variable {α β : Type}
structure Fmt (rd : List Int → Rs → α × Rs) (ok : α → Prop) (enc : α → List Int) : Prop where
  keep : ∀ b s, s.err.isNil = false → (rd b s).2 = s
  comp : ∀ b a v r, ok v → b.drop a = enc v ++ r → rd b ⟨a, .nil⟩ = (v, ⟨a + (enc v).length, .nil⟩)
  short : ∀ b a v r, ok v → a ≤ b.length → r ≠ [] → b.drop a ++ r = enc v → (rd b ⟨a, .nil⟩).2.err = .s 4
  sound : ∀ b a, a2l b → a ≤ b.length → (rd b ⟨a, .nil⟩).2.err = .nil → ok (rd b ⟨a, .nil⟩).1 ∧ b.drop a = enc (rd b ⟨a, .nil⟩).1 ++ b.drop (rd b ⟨a, .nil⟩).2.at_ ∧ (rd b ⟨a, .nil⟩).2.at_ ≤ b.length
theorem c4l {b e r : List Int} {a : Nat} (h : b.drop a = e ++ r) : b.drop (a + e.length) = r := by
  rw [← List.drop_drop, h, List.drop_left]
theorem a60 {s : Rs} (h : s.err = .s 4) : s.err.isNil = false := by rw [h]; rfl
theorem Fmt.of {rd rd' : List Int → Rs → α × Rs} {ok ok' : α → Prop} {enc enc' : α → List Int} (F : Fmt rd ok enc) (hk : ∀ b s, s.err.isNil = false → (rd' b s).2 = s) (hr : ∀ b a, rd' b ⟨a, .nil⟩ = rd b ⟨a, .nil⟩) (hok : ∀ v, ok v ↔ ok' v) (henc : ∀ v, ok' v → enc v = enc' v) : Fmt rd' ok' enc' where
  keep := hk
  comp := fun b a v r h1 h2 => by
    rw [hr, ← henc v h1]
    exact F.comp b a v r ((hok v).2 h1) (by rw [henc v h1]; exact h2)
  short := fun b a v r h1 h2 h3 h4 => by
    rw [hr]
    exact F.short b a v r ((hok v).2 h1) h2 h3 (by rw [henc v h1]; exact h4)
  sound := fun b a h1 h2 h3 => by
    rw [hr] at h3 ⊢
    obtain ⟨g1, g2, g3⟩ := F.sound b a h1 h2 h3
    have g1' := (hok _).1 g1
    exact ⟨g1', by rw [← henc _ g1']; exact g2, g3⟩
theorem Fmt.map {rd : List Int → Rs → α × Rs} {ok : α → Prop} {enc : α → List Int} (F : Fmt rd ok enc) (f : α → β) (g : β → α) (h : ∀ v, ok v → g (f v) = v) : Fmt (fun b s => (f (rd b s).1, (rd b s).2)) (fun w => ok (g w) ∧ f (g w) = w) (fun w => enc (g w)) where
  keep := fun b s hs => F.keep b s hs
  comp := fun b a v r h1 h2 => by
    rw [F.comp b a (g v) r h1.1 h2, h1.2]
  short := fun b a v r h1 h2 h3 h4 => F.short b a (g v) r h1.1 h2 h3 h4
  sound := fun b a h1 h2 h3 => by
    simp only at h3 ⊢
    obtain ⟨g1, g2, g3⟩ := F.sound b a h1 h2 h3
    rw [h _ g1]
    exact ⟨⟨g1, rfl⟩, g2, g3⟩
theorem Fmt.pair {rd : List Int → Rs → α × Rs} {ok : α → Prop} {enc : α → List Int} {rd2 : α → List Int → Rs → β × Rs} {ok2 : α → β → Prop} {enc2 : α → β → List Int} (F : Fmt rd ok enc) (hk : ∀ v b s, s.err.isNil = false → (rd2 v b s).2 = s) (F2 : ∀ v, ok v → Fmt (rd2 v) (ok2 v) (enc2 v)) :
    Fmt (fun b s => (((rd b s).1, (rd2 (rd b s).1 b (rd b s).2).1), (rd2 (rd b s).1 b (rd b s).2).2)) (fun p => ok p.1 ∧ ok2 p.1 p.2) (fun p => enc p.1 ++ enc2 p.1 p.2) where
  keep := fun b s hs => by
    simp only
    rw [F.keep b s hs, hk _ b s hs]
  comp := fun b a v r h1 h2 => by
    obtain ⟨v1, v2⟩ := v
    simp only at h1 h2 ⊢
    rw [List.append_assoc] at h2
    rw [F.comp b a v1 _ h1.1 h2]
    simp only
    rw [(F2 v1 h1.1).comp b _ v2 r h1.2 (c4l h2)]
    simp [Nat.add_assoc]
  short := fun b a v r h1 h2 h3 h4 => by
    obtain ⟨v1, v2⟩ := v
    simp only at h1 h4 ⊢
    rcases List.append_eq_append_iff.1 h4 with ⟨c, hc1, hc2⟩ | ⟨c, hc1, hc2⟩
    · -- the first part is cut
      cases c with
      | nil =>
        have e : b.drop a = enc v1 ++ [] := by simpa using hc1.symm
        rw [F.comp b a v1 [] h1.1 e]
        simp only
        have h5 := c4l e
        have h6 := congrArg List.length e
        rw [List.length_drop] at h6
        simp only [List.append_nil] at h6
        exact (F2 v1 h1.1).short b _ v2 r h1.2 (by omega) h3 (by rw [h5]; simpa using hc2)
      | cons x c =>
        have := F.short b a v1 (x :: c) h1.1 h2 (by simp) hc1.symm
        rw [hk _ b _ (a60 this), this]
    · have h6 := congrArg List.length hc1
      rw [List.length_drop, List.length_append] at h6
      rw [F.comp b a v1 c h1.1 hc1]
      simp only
      exact (F2 v1 h1.1).short b _ v2 r h1.2 (by omega) h3 (by rw [c4l hc1]; exact hc2.symm)
  sound := fun b a h1 h2 h3 => by
    simp only at h3 ⊢
    cases he : (rd b ⟨a, .nil⟩).2.err.isNil with
    | false =>
      rw [hk _ b _ he] at h3
      rw [h3] at he
      cases he
    | true =>
      have he := a2m.1 he
      obtain ⟨g1, g2, g3⟩ := F.sound b a h1 h2 he
      have e : (rd b ⟨a, .nil⟩).2 = ⟨(rd b ⟨a, .nil⟩).2.at_, .nil⟩ := by
        cases hh : (rd b ⟨a, .nil⟩).2
        rw [hh] at he
        simp only at he
        rw [he]
      rw [e] at h3 ⊢
      obtain ⟨k1, k2, k3⟩ := (F2 _ g1).sound b _ h1 g3 h3
      exact ⟨⟨g1, k1⟩, by rw [List.append_assoc, ← k2, ← g2], k3⟩
theorem a3d : Fmt a1m (fun x => 0 ≤ x ∧ x ≤ 255) (fun x => [x]) where
  keep := fun b s h => by unfold a1m; simp [h]
  comp := fun b a v r h1 h2 => by
    have hl := congrArg List.length h2
    simp at hl
    have hlt : a < b.length := by omega
    rw [List.drop_eq_getElem_cons hlt] at h2
    simp only [List.cons_append, List.nil_append, List.cons.injEq] at h2
    unfold a1m
    simp [Er.isNil, hlt, h2.1]
  short := fun b a v r h1 h2 h3 h4 => by
    have hl := congrArg List.length h4
    have := List.length_pos_iff.2 h3
    simp only [List.length_append, List.length_drop, List.length_cons, List.length_nil] at hl
    have hlt : ¬ a < b.length := by omega
    unfold a1m
    simp [Er.isNil, hlt]
  sound := fun b a h1 h2 h3 => by
    unfold a1m at h3 ⊢
    simp only [Er.isNil, if_true] at h3 ⊢
    split at h3
    · rename_i hlt
      simp only [hlt, if_true]
      have := h1 _ (List.getElem_mem hlt)
      have e : b[a]! = b[a] := by simp [hlt]
      rw [e]
      exact ⟨this, List.drop_eq_getElem_cons hlt, by omega⟩
    · cases h3
theorem a5d : Fmt a0m (fun x => 0 ≤ x ∧ x ≤ 65535) le2 :=
  ((a3d.pair (rd2 := fun _ => a1m) (ok2 := fun _ x => 0 ≤ x ∧ x ≤ 255) (enc2 := fun _ x => [x]) (fun _ => a3d.keep) fun _ _ => a3d).map (fun p => p.1 + p.2 * 256) (fun k => (k % 256, k / 256)) fun p h => by
    obtain ⟨x, y⟩ := p
    simp only at h ⊢
    rw [Prod.mk.injEq]
    omega).of (fun b s h => by unfold a0m; simp only; rw [a3d.keep b s h, a3d.keep b s h]) (fun b a => rfl) (fun v => by simp only; omega) fun v h => by
      have e : v.fdiv 256 = v / 256 := Int.fdiv_eq_ediv_of_nonneg v (by omega)
      have e1 : u8 v = v % 256 := rfl
      have e2 : u8 (v / 256) = v / 256 := by
        have : u8 (v / 256) = (v / 256) % 256 := rfl
        omega
      simp only [le2, e, e1, e2]
      rfl
theorem a6z : Fmt a01 (fun x => -2147483648 ≤ x ∧ x ≤ 2147483647) (a4q true) :=
  ((a5d.pair (rd2 := fun _ => a0m) (ok2 := fun _ x => 0 ≤ x ∧ x ≤ 65535) (enc2 := fun _ x => le2 x) (fun _ => a5d.keep) fun _ _ => a5d).map (fun p => s32 (p.1 + p.2 * 65536)) (fun k => (k % 65536, k / 65536 % 65536)) fun p h => by
    obtain ⟨x, y⟩ := p
    simp only at h ⊢
    rw [Prod.mk.injEq]
    unfold s32
    split <;> omega).of (fun b s h => by unfold a01; simp only; rw [a5d.keep b s h, a5d.keep b s h]) (fun b a => rfl) (fun v => by simp only [s32]; split <;> omega) fun v h => by
      have w8 : ∀ n : Int, u8 n = n % 256 := fun n => rfl
      have e1 : v.fdiv 256 = v / 256 := Int.fdiv_eq_ediv_of_nonneg v (by omega)
      have e2 : v.fdiv 65536 = v / 65536 := Int.fdiv_eq_ediv_of_nonneg v (by omega)
      have e3 : v.fdiv 16777216 = v / 16777216 := Int.fdiv_eq_ediv_of_nonneg v (by omega)
      have e4 : (v % 65536).fdiv 256 = (v % 65536) / 256 := Int.fdiv_eq_ediv_of_nonneg _ (by omega)
      have e5 : (v / 65536 % 65536).fdiv 256 = (v / 65536 % 65536) / 256 := Int.fdiv_eq_ediv_of_nonneg _ (by omega)
      simp only [le2, a4q, if_true, e1, e2, e3, e4, e5, w8, List.cons_append, List.nil_append, List.cons.injEq, and_true]
      omega
theorem b6o {s : Rs} {p : Int} {e : Er} (h : s.err.isNil = true) (he : e.isNil = false) : (b3f s p e).err ≠ .nil := by
  unfold b3f
  rw [if_pos h]
  simp
theorem Fmt.few {rd : List Int → Rs → Int × Rs} {ok : Int → Prop} {enc : Int → List Int} (F : Fmt rd ok enc) (most : Int) : Fmt (fun b s => a4w most (rd b) s) (fun v => ok v ∧ v ≤ most) enc where
  keep := fun b s h => by
    have := F.keep b s h
    unfold a4w
    rw [this, h]
    rfl
  comp := fun b a v r h1 h2 => by
    unfold a4w
    simp only [F.comp b a v r h1.1 h2, Er.isNil, if_true, show ¬ most < v by omega, if_false]
  short := fun b a v r h1 h2 h3 h4 => by
    have := F.short b a v r h1.1 h2 h3 h4
    unfold a4w
    rw [if_neg (by rw [a60 this]; simp)]
    exact this
  sound := fun b a h1 h2 h3 => by
    unfold a4w at h3 ⊢
    cases he : (rd b ⟨a, .nil⟩).2.err.isNil with
    | false =>
      rw [he] at h3
      simp only [Bool.false_eq_true, if_false] at h3
      rw [h3] at he
      cases he
    | true =>
      rw [he] at h3
      by_cases hm : most < (rd b ⟨a, .nil⟩).1
      · simp only [hm, if_true] at h3
        exact absurd h3 (b6o he rfl)
      · simp only [hm, if_true, if_false]
        obtain ⟨g1, g2, g3⟩ := F.sound b a h1 h2 (a2m.1 he)
        exact ⟨⟨g1, by omega⟩, g2, g3⟩
def a6p (rd : Nat → List Int → Rs → α × Rs) (b : List Int) : Nat → Nat → List α → Rs → List α × Rs
  | 0, _, l, s => (l, s)
  | n + 1, i, l, s => if s.err.isNil = true then a6p rd b n (i + 1) (l ++ [(rd i b s).1]) (rd i b s).2 else (l, s)
theorem b64 {rd : Nat → List Int → Rs → α × Rs} {b : List Int} : ∀ (n i : Nat) (l : List α) (s : Rs), a6p rd b n i l s = (l ++ (a6p rd b n i [] s).1, (a6p rd b n i [] s).2)
  | 0, i, l, s => by simp [a6p]
  | n + 1, i, l, s => by
    rw [a6p, a6p]
    split
    · rw [b64 n (i + 1) (l ++ _), b64 n (i + 1) ([] ++ _)]
      simp
    · simp
theorem a3y {rd : List Int → Rs → Int × Rs} {b : List Int} : ∀ (n i : Nat) (l : List Int) (s : Rs), a1y (rd b) n l s = a6p (fun _ => rd) b n i l s
  | 0, i, l, s => rfl
  | n + 1, i, l, s => by
    rw [a1y, a6p, a3y n (i + 1)]
theorem a3g {rd : Nat → List Int → Rs → α × Rs} {b : List Int} {s : Rs} (h : s.err.isNil = false) : ∀ (n i : Nat) (l : List α), a6p rd b n i l s = (l, s)
  | 0, _, _ => rfl
  | n + 1, i, l => by rw [a6p, h]; rfl
theorem Fmt.loop [Inhabited α] {rd : Nat → List Int → Rs → α × Rs} {ok : α → Prop} {enc : α → List Int} (F : ∀ i, Fmt (rd i) ok enc) : ∀ n i : Nat, Fmt (fun b s => a6p rd b n i [] s) (fun l => l.length = n ∧ ∀ x ∈ l, ok x) (·.flatMap enc)
  | 0, i =>
    { keep := fun b s h => rfl
      comp := fun b a v r h1 h2 => by
        obtain rfl := List.length_eq_zero_iff.1 h1.1
        simp [a6p]
      short := fun b a v r h1 h2 h3 h4 => by
        obtain rfl := List.length_eq_zero_iff.1 h1.1
        exact absurd (List.append_eq_nil_iff.1 h4).2 h3
      sound := fun b a h1 h2 h3 => ⟨by simp [a6p], by simp [a6p], h2⟩ }
  | n + 1, i => by
    refine (((F i).pair (rd2 := fun _ b s => a6p rd b n (i + 1) [] s) (fun _ b s h => by rw [a3g h]) fun _ _ => Fmt.loop F n (i + 1)).map (fun p => p.1 :: p.2) (fun l => (l.headD default, l.tail)) fun p h => rfl).of (fun b s h => by rw [a3g h]) (fun b a => ?_) (fun v => ?_) fun v h => ?_
    · simp only [a6p, Er.isNil, if_true]
      rw [b64]
      rfl
    · cases v with
      | nil => simp
      | cons x v => simp only [List.headD_cons, List.tail_cons, List.length_cons, List.mem_cons, forall_eq_or_imp, and_true]; exact ⟨fun h => ⟨by omega, h.1, h.2.2⟩, fun h => ⟨h.2.1, by omega, h.2.2⟩⟩
    · cases v with
      | nil => simp at h
      | cons x v => rfl
end
theorem Fmt.nums {rd : List Int → Rs → Int × Rs} {ok : Int → Prop} {enc : Int → List Int} (F : Fmt rd ok enc) : Fmt (fun b s => b7b b (rd b) s) (fun l => l.length ≤ 8 ∧ ∀ x ∈ l, ok x) (fun l => u8 l.length :: l.flatMap enc) := by
  have fb := a3d.few 8
  refine ((fb.pair (rd2 := fun m b s => a6p (fun _ => rd) b m.toNat 0 [] s) (ok2 := fun m l => l.length = m.toNat ∧ ∀ x ∈ l, ok x) (enc2 := fun _ l => l.flatMap enc) (fun m b s h => by rw [a3g h]) fun m _ => Fmt.loop (fun _ => F) m.toNat 0).map (fun p => p.2) (fun l => ((l.length : Int), l)) fun p h => ?_).of (fun b s h => ?_) (fun b a => ?_) (fun v => ?_) fun v h => ?_
  · obtain ⟨m, l⟩ := p
    simp only at h ⊢
    rw [Prod.mk.injEq]
    exact ⟨by omega, rfl⟩
  · unfold b7b
    rw [fb.keep b s h, a3y _ 0, a3g h]
  · unfold b7b
    rw [a3y _ 0]
  · simp only [Int.toNat_natCast, and_true, true_and]
    constructor
    · intro h; exact ⟨by omega, h.2⟩
    · intro h; exact ⟨by omega, h.2⟩
  · simp only [List.singleton_append, List.cons.injEq, and_true]
    have : u8 (v.length : Int) = (v.length : Int) % 256 := rfl
    omega
end Go.Ideal.Tryd
end
section
set_option linter.unusedVariables false
set_option linter.unusedSimpArgs false
namespace Go.Ideal.Tryd
theorem b4p {b : List Int} : ∀ (n : Nat) (l : List Int) (a : Nat), b5z b n l a = if (a1y (a0m b) n l ⟨a, .nil⟩).2.err.isNil = true then some ((a1y (a0m b) n l ⟨a, .nil⟩).1, (a1y (a0m b) n l ⟨a, .nil⟩).2.at_) else none
  | 0, l, a => by simp [b5z, a1y, Er.isNil]
  | n + 1, l, a => by
    rw [b5z, a1y, if_pos (show (⟨a, .nil⟩ : Rs).err.isNil = true from rfl)]
    by_cases h : b.length < a + 2
    · have e : (a0m b ⟨a, .nil⟩).2.err.isNil = false := by
        unfold a0m a1m
        by_cases h2 : a < b.length
        · have h3 : ¬ a + 1 < b.length := by omega
          simp [Er.isNil, h2, h3]
        · simp [Er.isNil, h2]
      rw [if_pos h, a3y _ 0, a3g e]
      simp only [e, Bool.false_eq_true, if_false]
    · have h2 : a < b.length := by omega
      have h3 : a + 1 < b.length := by omega
      have e : a0m b ⟨a, .nil⟩ = (b[a]! + b[a + 1]! * 256, ⟨a + 2, .nil⟩) := by
        unfold a0m a1m
        simp [Er.isNil, h2, h3]
      rw [if_neg h, e, b4p n]
theorem b0u (n : Nat) : Fmt (fun b s => a1y (a0m b) n [] s) (fun l => l.length = n ∧ ∀ x ∈ l, 0 ≤ x ∧ x ≤ 65535) (·.flatMap le2) :=
  (Fmt.loop (fun _ => a5d) n 0).of (fun b s h => by rw [a3y _ 0, a3g h]) (fun b a => by rw [a3y _ 0]) (fun _ => Iff.rfl) fun _ _ => rfl
def wid (w : Bool) : Nat := if w = true then 4 else 1
theorem d1z (c : List Int) (k i : Nat) : (c.drop k)[i]! = c[k + i]! := by
  simp [List.getElem!_eq_getElem?_getD, List.getElem?_drop]
theorem d23 (w : Bool) (c : List Int) (i : Nat) : a8h w (c.drop (wid w)) i = a8h w c (i + 1) := by
  cases w
  · simp only [a8h, wid, Bool.false_eq_true, if_false, d1z, Nat.add_comm 1 i]
  · simp only [a8h, wid, if_true, d1z, show 4 + 4 * i = 4 * (i + 1) by omega, show 4 + (4 * i + 1) = 4 * (i + 1) + 1 by omega, show 4 + (4 * i + 2) = 4 * (i + 1) + 2 by omega, show 4 + (4 * i + 3) = 4 * (i + 1) + 3 by omega]
theorem c1i (w : Bool) (c : List Int) (n : Nat) : b2g w c (n + 1) = a8h w c 0 :: b2g w (c.drop (wid w)) n := by
  unfold b2g
  rw [List.range_succ_eq_map]
  simp only [List.map_cons, List.map_map, List.cons.injEq, true_and]
  apply List.map_congr_left
  intro i _
  exact (d23 w c i).symm
theorem d1q (w : Bool) (x : Int) : (a4q w x).length = wid w := by unfold a4q wid; split <;> rfl
theorem c5x (n : Int) : u8 n = n % 256 := rfl
theorem d40 {w : Bool} {x : Int} (h : b1e x w = true) (r : List Int) : a8h w (a4q w x ++ r) 0 = x := by
  cases w
  · simp only [b1e, Bool.false_eq_true, if_false, decide_eq_true_eq] at h
    simp only [a8h, a4q, Bool.false_eq_true, if_false, c5x, s8]
    simp
    split <;> omega
  · simp only [b1e, if_true, decide_eq_true_eq] at h
    have e1 : x.fdiv 256 = x / 256 := Int.fdiv_eq_ediv_of_nonneg _ (by omega)
    have e2 : x.fdiv 65536 = x / 65536 := Int.fdiv_eq_ediv_of_nonneg _ (by omega)
    have e3 : x.fdiv 16777216 = x / 16777216 := Int.fdiv_eq_ediv_of_nonneg _ (by omega)
    simp only [a8h, a4q, if_true, c5x, s32, e1, e2, e3]
    simp
    split <;> omega
theorem c1n {w : Bool} : ∀ {d : List Int}, (∀ x ∈ d, b1e x w = true) → b2g w (b6l w d) d.length = d
  | [], _ => rfl
  | x :: d, h => by
    have e : b6l w (x :: d) = a4q w x ++ b6l w d := rfl
    rw [List.length_cons, c1i, e, d40 (h x (by simp)), ← d1q w x, List.drop_left, c1n fun y hy => h y (by simp [hy])]
theorem d6r {w : Bool} {c : List Int} (hB : a2l c) (h : wid w ≤ c.length) : a4q w (a8h w c 0) ++ c.drop (wid w) = c ∧ b1e (a8h w c 0) w = true := by
  cases w
  · simp only [wid, Bool.false_eq_true, if_false] at h
    match c, h, hB with
    | x :: r, _, hB =>
      have := hB x (by simp)
      simp only [a4q, a8h, wid, Bool.false_eq_true, if_false, c5x, s8, b1e, decide_eq_true_eq]
      simp
      constructor <;> split <;> omega
  · simp only [wid, if_true] at h
    match c, h, hB with
    | x :: y :: z :: v :: r, _, hB =>
      have h1 := hB x (by simp)
      have h2 := hB y (by simp)
      have h3 := hB z (by simp)
      have h4 := hB v (by simp)
      have et : a8h true (x :: y :: z :: v :: r) 0 = s32 (x + y * 256 + z * 65536 + v * 16777216) := rfl
      rw [et]
      have hr : -2147483648 ≤ s32 (x + y * 256 + z * 65536 + v * 16777216) ∧ s32 (x + y * 256 + z * 65536 + v * 16777216) ≤ 2147483647 := by unfold s32; split <;> omega
      refine ⟨?_, by simp only [b1e, if_true, decide_eq_true_eq]; exact hr⟩
      have e1 : ∀ n : Int, n.fdiv 256 = n / 256 := fun n => Int.fdiv_eq_ediv_of_nonneg _ (by omega)
      have e2 : ∀ n : Int, n.fdiv 65536 = n / 65536 := fun n => Int.fdiv_eq_ediv_of_nonneg _ (by omega)
      have e3 : ∀ n : Int, n.fdiv 16777216 = n / 16777216 := fun n => Int.fdiv_eq_ediv_of_nonneg _ (by omega)
      simp only [a4q, if_true, wid, c5x, e1, e2, e3, List.drop_succ_cons, List.drop_zero, List.cons_append, List.nil_append, List.cons.injEq, and_true]
      unfold s32
      split <;> omega
theorem c1o {w : Bool} : ∀ {n : Nat} {c : List Int}, a2l c → c.length = wid w * n → b6l w (b2g w c n) = c ∧ ∀ x ∈ b2g w c n, b1e x w = true
  | 0, c, hB, h => by
    have : c = [] := List.length_eq_zero_iff.1 (by omega)
    subst this
    exact ⟨rfl, by simp [b2g]⟩
  | n + 1, c, hB, h => by
    have hw : 0 < wid w := by unfold wid; split <;> omega
    rw [Nat.mul_succ] at h
    obtain ⟨p1, p2⟩ := d6r (w := w) hB (by omega)
    obtain ⟨q1, q2⟩ := c1o (w := w) (n := n) (c := c.drop (wid w)) (fun x hx => hB x (List.mem_of_mem_drop hx)) (by rw [List.length_drop]; omega)
    rw [c1i]
    refine ⟨?_, ?_⟩
    · show a4q w _ ++ b6l w _ = c
      rw [q1, p1]
    · intro x hx
      rcases List.mem_cons.1 hx with rfl | hx
      · exact p2
      · exact q2 x hx
theorem b3t (w : Bool) : ∀ d : List Int, (b6l w d).length = wid w * d.length
  | [] => rfl
  | x :: d => by
    have e : b6l w (x :: d) = a4q w x ++ b6l w d := rfl
    rw [e, List.length_append, d1q, b3t w d, List.length_cons, Nat.mul_succ]
    omega
theorem b4n {w : Bool} : ∀ {d : List Int} {i : Nat}, a2z w d i = none ↔ ∀ x ∈ d, b1e x w = true
  | [], i => by simp [a2z]
  | x :: d, i => by
    unfold a2z
    by_cases h : b1e x w = true
    · simp [h, b4n (d := d)]
    · simp [h]
theorem c5h {sh : List Int} {w : Bool} {d : List Int} : a4o sh w d = .nil ↔ b9e sh = true ∧ (d.length : Int) = a1n sh ∧ ∀ x ∈ d, b1e x w = true := by
  unfold a4o
  by_cases h : b9e sh = true
  · by_cases h2 : (d.length : Int) = a1n sh
    · simp only [h, h2, if_true, true_and]
      rw [← b4n (i := 0)]
      cases a2z w d 0 <;> simp [d1e]
    · simp [h, h2]
  · simp only [h, if_false, Bool.false_eq_true, false_and, iff_false]
    exact fun hh => h (a2j.1 hh)
theorem c3l {sh : List Int} (h : b9e sh = true) : sh.length ≤ 4 ∧ ∀ x ∈ sh, 0 ≤ x ∧ x ≤ 65535 := by
  simp only [b9e, Bool.and_eq_true, decide_eq_true_eq, List.all_eq_true] at h
  refine ⟨h.1.1, fun x hx => ?_⟩
  have := h.1.2 x hx
  simp only [a6x, decide_eq_true_eq] at this
  omega
theorem e6k {sh : List Int} {w : Bool} (h : sh.length ≤ 4) : u8 (if w = true then (sh.length : Int) + 8 else sh.length) = (if w = true then (sh.length : Int) + 8 else sh.length) ∧ ¬ 16 ≤ u8 (if w = true then (sh.length : Int) + 8 else sh.length) ∧ decide (u8 (if w = true then (sh.length : Int) + 8 else sh.length) / 8 % 2 = 1) = w ∧ (u8 (if w = true then (sh.length : Int) + 8 else sh.length) % 8).toNat = sh.length := by
  rw [c5x]
  cases w
  · simp only [Bool.false_eq_true, if_false, decide_eq_false_iff_not]
    omega
  · simp only [if_true, decide_eq_true_eq]
    omega
theorem b5n {sh : List Int} {w : Bool} {d : List Int} (h : (d.length : Int) = a1n sh) : (a14 sh w).toNat = wid w * d.length := by
  unfold a14 wid
  cases w <;> simp <;> omega
theorem b5g {b : List Int} {w : Bool} {n : Nat} {sh r : List Int} (hl : sh.length = n) (hr : ∀ x ∈ sh, 0 ≤ x ∧ x ≤ 65535) (h : b.drop 1 = sh.flatMap le2 ++ r) : a5s b w n [] 1 = b5p b w sh (1 + (sh.flatMap le2).length) := by
  unfold a5s
  rw [b4p, (b0u n).comp b 1 sh r ⟨hl, hr⟩ h]
  rfl
theorem d2k {sh : List Int} {w : Bool} {d r : List Int} (h : a4o sh w d = .nil) : a2f (a29 sh w d ++ r) = ⟨sh, w, d, (a29 sh w d).length, .nil⟩ := by
  obtain ⟨h1, h2, h3⟩ := c5h.1 h
  obtain ⟨l1, l2⟩ := c3l h1
  obtain ⟨k1, k2, k3, k4⟩ := e6k (w := w) l1
  have e : a29 sh w d ++ r = u8 (if w = true then (sh.length : Int) + 8 else sh.length) :: (sh.flatMap le2 ++ (b6l w d ++ r)) := by simp [a29, a3h]
  have el : (a29 sh w d).length = 1 + (sh.flatMap le2).length + (b6l w d).length := by simp [a29, a3h]; omega
  rw [e]
  simp only [a2f, k2, if_false, k3, k4]
  rw [b5g (sh := sh) (r := b6l w d ++ r) rfl l2 (by simp)]
  unfold b5p
  have hb := b5n (w := w) h2
  have hw := b3t w d
  have hlen : ¬ (u8 (if w = true then (sh.length : Int) + 8 else sh.length) :: (sh.flatMap le2 ++ (b6l w d ++ r))).length < 1 + (sh.flatMap le2).length + (a14 sh w).toNat := by
    simp only [List.length_cons, List.length_append]
    omega
  rw [if_pos (a2m.2 (a2j.2 h1)), if_neg hlen, hb, ← hw, ← el]
  have ed : ((u8 (if w = true then (sh.length : Int) + 8 else sh.length) :: (sh.flatMap le2 ++ (b6l w d ++ r))).drop (1 + (sh.flatMap le2).length)).take (b6l w d).length = b6l w d := by
    rw [Nat.add_comm 1, List.drop_succ_cons, List.drop_left, List.take_left]
  rw [ed, ← h2, Int.toNat_natCast, c1n h3]
theorem d0p {sh : List Int} {w : Bool} {d c r : List Int} (h : a4o sh w d = .nil) (hr : r ≠ []) (hc : c ++ r = a29 sh w d) : (a2f c).er = .s 4 := by
  obtain ⟨h1, h2, h3⟩ := c5h.1 h
  obtain ⟨l1, l2⟩ := c3l h1
  obtain ⟨k1, k2, k3, k4⟩ := e6k (w := w) l1
  have e : a29 sh w d = u8 (if w = true then (sh.length : Int) + 8 else sh.length) :: (sh.flatMap le2 ++ b6l w d) := by simp [a29, a3h]
  rw [e] at hc
  cases c with
  | nil => rfl
  | cons x c =>
    simp only [List.cons_append, List.cons.injEq] at hc
    obtain ⟨rfl, hc⟩ := hc
    simp only [a2f, k2, if_false, k3, k4]
    rcases List.append_eq_append_iff.1 hc with ⟨p, hp1, hp2⟩ | ⟨p, hp1, hp2⟩
    · by_cases hpn : p = []
      · subst hpn
        rw [b5g (sh := sh) (r := []) rfl l2 (by simpa using hp1.symm)]
        unfold b5p
        have hb := b5n (w := w) h2
        have hw := b3t w d
        have hrl := List.length_pos_iff.2 hr
        have hl2 := congrArg List.length hp2
        have hl1 := congrArg List.length hp1
        simp only [List.length_append, List.length_nil] at hl1 hl2
        rw [if_pos (a2m.2 (a2j.2 h1)), if_pos (by simp only [List.length_cons]; omega)]
      · unfold a5s
        rw [b4p]
        have := (b0u sh.length).short (u8 (if w = true then (sh.length : Int) + 8 else sh.length) :: c) 1 sh p ⟨rfl, l2⟩ (by simp) hpn (by simpa using hp1.symm)
        rw [a60 this]
        rfl
    · rw [b5g (sh := sh) (r := p) rfl l2 (by simpa using hp1)]
      unfold b5p
      have hb := b5n (w := w) h2
      have hw := b3t w d
      have hrl := List.length_pos_iff.2 hr
      have hl2 := congrArg List.length hp2
      have hl1 := congrArg List.length hp1
      simp only [List.length_append, List.length_nil] at hl1 hl2
      rw [if_pos (a2m.2 (a2j.2 h1)), if_pos (by simp only [List.length_cons]; omega)]
theorem c9i {c : List Int} (hB : a2l c) (h : (a2f c).er = .nil) : a4o (a2f c).sh (a2f c).wide (a2f c).data = .nil ∧ c = a29 (a2f c).sh (a2f c).wide (a2f c).data ++ c.drop (a2f c).at_ ∧ (a2f c).at_ ≤ c.length := by
  cases c with
  | nil => simp [a2f] at h
  | cons x r =>
    have hx := hB x (by simp)
    simp only [a2f] at h ⊢
    by_cases h16 : 16 ≤ x
    · simp [h16] at h
    · simp only [h16, if_false] at h ⊢
      generalize hw : decide (x / 8 % 2 = 1) = w at *
      generalize hn : (x % 8).toNat = n at *
      unfold a5s at h ⊢
      rw [b4p] at h ⊢
      cases he : (a1y (a0m (x :: r)) n [] ⟨1, .nil⟩).2.err.isNil with
      | false =>
        rw [he] at h
        simp at h
      | true =>
        rw [he] at h
        obtain ⟨g1, g2, g3⟩ := (b0u n).sound (x :: r) 1 hB (by simp) (a2m.1 he)
        simp only [if_true] at h ⊢
        generalize a1y (a0m (x :: r)) n [] ⟨1, .nil⟩ = p at *
        obtain ⟨sh, a, e⟩ := p
        simp only at g1 g2 g3 h ⊢
        unfold b5p at h ⊢
        cases hd : (b1h sh).isNil with
        | false =>
          rw [hd] at h
          simp only [Bool.false_eq_true, if_false] at h
          rw [h] at hd
          cases hd
        | true =>
          rw [hd] at h
          simp only [if_true] at h ⊢
          by_cases hlt : (x :: r).length < a + (a14 sh w).toNat
          · rw [if_pos hlt] at h
            cases h
          · rw [if_neg hlt] at h ⊢
            simp only
            have hok := a2j.1 (a2m.1 hd)
            obtain ⟨l1, l2⟩ := c3l hok
            have hel := a34 sh
            have hlen : (((a1n sh).toNat : Nat) : Int) = a1n sh := by omega
            have hbw : (a14 sh w).toNat = wid w * (a1n sh).toNat := by
              unfold a14 wid
              cases w <;> simp <;> omega
            have hc : (((x :: r).drop a).take (a14 sh w).toNat).length = wid w * (a1n sh).toNat := by
              rw [List.length_take, List.length_drop]
              omega
            obtain ⟨q1, q2⟩ := c1o (w := w) (n := (a1n sh).toNat) (c := ((x :: r).drop a).take (a14 sh w).toNat) (fun y hy => hB y (List.mem_of_mem_drop (List.mem_of_mem_take hy))) hc
            have hnl : (b2g w (((x :: r).drop a).take (a14 sh w).toNat) (a1n sh).toNat).length = (a1n sh).toNat := by simp [b2g]
            refine ⟨c5h.2 ⟨hok, by rw [hnl, hlen], q2⟩, ?_, by omega⟩
            unfold a29 a3h
            rw [q1, List.append_assoc]
            have e1 : ((x :: r).drop a).take (a14 sh w).toNat ++ (x :: r).drop (a + (a14 sh w).toNat) = (x :: r).drop a := by
              rw [← List.drop_drop, List.take_append_drop]
            rw [e1, List.cons_append, ← g2]
            have hxe : u8 (if w = true then (sh.length : Int) + 8 else sh.length) = x := by
              rw [c5x, g1.1]
              cases w
              · simp at hw ⊢; omega
              · simp at hw ⊢; omega
            rw [hxe]
            rfl
end Go.Ideal.Tryd
end
section
set_option linter.unusedVariables false
set_option linter.unusedSimpArgs false
namespace Go.Ideal.Tryd
theorem d4y {s : Rs} {p : Int} {e : Er} (h : s.err.isNil = true) (he : e.isNil = false) : (b7m s p e).err ≠ .nil := by
  unfold b7m
  split
  · intro h2
    simp only at h2
    rw [h2] at he
    cases he
  · rw [if_neg (by rw [he]; simp)]
    exact b6o h he
theorem c1r (p : Int) : Fmt (fun b s => a2g b p s) (fun t => a4o t.1 t.2.1 t.2.2 = .nil) (fun t => a29 t.1 t.2.1 t.2.2) where
  keep := fun b s h => by
    unfold a2g
    rw [if_neg (by rw [h]; simp)]
  comp := fun b a v r h1 h2 => by
    obtain ⟨sh, w, d⟩ := v
    simp only at h1 h2 ⊢
    unfold a2g
    rw [if_pos (show (⟨a, .nil⟩ : Rs).err.isNil = true from rfl)]
    simp only
    rw [h2, d2k h1]
    rfl
  short := fun b a v r h1 h2 h3 h4 => by
    have h5 := d0p h1 h3 h4
    unfold a2g
    rw [if_pos (show (⟨a, .nil⟩ : Rs).err.isNil = true from rfl)]
    simp only
    rw [h5]
    rfl
  sound := fun b a h1 h2 h3 => by
    unfold a2g at h3 ⊢
    rw [if_pos (show (⟨a, .nil⟩ : Rs).err.isNil = true from rfl)] at h3 ⊢
    simp only at h3 ⊢
    cases he : (a2f (b.drop a)).er.isNil with
    | false => exact absurd h3 (d4y rfl he)
    | true =>
      obtain ⟨g1, g2, g3⟩ := c9i (fun x hx => h1 x (List.mem_of_mem_drop hx)) (a2m.1 he)
      rw [List.length_drop] at g3
      refine ⟨g1, ?_, by omega⟩
      rw [List.drop_drop] at g2
      exact g2
instance : Inhabited Nd := ⟨⟨0, [], [], [], false, []⟩⟩
structure Whole {α : Type} (rd : List Int → Rs → α × Rs) (p q : UInt8) (enc : α → List Int) (ok : α → Prop) : Prop where
  back : ∀ v, ok v → (c27 (p.toNat :: q.toNat :: enc v) (rd (p.toNat :: q.toNat :: enc v) (a33 (p.toNat :: q.toNat :: enc v) p q ⟨0, .nil⟩)).2).err = .nil ∧ (rd (p.toNat :: q.toNat :: enc v) (a33 (p.toNat :: q.toNat :: enc v) p q ⟨0, .nil⟩)).1 = v
  cut : ∀ v k, ok v → k < (enc v).length + 2 → (c27 ((p.toNat :: q.toNat :: enc v : List Int).take k) (rd ((p.toNat :: q.toNat :: enc v : List Int).take k) (a33 ((p.toNat :: q.toNat :: enc v : List Int).take k) p q ⟨0, .nil⟩)).2).err = .s 4
  long : ∀ v, ok v → (c27 ((p.toNat :: q.toNat :: enc v : List Int) ++ [7]) (rd ((p.toNat :: q.toNat :: enc v : List Int) ++ [7]) (a33 ((p.toNat :: q.toNat :: enc v : List Int) ++ [7]) p q ⟨0, .nil⟩)).2).err = .at ((p.toNat :: q.toNat :: enc v : List Int).length : Int) (.s 2)
  sound : ∀ b, a2l b → (c27 b (rd b (a33 b p q ⟨0, .nil⟩)).2).err = .nil → ok (rd b (a33 b p q ⟨0, .nil⟩)).1 ∧ b = (p.toNat : Int) :: (q.toNat : Int) :: enc (rd b (a33 b p q ⟨0, .nil⟩)).1
theorem b6n (p q : UInt8) (r : List Int) : a33 ((p.toNat : Int) :: (q.toNat : Int) :: r) p q ⟨0, .nil⟩ = ⟨2, .nil⟩ := by
  unfold a33
  rw [if_neg (by simp)]
  simp
theorem Fmt.whole {α : Type} {rd : List Int → Rs → α × Rs} {ok : α → Prop} {enc : α → List Int} (F : Fmt rd ok enc) (p q : UInt8) : Whole rd p q enc ok where
  back := fun v h => by
    rw [b6n, F.comp _ 2 v [] h (by simp)]
    refine ⟨?_, rfl⟩
    unfold c27
    rw [if_neg (by simp only [List.length_cons]; omega)]
  cut := fun v k h hk => by
    match k, hk with
    | 0, _ =>
      have e : (rd [] (a33 [] p q ⟨0, .nil⟩)).2 = ⟨0, .s 4⟩ := F.keep [] ⟨0, .s 4⟩ rfl
      simp only [List.take_zero]
      rw [e]
      rfl
    | 1, _ =>
      have e : (rd [(p.toNat : Int)] (a33 [(p.toNat : Int)] p q ⟨0, .nil⟩)).2 = ⟨0, .s 4⟩ := F.keep _ ⟨0, .s 4⟩ rfl
      simp only [List.take_succ_cons, List.take_zero]
      rw [e]
      rfl
    | k + 2, hk =>
      have hlt : k < (enc v).length := by omega
      simp only [List.take_succ_cons]
      rw [b6n]
      have hs := F.short ((p.toNat : Int) :: (q.toNat : Int) :: (enc v).take k) 2 v ((enc v).drop k) h (by simp) (by intro hd; have := congrArg List.length hd; simp at this; omega) (by simp)
      unfold c27
      rw [if_neg (by rw [a60 hs]; simp)]
      exact hs
  long := fun v h => by
    simp only [List.cons_append]
    rw [b6n, F.comp _ 2 v [7] h (by simp)]
    simp only [c27]
    rw [if_pos ⟨rfl, by simp; omega⟩]
    simp only [b3f]
    rw [if_pos (show Er.isNil .nil = true from rfl)]
    simp only [List.length_cons]
    congr 1
    omega
  sound := fun b hB h => by
    have hn : ∀ s : Rs, s.err.isNil = false → (c27 b (rd b s).2).err = .nil → False := fun s hs he => by
      rw [F.keep b s hs] at he
      unfold c27 at he
      rw [if_neg (by rw [hs]; simp)] at he
      rw [he] at hs
      cases hs
    by_cases hl : b.length < 2
    · exact absurd h (fun h => hn (a33 b p q ⟨0, .nil⟩) (by unfold a33; rw [if_pos hl]; rfl) h)
    · match b, hl with
      | [], hl => simp at hl
      | [_], hl => simp at hl
      | x :: y :: r, hl =>
        by_cases hpq : x = p.toNat ∧ y = q.toNat
        · obtain ⟨rfl, rfl⟩ := hpq
          rw [b6n] at h ⊢
          generalize hrd : rd ((p.toNat : Int) :: (q.toNat : Int) :: r) ⟨2, .nil⟩ = o at *
          have hen : o.2.err = .nil ∧ ¬ o.2.at_ < ((p.toNat : Int) :: (q.toNat : Int) :: r).length := by
            unfold c27 at h
            split at h
            · rename_i hc
              exact absurd h (b6o hc.1 rfl)
            · rename_i hc
              exact ⟨h, fun hlt => hc ⟨by rw [h]; rfl, hlt⟩⟩
          obtain ⟨g1, g2, g3⟩ := F.sound _ 2 hB (by simp) (by rw [hrd]; exact hen.1)
          rw [hrd] at g1 g2 g3
          refine ⟨g1, ?_⟩
          have e : ((p.toNat : Int) :: (q.toNat : Int) :: r).drop o.2.at_ = [] := List.drop_eq_nil_of_le (by omega)
          rw [e, List.append_nil] at g2
          simp only [List.drop_succ_cons, List.drop_zero] at g2
          rw [g2]
        · exact absurd h (fun h => hn (a33 (x :: y :: r) p q ⟨0, .nil⟩) (by
            unfold a33
            rw [if_neg hl]
            simp only
            rw [if_neg (by exact hpq)]
            rfl) h)
end Go.Ideal.Tryd
end
section
set_option linter.unusedVariables false
set_option linter.unusedSimpArgs false
namespace Go.Ideal.Tryd
end Go.Ideal.Tryd
end
