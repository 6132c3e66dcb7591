/- Part Pn of the proof: a machine with trees for values, its soundness, and walks on it. -/
import Derived.Test.YtfdhkijgolgnfaaGreatDoorPm
import Derived.Test.YtfdhkijgolgnfaaGreatDoorPi
section
set_option linter.unusedVariables false
set_option linter.unusedSimpArgs false
set_option maxRecDepth 10000
namespace Go.Ideal.Tryz
theorem e8b {b : List Int} {p q : UInt8} {s : Rs} (h : s.at_ ≤ b.length) : (a5a b p q s).at_ ≤ b.length := by
  unfold a5a
  split
  · exact h
  · simp only; omega
theorem c30 {rd : Rs → Int × Rs} {b : List Int} (h : ∀ s, s.at_ ≤ b.length → (rd s).2.at_ ≤ b.length) (s : Rs) (ha : s.at_ ≤ b.length) : (c5e b rd s).2.at_ ≤ b.length := c6e h _ _ _ (e0g (fun s h => a4i s h) s ha)
section
variable {G : Nat → Option Value} {bk : Nat → Nat × Nat} {Q : Exit → St → Prop} {st : St} {b : List Int}
end
end Go.Ideal.Tryz
end
section
set_option linter.unusedVariables false
set_option linter.unusedSimpArgs false
namespace Go.Ideal.Tryz
section
variable {α β : Type}
structure Fmt (rd : List Int → Rs → α × Rs) (ok : α → Prop) (enc : α → List Int) : Prop where
  keep : ∀ b s, s.err.isNil = false → (rd b s).2 = s
  comp : ∀ b a v r, ok v → b.drop a = enc v ++ r → rd b ⟨a, .nil⟩ = (v, ⟨a + (enc v).length, .nil⟩)
  short : ∀ b a v r, ok v → a ≤ b.length → r ≠ [] → b.drop a ++ r = enc v → (rd b ⟨a, .nil⟩).2.err = .s 4
  sound : ∀ b a, a1l b → a ≤ b.length → (rd b ⟨a, .nil⟩).2.err = .nil → ok (rd b ⟨a, .nil⟩).1 ∧ b.drop a = enc (rd b ⟨a, .nil⟩).1 ++ b.drop (rd b ⟨a, .nil⟩).2.at_ ∧ (rd b ⟨a, .nil⟩).2.at_ ≤ b.length
theorem d0g {b e r : List Int} {a : Nat} (h : b.drop a = e ++ r) : b.drop (a + e.length) = r := by
  rw [← List.drop_drop, h, List.drop_left]
theorem a83 {s : Rs} (h : s.err = .s 4) : s.err.isNil = false := by rw [h]; rfl
theorem Fmt.of {rd rd' : List Int → Rs → α × Rs} {ok ok' : α → Prop} {enc enc' : α → List Int} (F : Fmt rd ok enc) (hk : ∀ b s, s.err.isNil = false → (rd' b s).2 = s) (hr : ∀ b a, rd' b ⟨a, .nil⟩ = rd b ⟨a, .nil⟩) (hok : ∀ v, ok v ↔ ok' v) (henc : ∀ v, ok' v → enc v = enc' v) : Fmt rd' ok' enc' where
  keep := hk
  comp := fun b a v r h1 h2 => by
    rw [hr, ← henc v h1]
    exact F.comp b a v r ((hok v).2 h1) (by rw [henc v h1]; exact h2)
  short := fun b a v r h1 h2 h3 h4 => by
    rw [hr]
    exact F.short b a v r ((hok v).2 h1) h2 h3 (by rw [henc v h1]; exact h4)
  sound := fun b a h1 h2 h3 => by
    rw [hr] at h3 ⊢
    obtain ⟨g1, g2, g3⟩ := F.sound b a h1 h2 h3
    have g1' := (hok _).1 g1
    exact ⟨g1', by rw [← henc _ g1']; exact g2, g3⟩
theorem Fmt.map {rd : List Int → Rs → α × Rs} {ok : α → Prop} {enc : α → List Int} (F : Fmt rd ok enc) (f : α → β) (g : β → α) (h : ∀ v, ok v → g (f v) = v) : Fmt (fun b s => (f (rd b s).1, (rd b s).2)) (fun w => ok (g w) ∧ f (g w) = w) (fun w => enc (g w)) where
  keep := fun b s hs => F.keep b s hs
  comp := fun b a v r h1 h2 => by
    rw [F.comp b a (g v) r h1.1 h2, h1.2]
  short := fun b a v r h1 h2 h3 h4 => F.short b a (g v) r h1.1 h2 h3 h4
  sound := fun b a h1 h2 h3 => by
    simp only at h3 ⊢
    obtain ⟨g1, g2, g3⟩ := F.sound b a h1 h2 h3
    rw [h _ g1]
    exact ⟨⟨g1, rfl⟩, g2, g3⟩
theorem Fmt.pair {rd : List Int → Rs → α × Rs} {ok : α → Prop} {enc : α → List Int} {rd2 : α → List Int → Rs → β × Rs} {ok2 : α → β → Prop} {enc2 : α → β → List Int} (F : Fmt rd ok enc) (hk : ∀ v b s, s.err.isNil = false → (rd2 v b s).2 = s) (F2 : ∀ v, ok v → Fmt (rd2 v) (ok2 v) (enc2 v)) :
    Fmt (fun b s => (((rd b s).1, (rd2 (rd b s).1 b (rd b s).2).1), (rd2 (rd b s).1 b (rd b s).2).2)) (fun p => ok p.1 ∧ ok2 p.1 p.2) (fun p => enc p.1 ++ enc2 p.1 p.2) where
  keep := fun b s hs => by
    simp only
    rw [F.keep b s hs, hk _ b s hs]
  comp := fun b a v r h1 h2 => by
    obtain ⟨v1, v2⟩ := v
    simp only at h1 h2 ⊢
    rw [List.append_assoc] at h2
    rw [F.comp b a v1 _ h1.1 h2]
    simp only
    rw [(F2 v1 h1.1).comp b _ v2 r h1.2 (d0g h2)]
    simp [Nat.add_assoc]
  short := fun b a v r h1 h2 h3 h4 => by
    obtain ⟨v1, v2⟩ := v
    simp only at h1 h4 ⊢
    rcases List.append_eq_append_iff.1 h4 with ⟨c, hc1, hc2⟩ | ⟨c, hc1, hc2⟩
    · -- the first part is cut
      cases c with
      | nil =>
        have e : b.drop a = enc v1 ++ [] := by simpa using hc1.symm
        rw [F.comp b a v1 [] h1.1 e]
        simp only
        have h5 := d0g e
        have h6 := congrArg List.length e
        rw [List.length_drop] at h6
        simp only [List.append_nil] at h6
        exact (F2 v1 h1.1).short b _ v2 r h1.2 (by omega) h3 (by rw [h5]; simpa using hc2)
      | cons x c =>
        have := F.short b a v1 (x :: c) h1.1 h2 (by simp) hc1.symm
        rw [hk _ b _ (a83 this), this]
    · have h6 := congrArg List.length hc1
      rw [List.length_drop, List.length_append] at h6
      rw [F.comp b a v1 c h1.1 hc1]
      simp only
      exact (F2 v1 h1.1).short b _ v2 r h1.2 (by omega) h3 (by rw [d0g hc1]; exact hc2.symm)
  sound := fun b a h1 h2 h3 => by
    simp only at h3 ⊢
    cases he : (rd b ⟨a, .nil⟩).2.err.isNil with
    | false =>
      rw [hk _ b _ he] at h3
      rw [h3] at he
      cases he
    | true =>
      have he := a2x.1 he
      obtain ⟨g1, g2, g3⟩ := F.sound b a h1 h2 he
      have e : (rd b ⟨a, .nil⟩).2 = ⟨(rd b ⟨a, .nil⟩).2.at_, .nil⟩ := by
        cases hh : (rd b ⟨a, .nil⟩).2
        rw [hh] at he
        simp only at he
        rw [he]
      rw [e] at h3 ⊢
      obtain ⟨k1, k2, k3⟩ := (F2 _ g1).sound b _ h1 g3 h3
      exact ⟨⟨g1, k1⟩, by rw [List.append_assoc, ← k2, ← g2], k3⟩
theorem a35 : Fmt a1x (fun x => 0 ≤ x ∧ x ≤ 255) (fun x => [x]) where
  keep := fun b s h => by unfold a1x; simp [h]
  comp := fun b a v r h1 h2 => by
    have hl := congrArg List.length h2
    simp at hl
    have hlt : a < b.length := by omega
    rw [List.drop_eq_getElem_cons hlt] at h2
    simp only [List.cons_append, List.nil_append, List.cons.injEq] at h2
    unfold a1x
    simp [Er.isNil, hlt, h2.1]
  short := fun b a v r h1 h2 h3 h4 => by
    have hl := congrArg List.length h4
    have := List.length_pos_iff.2 h3
    simp only [List.length_append, List.length_drop, List.length_cons, List.length_nil] at hl
    have hlt : ¬ a < b.length := by omega
    unfold a1x
    simp [Er.isNil, hlt]
  sound := fun b a h1 h2 h3 => by
    unfold a1x at h3 ⊢
    simp only [Er.isNil, if_true] at h3 ⊢
    split at h3
    · rename_i hlt
      simp only [hlt, if_true]
      have := h1 _ (List.getElem_mem hlt)
      have e : b[a]! = b[a] := by simp [hlt]
      rw [e]
      exact ⟨this, List.drop_eq_getElem_cons hlt, by omega⟩
    · cases h3
theorem a6m : Fmt a0n (fun x => 0 ≤ x ∧ x ≤ 65535) le2 :=
  ((a35.pair (rd2 := fun _ => a1x) (ok2 := fun _ x => 0 ≤ x ∧ x ≤ 255) (enc2 := fun _ x => [x]) (fun _ => a35.keep) fun _ _ => a35).map (fun p => p.1 + p.2 * 256) (fun k => (k % 256, k / 256)) fun p h => by
    obtain ⟨x, y⟩ := p
    simp only at h ⊢
    rw [Prod.mk.injEq]
    omega).of (fun b s h => by unfold a0n; simp only; rw [a35.keep b s h, a35.keep b s h]) (fun b a => rfl) (fun v => by simp only; omega) fun v h => by
      have e : v.fdiv 256 = v / 256 := Int.fdiv_eq_ediv_of_nonneg v (by omega)
      have e1 : u8 v = v % 256 := rfl
      have e2 : u8 (v / 256) = v / 256 := by
        have : u8 (v / 256) = (v / 256) % 256 := rfl
        omega
      simp only [le2, e, e1, e2]
      rfl
theorem a9y : Fmt a06 (fun x => -2147483648 ≤ x ∧ x ≤ 2147483647) (a45 true) :=
  ((a6m.pair (rd2 := fun _ => a0n) (ok2 := fun _ x => 0 ≤ x ∧ x ≤ 65535) (enc2 := fun _ x => le2 x) (fun _ => a6m.keep) fun _ _ => a6m).map (fun p => s32 (p.1 + p.2 * 65536)) (fun k => (k % 65536, k / 65536 % 65536)) fun p h => by
    obtain ⟨x, y⟩ := p
    simp only at h ⊢
    rw [Prod.mk.injEq]
    unfold s32
    split <;> omega).of (fun b s h => by unfold a06; simp only; rw [a6m.keep b s h, a6m.keep b s h]) (fun b a => rfl) (fun v => by simp only [s32]; split <;> omega) fun v h => by
      have w8 : ∀ n : Int, u8 n = n % 256 := fun n => rfl
      have e1 : v.fdiv 256 = v / 256 := Int.fdiv_eq_ediv_of_nonneg v (by omega)
      have e2 : v.fdiv 65536 = v / 65536 := Int.fdiv_eq_ediv_of_nonneg v (by omega)
      have e3 : v.fdiv 16777216 = v / 16777216 := Int.fdiv_eq_ediv_of_nonneg v (by omega)
      have e4 : (v % 65536).fdiv 256 = (v % 65536) / 256 := Int.fdiv_eq_ediv_of_nonneg _ (by omega)
      have e5 : (v / 65536 % 65536).fdiv 256 = (v / 65536 % 65536) / 256 := Int.fdiv_eq_ediv_of_nonneg _ (by omega)
      simp only [le2, a45, if_true, e1, e2, e3, e4, e5, w8, List.cons_append, List.nil_append, List.cons.injEq, and_true]
      omega
theorem c33 {s : Rs} {p : Int} {e : Er} (h : s.err.isNil = true) (he : e.isNil = false) : (b77 s p e).err ≠ .nil := by
  unfold b77
  rw [if_pos h]
  simp
theorem Fmt.few {rd : List Int → Rs → Int × Rs} {ok : Int → Prop} {enc : Int → List Int} (F : Fmt rd ok enc) (most : Int) : Fmt (fun b s => a5v most (rd b) s) (fun v => ok v ∧ v ≤ most) enc where
  keep := fun b s h => by
    have := F.keep b s h
    unfold a5v
    rw [this, h]
    rfl
  comp := fun b a v r h1 h2 => by
    unfold a5v
    simp only [F.comp b a v r h1.1 h2, Er.isNil, if_true, show ¬ most < v by omega, if_false]
  short := fun b a v r h1 h2 h3 h4 => by
    have := F.short b a v r h1.1 h2 h3 h4
    unfold a5v
    rw [if_neg (by rw [a83 this]; simp)]
    exact this
  sound := fun b a h1 h2 h3 => by
    unfold a5v at h3 ⊢
    cases he : (rd b ⟨a, .nil⟩).2.err.isNil with
    | false =>
      rw [he] at h3
      simp only [Bool.false_eq_true, if_false] at h3
      rw [h3] at he
      cases he
    | true =>
      rw [he] at h3
      by_cases hm : most < (rd b ⟨a, .nil⟩).1
      · simp only [hm, if_true] at h3
        exact absurd h3 (c33 he rfl)
      · simp only [hm, if_true, if_false]
        obtain ⟨g1, g2, g3⟩ := F.sound b a h1 h2 (a2x.1 he)
        exact ⟨⟨g1, by omega⟩, g2, g3⟩
def a79 (rd : Nat → List Int → Rs → α × Rs) (b : List Int) : Nat → Nat → List α → Rs → List α × Rs
  | 0, _, l, s => (l, s)
  | n + 1, i, l, s => if s.err.isNil = true then a79 rd b n (i + 1) (l ++ [(rd i b s).1]) (rd i b s).2 else (l, s)
theorem c6g {rd : Nat → List Int → Rs → α × Rs} {b : List Int} : ∀ (n i : Nat) (l : List α) (s : Rs), a79 rd b n i l s = (l ++ (a79 rd b n i [] s).1, (a79 rd b n i [] s).2)
  | 0, i, l, s => by simp [a79]
  | n + 1, i, l, s => by
    rw [a79, a79]
    split
    · rw [c6g n (i + 1) (l ++ _), c6g n (i + 1) ([] ++ _)]
      simp
    · simp
theorem a4r {rd : List Int → Rs → Int × Rs} {b : List Int} : ∀ (n i : Nat) (l : List Int) (s : Rs), a2g (rd b) n l s = a79 (fun _ => rd) b n i l s
  | 0, i, l, s => rfl
  | n + 1, i, l, s => by
    rw [a2g, a79, a4r n (i + 1)]
theorem a4d {rd : Nat → List Int → Rs → α × Rs} {b : List Int} {s : Rs} (h : s.err.isNil = false) : ∀ (n i : Nat) (l : List α), a79 rd b n i l s = (l, s)
  | 0, _, _ => rfl
  | n + 1, i, l => by rw [a79, h]; rfl
theorem Fmt.loop [Inhabited α] {rd : Nat → List Int → Rs → α × Rs} {ok : α → Prop} {enc : α → List Int} (F : ∀ i, Fmt (rd i) ok enc) : ∀ n i : Nat, Fmt (fun b s => a79 rd b n i [] s) (fun l => l.length = n ∧ ∀ x ∈ l, ok x) (·.flatMap enc)
  | 0, i =>
    { keep := fun b s h => rfl
      comp := fun b a v r h1 h2 => by
        obtain rfl := List.length_eq_zero_iff.1 h1.1
        simp [a79]
      short := fun b a v r h1 h2 h3 h4 => by
        obtain rfl := List.length_eq_zero_iff.1 h1.1
        exact absurd (List.append_eq_nil_iff.1 h4).2 h3
      sound := fun b a h1 h2 h3 => ⟨by simp [a79], by simp [a79], h2⟩ }
  | n + 1, i => by
    refine (((F i).pair (rd2 := fun _ b s => a79 rd b n (i + 1) [] s) (fun _ b s h => by rw [a4d h]) fun _ _ => Fmt.loop F n (i + 1)).map (fun p => p.1 :: p.2) (fun l => (l.headD default, l.tail)) fun p h => rfl).of (fun b s h => by rw [a4d h]) (fun b a => ?_) (fun v => ?_) fun v h => ?_
    · simp only [a79, Er.isNil, if_true]
      rw [c6g]
      rfl
    · cases v with
      | nil => simp
      | cons x v => simp only [List.headD_cons, List.tail_cons, List.length_cons, List.mem_cons, forall_eq_or_imp, and_true]; exact ⟨fun h => ⟨by omega, h.1, h.2.2⟩, fun h => ⟨h.2.1, by omega, h.2.2⟩⟩
    · cases v with
      | nil => simp at h
      | cons x v => rfl
end
theorem Fmt.nums {rd : List Int → Rs → Int × Rs} {ok : Int → Prop} {enc : Int → List Int} (F : Fmt rd ok enc) : Fmt (fun b s => c5e b (rd b) s) (fun l => l.length ≤ 8 ∧ ∀ x ∈ l, ok x) (fun l => u8 l.length :: l.flatMap enc) := by
  have fb := a35.few 8
  refine ((fb.pair (rd2 := fun m b s => a79 (fun _ => rd) b m.toNat 0 [] s) (ok2 := fun m l => l.length = m.toNat ∧ ∀ x ∈ l, ok x) (enc2 := fun _ l => l.flatMap enc) (fun m b s h => by rw [a4d h]) fun m _ => Fmt.loop (fun _ => F) m.toNat 0).map (fun p => p.2) (fun l => ((l.length : Int), l)) fun p h => ?_).of (fun b s h => ?_) (fun b a => ?_) (fun v => ?_) fun v h => ?_
  · obtain ⟨m, l⟩ := p
    simp only at h ⊢
    rw [Prod.mk.injEq]
    exact ⟨by omega, rfl⟩
  · unfold c5e
    rw [fb.keep b s h, a4r _ 0, a4d h]
  · unfold c5e
    rw [a4r _ 0]
  · simp only [Int.toNat_natCast, and_true, true_and]
    constructor
    · intro h; exact ⟨by omega, h.2⟩
    · intro h; exact ⟨by omega, h.2⟩
  · simp only [List.singleton_append, List.cons.injEq, and_true]
    have : u8 (v.length : Int) = (v.length : Int) % 256 := rfl
    omega
end Go.Ideal.Tryz
end
section
set_option linter.unusedVariables false
set_option linter.unusedSimpArgs false
namespace Go.Ideal.Tryz
theorem c0b {b : List Int} : ∀ (n : Nat) (l : List Int) (a : Nat), c2w b n l a = if (a2g (a0n b) n l ⟨a, .nil⟩).2.err.isNil = true then some ((a2g (a0n b) n l ⟨a, .nil⟩).1, (a2g (a0n b) n l ⟨a, .nil⟩).2.at_) else none
  | 0, l, a => by simp [c2w, a2g, Er.isNil]
  | n + 1, l, a => by
    rw [c2w, a2g, if_pos (show (⟨a, .nil⟩ : Rs).err.isNil = true from rfl)]
    by_cases h : b.length < a + 2
    · have e : (a0n b ⟨a, .nil⟩).2.err.isNil = false := by
        unfold a0n a1x
        by_cases h2 : a < b.length
        · have h3 : ¬ a + 1 < b.length := by omega
          simp [Er.isNil, h2, h3]
        · simp [Er.isNil, h2]
      rw [if_pos h, a4r _ 0, a4d e]
      simp only [e, Bool.false_eq_true, if_false]
    · have h2 : a < b.length := by omega
      have h3 : a + 1 < b.length := by omega
      have e : a0n b ⟨a, .nil⟩ = (b[a]! + b[a + 1]! * 256, ⟨a + 2, .nil⟩) := by
        unfold a0n a1x
        simp [Er.isNil, h2, h3]
      rw [if_neg h, e, c0b n]
theorem b4j (n : Nat) : Fmt (fun b s => a2g (a0n b) n [] s) (fun l => l.length = n ∧ ∀ x ∈ l, 0 ≤ x ∧ x ≤ 65535) (·.flatMap le2) :=
  (Fmt.loop (fun _ => a6m) n 0).of (fun b s h => by rw [a4r _ 0, a4d h]) (fun b a => by rw [a4r _ 0]) (fun _ => Iff.rfl) fun _ _ => rfl
def wid (w : Bool) : Nat := if w = true then 4 else 1
theorem e04 (c : List Int) (k i : Nat) : (c.drop k)[i]! = c[k + i]! := by
  simp [List.getElem!_eq_getElem?_getD, List.getElem?_drop]
theorem e2o (w : Bool) (c : List Int) (i : Nat) : b1d w (c.drop (wid w)) i = b1d w c (i + 1) := by
  cases w
  · simp only [b1d, wid, Bool.false_eq_true, if_false, e04, Nat.add_comm 1 i]
  · simp only [b1d, wid, if_true, e04, show 4 + 4 * i = 4 * (i + 1) by omega, show 4 + (4 * i + 1) = 4 * (i + 1) + 1 by omega, show 4 + (4 * i + 2) = 4 * (i + 1) + 2 by omega, show 4 + (4 * i + 3) = 4 * (i + 1) + 3 by omega]
theorem c9r (w : Bool) (c : List Int) (n : Nat) : b7h w c (n + 1) = b1d w c 0 :: b7h w (c.drop (wid w)) n := by
  unfold b7h
  rw [List.range_succ_eq_map]
  simp only [List.map_cons, List.map_map, List.cons.injEq, true_and]
  apply List.map_congr_left
  intro i _
  exact (e2o w c i).symm
theorem e01 (w : Bool) (x : Int) : (a45 w x).length = wid w := by unfold a45 wid; split <;> rfl
theorem c3q (n : Int) : u8 n = n % 256 := rfl
theorem e4i {w : Bool} {x : Int} (h : b44 x w = true) (r : List Int) : b1d w (a45 w x ++ r) 0 = x := by
  cases w
  · simp only [b44, Bool.false_eq_true, if_false, decide_eq_true_eq] at h
    simp only [b1d, a45, Bool.false_eq_true, if_false, c3q, s8]
    simp
    split <;> omega
  · simp only [b44, if_true, decide_eq_true_eq] at h
    have e1 : x.fdiv 256 = x / 256 := Int.fdiv_eq_ediv_of_nonneg _ (by omega)
    have e2 : x.fdiv 65536 = x / 65536 := Int.fdiv_eq_ediv_of_nonneg _ (by omega)
    have e3 : x.fdiv 16777216 = x / 16777216 := Int.fdiv_eq_ediv_of_nonneg _ (by omega)
    simp only [b1d, a45, if_true, c3q, s32, e1, e2, e3]
    simp
    split <;> omega
theorem c9y {w : Bool} : ∀ {d : List Int}, (∀ x ∈ d, b44 x w = true) → b7h w (c22 w d) d.length = d
  | [], _ => rfl
  | x :: d, h => by
    have e : c22 w (x :: d) = a45 w x ++ c22 w d := rfl
    rw [List.length_cons, c9r, e, e4i (h x (by simp)), ← e01 w x, List.drop_left, c9y fun y hy => h y (by simp [hy])]
theorem e6u {w : Bool} {c : List Int} (hB : a1l c) (h : wid w ≤ c.length) : a45 w (b1d w c 0) ++ c.drop (wid w) = c ∧ b44 (b1d w c 0) w = true := by
  cases w
  · simp only [wid, Bool.false_eq_true, if_false] at h
    match c, h, hB with
    | x :: r, _, hB =>
      have := hB x (by simp)
      simp only [a45, b1d, wid, Bool.false_eq_true, if_false, c3q, s8, b44, decide_eq_true_eq]
      simp
      constructor <;> split <;> omega
  · simp only [wid, if_true] at h
    match c, h, hB with
    | x :: y :: z :: v :: r, _, hB =>
      have h1 := hB x (by simp)
      have h2 := hB y (by simp)
      have h3 := hB z (by simp)
      have h4 := hB v (by simp)
      have et : b1d true (x :: y :: z :: v :: r) 0 = s32 (x + y * 256 + z * 65536 + v * 16777216) := rfl
      rw [et]
      have hr : -2147483648 ≤ s32 (x + y * 256 + z * 65536 + v * 16777216) ∧ s32 (x + y * 256 + z * 65536 + v * 16777216) ≤ 2147483647 := by unfold s32; split <;> omega
      refine ⟨?_, by simp only [b44, if_true, decide_eq_true_eq]; exact hr⟩
      have e1 : ∀ n : Int, n.fdiv 256 = n / 256 := fun n => Int.fdiv_eq_ediv_of_nonneg _ (by omega)
      have e2 : ∀ n : Int, n.fdiv 65536 = n / 65536 := fun n => Int.fdiv_eq_ediv_of_nonneg _ (by omega)
      have e3 : ∀ n : Int, n.fdiv 16777216 = n / 16777216 := fun n => Int.fdiv_eq_ediv_of_nonneg _ (by omega)
      simp only [a45, if_true, wid, c3q, e1, e2, e3, List.drop_succ_cons, List.drop_zero, List.cons_append, List.nil_append, List.cons.injEq, and_true]
      unfold s32
      split <;> omega
theorem c9b {w : Bool} : ∀ {n : Nat} {c : List Int}, a1l c → c.length = wid w * n → c22 w (b7h w c n) = c ∧ ∀ x ∈ b7h w c n, b44 x w = true
  | 0, c, hB, h => by
    have : c = [] := List.length_eq_zero_iff.1 (by omega)
    subst this
    exact ⟨rfl, by simp [b7h]⟩
  | n + 1, c, hB, h => by
    have hw : 0 < wid w := by unfold wid; split <;> omega
    rw [Nat.mul_succ] at h
    obtain ⟨p1, p2⟩ := e6u (w := w) hB (by omega)
    obtain ⟨q1, q2⟩ := c9b (w := w) (n := n) (c := c.drop (wid w)) (fun x hx => hB x (List.mem_of_mem_drop hx)) (by rw [List.length_drop]; omega)
    rw [c9r]
    refine ⟨?_, ?_⟩
    · show a45 w _ ++ c22 w _ = c
      rw [q1, p1]
    · intro x hx
      rcases List.mem_cons.1 hx with rfl | hx
      · exact p2
      · exact q2 x hx
theorem c0o (w : Bool) : ∀ d : List Int, (c22 w d).length = wid w * d.length
  | [] => rfl
  | x :: d => by
    have e : c22 w (x :: d) = a45 w x ++ c22 w d := rfl
    rw [e, List.length_append, e01, c0o w d, List.length_cons, Nat.mul_succ]
    omega
theorem b9m {w : Bool} : ∀ {d : List Int} {i : Nat}, a3n w d i = none ↔ ∀ x ∈ d, b44 x w = true
  | [], i => by simp [a3n]
  | x :: d, i => by
    unfold a3n
    by_cases h : b44 x w = true
    · simp [h, b9m (d := d)]
    · simp [h]
theorem d1r {sh : List Int} {w : Bool} {d : List Int} : a5k sh w d = .nil ↔ c74 sh = true ∧ (d.length : Int) = a1y sh ∧ ∀ x ∈ d, b44 x w = true := by
  unfold a5k
  by_cases h : c74 sh = true
  · by_cases h2 : (d.length : Int) = a1y sh
    · simp only [h, h2, if_true, true_and]
      rw [← b9m (i := 0)]
      cases a3n w d 0 <;> simp [e02]
    · simp [h, h2]
  · simp only [h, if_false, Bool.false_eq_true, false_and, iff_false]
    exact fun hh => h (a29.1 hh)
theorem c92 {sh : List Int} (h : c74 sh = true) : sh.length ≤ 4 ∧ ∀ x ∈ sh, 0 ≤ x ∧ x ≤ 65535 := by
  simp only [c74, Bool.and_eq_true, decide_eq_true_eq, List.all_eq_true] at h
  refine ⟨h.1.1, fun x hx => ?_⟩
  have := h.1.2 x hx
  simp only [a8g, decide_eq_true_eq] at this
  omega
theorem g0m {sh : List Int} {w : Bool} (h : sh.length ≤ 4) : u8 (if w = true then (sh.length : Int) + 8 else sh.length) = (if w = true then (sh.length : Int) + 8 else sh.length) ∧ ¬ 16 ≤ u8 (if w = true then (sh.length : Int) + 8 else sh.length) ∧ decide (u8 (if w = true then (sh.length : Int) + 8 else sh.length) / 8 % 2 = 1) = w ∧ (u8 (if w = true then (sh.length : Int) + 8 else sh.length) % 8).toNat = sh.length := by
  rw [c3q]
  cases w
  · simp only [Bool.false_eq_true, if_false, decide_eq_false_iff_not]
    omega
  · simp only [if_true, decide_eq_true_eq]
    omega
theorem c1e {sh : List Int} {w : Bool} {d : List Int} (h : (d.length : Int) = a1y sh) : (a2p sh w).toNat = wid w * d.length := by
  unfold a2p wid
  cases w <;> simp <;> omega
theorem c2c {b : List Int} {w : Bool} {n : Nat} {sh r : List Int} (hl : sh.length = n) (hr : ∀ x ∈ sh, 0 ≤ x ∧ x ≤ 65535) (h : b.drop 1 = sh.flatMap le2 ++ r) : a60 b w n [] 1 = c1d b w sh (1 + (sh.flatMap le2).length) := by
  unfold a60
  rw [c0b, (b4j n).comp b 1 sh r ⟨hl, hr⟩ h]
  rfl
theorem e25 {sh : List Int} {w : Bool} {d r : List Int} (h : a5k sh w d = .nil) : a27 (a3a sh w d ++ r) = ⟨sh, w, d, (a3a sh w d).length, .nil⟩ := by
  obtain ⟨h1, h2, h3⟩ := d1r.1 h
  obtain ⟨l1, l2⟩ := c92 h1
  obtain ⟨k1, k2, k3, k4⟩ := g0m (w := w) l1
  have e : a3a sh w d ++ r = u8 (if w = true then (sh.length : Int) + 8 else sh.length) :: (sh.flatMap le2 ++ (c22 w d ++ r)) := by simp [a3a, a3e]
  have el : (a3a sh w d).length = 1 + (sh.flatMap le2).length + (c22 w d).length := by simp [a3a, a3e]; omega
  rw [e]
  simp only [a27, k2, if_false, k3, k4]
  rw [c2c (sh := sh) (r := c22 w d ++ r) rfl l2 (by simp)]
  unfold c1d
  have hb := c1e (w := w) h2
  have hw := c0o w d
  have hlen : ¬ (u8 (if w = true then (sh.length : Int) + 8 else sh.length) :: (sh.flatMap le2 ++ (c22 w d ++ r))).length < 1 + (sh.flatMap le2).length + (a2p sh w).toNat := by
    simp only [List.length_cons, List.length_append]
    omega
  rw [if_pos (a2x.2 (a29.2 h1)), if_neg hlen, hb, ← hw, ← el]
  have ed : ((u8 (if w = true then (sh.length : Int) + 8 else sh.length) :: (sh.flatMap le2 ++ (c22 w d ++ r))).drop (1 + (sh.flatMap le2).length)).take (c22 w d).length = c22 w d := by
    rw [Nat.add_comm 1, List.drop_succ_cons, List.drop_left, List.take_left]
  rw [ed, ← h2, Int.toNat_natCast, c9y h3]
theorem d99 {sh : List Int} {w : Bool} {d c r : List Int} (h : a5k sh w d = .nil) (hr : r ≠ []) (hc : c ++ r = a3a sh w d) : (a27 c).er = .s 4 := by
  obtain ⟨h1, h2, h3⟩ := d1r.1 h
  obtain ⟨l1, l2⟩ := c92 h1
  obtain ⟨k1, k2, k3, k4⟩ := g0m (w := w) l1
  have e : a3a sh w d = u8 (if w = true then (sh.length : Int) + 8 else sh.length) :: (sh.flatMap le2 ++ c22 w d) := by simp [a3a, a3e]
  rw [e] at hc
  cases c with
  | nil => rfl
  | cons x c =>
    simp only [List.cons_append, List.cons.injEq] at hc
    obtain ⟨rfl, hc⟩ := hc
    simp only [a27, k2, if_false, k3, k4]
    rcases List.append_eq_append_iff.1 hc with ⟨p, hp1, hp2⟩ | ⟨p, hp1, hp2⟩
    · by_cases hpn : p = []
      · subst hpn
        rw [c2c (sh := sh) (r := []) rfl l2 (by simpa using hp1.symm)]
        unfold c1d
        have hb := c1e (w := w) h2
        have hw := c0o w d
        have hrl := List.length_pos_iff.2 hr
        have hl2 := congrArg List.length hp2
        have hl1 := congrArg List.length hp1
        simp only [List.length_append, List.length_nil] at hl1 hl2
        rw [if_pos (a2x.2 (a29.2 h1)), if_pos (by simp only [List.length_cons]; omega)]
      · unfold a60
        rw [c0b]
        have := (b4j sh.length).short (u8 (if w = true then (sh.length : Int) + 8 else sh.length) :: c) 1 sh p ⟨rfl, l2⟩ (by simp) hpn (by simpa using hp1.symm)
        rw [a83 this]
        rfl
    · rw [c2c (sh := sh) (r := p) rfl l2 (by simpa using hp1)]
      unfold c1d
      have hb := c1e (w := w) h2
      have hw := c0o w d
      have hrl := List.length_pos_iff.2 hr
      have hl2 := congrArg List.length hp2
      have hl1 := congrArg List.length hp1
      simp only [List.length_append, List.length_nil] at hl1 hl2
      rw [if_pos (a2x.2 (a29.2 h1)), if_pos (by simp only [List.length_cons]; omega)]
theorem d98 {c : List Int} (hB : a1l c) (h : (a27 c).er = .nil) : a5k (a27 c).sh (a27 c).wide (a27 c).data = .nil ∧ c = a3a (a27 c).sh (a27 c).wide (a27 c).data ++ c.drop (a27 c).at_ ∧ (a27 c).at_ ≤ c.length := by
  cases c with
  | nil => simp [a27] at h
  | cons x r =>
    have hx := hB x (by simp)
    simp only [a27] at h ⊢
    by_cases h16 : 16 ≤ x
    · simp [h16] at h
    · simp only [h16, if_false] at h ⊢
      generalize hw : decide (x / 8 % 2 = 1) = w at *
      generalize hn : (x % 8).toNat = n at *
      unfold a60 at h ⊢
      rw [c0b] at h ⊢
      cases he : (a2g (a0n (x :: r)) n [] ⟨1, .nil⟩).2.err.isNil with
      | false =>
        rw [he] at h
        simp at h
      | true =>
        rw [he] at h
        obtain ⟨g1, g2, g3⟩ := (b4j n).sound (x :: r) 1 hB (by simp) (a2x.1 he)
        simp only [if_true] at h ⊢
        generalize a2g (a0n (x :: r)) n [] ⟨1, .nil⟩ = p at *
        obtain ⟨sh, a, e⟩ := p
        simp only at g1 g2 g3 h ⊢
        unfold c1d at h ⊢
        cases hd : (b5w sh).isNil with
        | false =>
          rw [hd] at h
          simp only [Bool.false_eq_true, if_false] at h
          rw [h] at hd
          cases hd
        | true =>
          rw [hd] at h
          simp only [if_true] at h ⊢
          by_cases hlt : (x :: r).length < a + (a2p sh w).toNat
          · rw [if_pos hlt] at h
            cases h
          · rw [if_neg hlt] at h ⊢
            simp only
            have hok := a29.1 (a2x.1 hd)
            obtain ⟨l1, l2⟩ := c92 hok
            have hel := a4t sh
            have hlen : (((a1y sh).toNat : Nat) : Int) = a1y sh := by omega
            have hbw : (a2p sh w).toNat = wid w * (a1y sh).toNat := by
              unfold a2p wid
              cases w <;> simp <;> omega
            have hc : (((x :: r).drop a).take (a2p sh w).toNat).length = wid w * (a1y sh).toNat := by
              rw [List.length_take, List.length_drop]
              omega
            obtain ⟨q1, q2⟩ := c9b (w := w) (n := (a1y sh).toNat) (c := ((x :: r).drop a).take (a2p sh w).toNat) (fun y hy => hB y (List.mem_of_mem_drop (List.mem_of_mem_take hy))) hc
            have hnl : (b7h w (((x :: r).drop a).take (a2p sh w).toNat) (a1y sh).toNat).length = (a1y sh).toNat := by simp [b7h]
            refine ⟨d1r.2 ⟨hok, by rw [hnl, hlen], q2⟩, ?_, by omega⟩
            unfold a3a a3e
            rw [q1, List.append_assoc]
            have e1 : ((x :: r).drop a).take (a2p sh w).toNat ++ (x :: r).drop (a + (a2p sh w).toNat) = (x :: r).drop a := by
              rw [← List.drop_drop, List.take_append_drop]
            rw [e1, List.cons_append, ← g2]
            have hxe : u8 (if w = true then (sh.length : Int) + 8 else sh.length) = x := by
              rw [c3q, g1.1]
              cases w
              · simp at hw ⊢; omega
              · simp at hw ⊢; omega
            rw [hxe]
            rfl
end Go.Ideal.Tryz
end
section
set_option linter.unusedVariables false
set_option linter.unusedSimpArgs false
namespace Go.Ideal.Tryz
theorem e3u {s : Rs} {p : Int} {e : Er} (h : s.err.isNil = true) (he : e.isNil = false) : (c51 s p e).err ≠ .nil := by
  unfold c51
  split
  · intro h2
    simp only at h2
    rw [h2] at he
    cases he
  · rw [if_neg (by rw [he]; simp)]
    exact c33 h he
theorem c9e (p : Int) : Fmt (fun b s => a28 b p s) (fun t => a5k t.1 t.2.1 t.2.2 = .nil) (fun t => a3a t.1 t.2.1 t.2.2) where
  keep := fun b s h => by
    unfold a28
    rw [if_neg (by rw [h]; simp)]
  comp := fun b a v r h1 h2 => by
    obtain ⟨sh, w, d⟩ := v
    simp only at h1 h2 ⊢
    unfold a28
    rw [if_pos (show (⟨a, .nil⟩ : Rs).err.isNil = true from rfl)]
    simp only
    rw [h2, e25 h1]
    rfl
  short := fun b a v r h1 h2 h3 h4 => by
    have h5 := d99 h1 h3 h4
    unfold a28
    rw [if_pos (show (⟨a, .nil⟩ : Rs).err.isNil = true from rfl)]
    simp only
    rw [h5]
    rfl
  sound := fun b a h1 h2 h3 => by
    unfold a28 at h3 ⊢
    rw [if_pos (show (⟨a, .nil⟩ : Rs).err.isNil = true from rfl)] at h3 ⊢
    simp only at h3 ⊢
    cases he : (a27 (b.drop a)).er.isNil with
    | false => exact absurd h3 (e3u rfl he)
    | true =>
      obtain ⟨g1, g2, g3⟩ := d98 (fun x hx => h1 x (List.mem_of_mem_drop hx)) (a2x.1 he)
      rw [List.length_drop] at g3
      refine ⟨g1, ?_, by omega⟩
      rw [List.drop_drop] at g2
      exact g2
instance : Inhabited Nd := ⟨⟨0, [], [], [], false, []⟩⟩
structure Whole {α : Type} (rd : List Int → Rs → α × Rs) (p q : UInt8) (enc : α → List Int) (ok : α → Prop) : Prop where
  back : ∀ v, ok v → (d35 (p.toNat :: q.toNat :: enc v) (rd (p.toNat :: q.toNat :: enc v) (a5a (p.toNat :: q.toNat :: enc v) p q ⟨0, .nil⟩)).2).err = .nil ∧ (rd (p.toNat :: q.toNat :: enc v) (a5a (p.toNat :: q.toNat :: enc v) p q ⟨0, .nil⟩)).1 = v
  cut : ∀ v k, ok v → k < (enc v).length + 2 → (d35 ((p.toNat :: q.toNat :: enc v : List Int).take k) (rd ((p.toNat :: q.toNat :: enc v : List Int).take k) (a5a ((p.toNat :: q.toNat :: enc v : List Int).take k) p q ⟨0, .nil⟩)).2).err = .s 4
  long : ∀ v (x : Int), ok v → (d35 ((p.toNat :: q.toNat :: enc v : List Int) ++ [x]) (rd ((p.toNat :: q.toNat :: enc v : List Int) ++ [x]) (a5a ((p.toNat :: q.toNat :: enc v : List Int) ++ [x]) p q ⟨0, .nil⟩)).2).err = .at ((p.toNat :: q.toNat :: enc v : List Int).length : Int) (.s 2)
  sound : ∀ b, a1l b → (d35 b (rd b (a5a b p q ⟨0, .nil⟩)).2).err = .nil → ok (rd b (a5a b p q ⟨0, .nil⟩)).1 ∧ b = (p.toNat : Int) :: (q.toNat : Int) :: enc (rd b (a5a b p q ⟨0, .nil⟩)).1
theorem c3w (p q : UInt8) (r : List Int) : a5a ((p.toNat : Int) :: (q.toNat : Int) :: r) p q ⟨0, .nil⟩ = ⟨2, .nil⟩ := by
  unfold a5a
  rw [if_neg (by simp)]
  simp
theorem Fmt.whole {α : Type} {rd : List Int → Rs → α × Rs} {ok : α → Prop} {enc : α → List Int} (F : Fmt rd ok enc) (p q : UInt8) : Whole rd p q enc ok where
  back := fun v h => by
    rw [c3w, F.comp _ 2 v [] h (by simp)]
    refine ⟨?_, rfl⟩
    unfold d35
    rw [if_neg (by simp only [List.length_cons]; omega)]
  cut := fun v k h hk => by
    match k, hk with
    | 0, _ =>
      have e : (rd [] (a5a [] p q ⟨0, .nil⟩)).2 = ⟨0, .s 4⟩ := F.keep [] ⟨0, .s 4⟩ rfl
      simp only [List.take_zero]
      rw [e]
      rfl
    | 1, _ =>
      have e : (rd [(p.toNat : Int)] (a5a [(p.toNat : Int)] p q ⟨0, .nil⟩)).2 = ⟨0, .s 4⟩ := F.keep _ ⟨0, .s 4⟩ rfl
      simp only [List.take_succ_cons, List.take_zero]
      rw [e]
      rfl
    | k + 2, hk =>
      have hlt : k < (enc v).length := by omega
      simp only [List.take_succ_cons]
      rw [c3w]
      have hs := F.short ((p.toNat : Int) :: (q.toNat : Int) :: (enc v).take k) 2 v ((enc v).drop k) h (by simp) (by intro hd; have := congrArg List.length hd; simp at this; omega) (by simp)
      unfold d35
      rw [if_neg (by rw [a83 hs]; simp)]
      exact hs
  long := fun v x h => by
    simp only [List.cons_append]
    rw [c3w, F.comp _ 2 v [x] h (by simp)]
    simp only [d35]
    rw [if_pos ⟨rfl, by simp; omega⟩]
    simp only [b77]
    rw [if_pos (show Er.isNil .nil = true from rfl)]
    simp only [List.length_cons]
    congr 1
    omega
  sound := fun b hB h => by
    have hn : ∀ s : Rs, s.err.isNil = false → (d35 b (rd b s).2).err = .nil → False := fun s hs he => by
      rw [F.keep b s hs] at he
      unfold d35 at he
      rw [if_neg (by rw [hs]; simp)] at he
      rw [he] at hs
      cases hs
    by_cases hl : b.length < 2
    · exact absurd h (fun h => hn (a5a b p q ⟨0, .nil⟩) (by unfold a5a; rw [if_pos hl]; rfl) h)
    · match b, hl with
      | [], hl => simp at hl
      | [_], hl => simp at hl
      | x :: y :: r, hl =>
        by_cases hpq : x = p.toNat ∧ y = q.toNat
        · obtain ⟨rfl, rfl⟩ := hpq
          rw [c3w] at h ⊢
          generalize hrd : rd ((p.toNat : Int) :: (q.toNat : Int) :: r) ⟨2, .nil⟩ = o at *
          have hen : o.2.err = .nil ∧ ¬ o.2.at_ < ((p.toNat : Int) :: (q.toNat : Int) :: r).length := by
            unfold d35 at h
            split at h
            · rename_i hc
              exact absurd h (c33 hc.1 rfl)
            · rename_i hc
              exact ⟨h, fun hlt => hc ⟨by rw [h]; rfl, hlt⟩⟩
          obtain ⟨g1, g2, g3⟩ := F.sound _ 2 hB (by simp) (by rw [hrd]; exact hen.1)
          rw [hrd] at g1 g2 g3
          refine ⟨g1, ?_⟩
          have e : ((p.toNat : Int) :: (q.toNat : Int) :: r).drop o.2.at_ = [] := List.drop_eq_nil_of_le (by omega)
          rw [e, List.append_nil] at g2
          simp only [List.drop_succ_cons, List.drop_zero] at g2
          rw [g2]
        · exact absurd h (fun h => hn (a5a (x :: y :: r) p q ⟨0, .nil⟩) (by
            unfold a5a
            rw [if_neg hl]
            simp only
            rw [if_neg (by exact hpq)]
            rfl) h)
end Go.Ideal.Tryz
end
section
set_option linter.unusedVariables false
set_option linter.unusedSimpArgs false
namespace Go.Ideal.Tryz
end Go.Ideal.Tryz
end
