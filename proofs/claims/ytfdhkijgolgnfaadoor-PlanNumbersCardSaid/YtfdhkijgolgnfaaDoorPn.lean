/- Part Pn of the proof: a machine with trees for values, its soundness, and walks on it. -/
import Derived.Test.YtfdhkijgolgnfaaDoorPm
import Derived.Test.YtfdhkijgolgnfaaDoorPi

section
set_option linter.unusedVariables false
set_option linter.unusedSimpArgs false
set_option maxRecDepth 10000
namespace Go.Ideal.Tryd
/-! ### graph.Read -/
theorem rHead_at {b : List Int} {p q : UInt8} {s : Rs} (h : s.at_ ≤ b.length) : (rHead b p q s).at_ ≤ b.length := by
  unfold rHead
  split
  · exact h
  · simp only; omega
theorem rNums_at {rd : Rs → Int × Rs} {b : List Int} (h : ∀ s, s.at_ ≤ b.length → (rd s).2.at_ ≤ b.length) (s : Rs) (ha : s.at_ ≤ b.length) : (rNums b rd s).2.at_ ≤ b.length := rNumsL_at h _ _ _ (rFew_at (fun s h => rByte_at s h) s ha)
section
variable {G : Nat → Option Value} {bk : Nat → Nat × Nat} {Q : Exit → St → Prop} {st : St} {b : List Int}
end
end Go.Ideal.Tryd
end

section
set_option linter.unusedVariables false
set_option linter.unusedSimpArgs false
namespace Go.Ideal.Tryd
/-! ### formats -/
section
variable {α β : Type}
/-- A reader reads what is written so; a cut is told; what it reads is written so. -/
structure Fmt (rd : List Int → Rs → α × Rs) (ok : α → Prop) (enc : α → List Int) : Prop where
  keep : ∀ b s, s.err.isNil = false → (rd b s).2 = s
  comp : ∀ b a v r, ok v → b.drop a = enc v ++ r → rd b ⟨a, .nil⟩ = (v, ⟨a + (enc v).length, .nil⟩)
  short : ∀ b a v r, ok v → a ≤ b.length → r ≠ [] → b.drop a ++ r = enc v → (rd b ⟨a, .nil⟩).2.err = .s 4
  sound : ∀ b a, byteL b → a ≤ b.length → (rd b ⟨a, .nil⟩).2.err = .nil → ok (rd b ⟨a, .nil⟩).1 ∧ b.drop a = enc (rd b ⟨a, .nil⟩).1 ++ b.drop (rd b ⟨a, .nil⟩).2.at_ ∧ (rd b ⟨a, .nil⟩).2.at_ ≤ b.length
theorem drop_app {b e r : List Int} {a : Nat} (h : b.drop a = e ++ r) : b.drop (a + e.length) = r := by
  rw [← List.drop_drop, h, List.drop_left]
theorem not_nil_s4 {s : Rs} (h : s.err = .s 4) : s.err.isNil = false := by rw [h]; rfl
theorem Fmt.of {rd rd' : List Int → Rs → α × Rs} {ok ok' : α → Prop} {enc enc' : α → List Int} (F : Fmt rd ok enc) (hk : ∀ b s, s.err.isNil = false → (rd' b s).2 = s) (hr : ∀ b a, rd' b ⟨a, .nil⟩ = rd b ⟨a, .nil⟩) (hok : ∀ v, ok v ↔ ok' v) (henc : ∀ v, ok' v → enc v = enc' v) : Fmt rd' ok' enc' where
  keep := hk
  comp := fun b a v r h1 h2 => by
    rw [hr, ← henc v h1]
    exact F.comp b a v r ((hok v).2 h1) (by rw [henc v h1]; exact h2)
  short := fun b a v r h1 h2 h3 h4 => by
    rw [hr]
    exact F.short b a v r ((hok v).2 h1) h2 h3 (by rw [henc v h1]; exact h4)
  sound := fun b a h1 h2 h3 => by
    rw [hr] at h3 ⊢
    obtain ⟨g1, g2, g3⟩ := F.sound b a h1 h2 h3
    have g1' := (hok _).1 g1
    exact ⟨g1', by rw [← henc _ g1']; exact g2, g3⟩
theorem Fmt.map {rd : List Int → Rs → α × Rs} {ok : α → Prop} {enc : α → List Int} (F : Fmt rd ok enc) (f : α → β) (g : β → α) (h : ∀ v, ok v → g (f v) = v) : Fmt (fun b s => (f (rd b s).1, (rd b s).2)) (fun w => ok (g w) ∧ f (g w) = w) (fun w => enc (g w)) where
  keep := fun b s hs => F.keep b s hs
  comp := fun b a v r h1 h2 => by
    rw [F.comp b a (g v) r h1.1 h2, h1.2]
  short := fun b a v r h1 h2 h3 h4 => F.short b a (g v) r h1.1 h2 h3 h4
  sound := fun b a h1 h2 h3 => by
    simp only at h3 ⊢
    obtain ⟨g1, g2, g3⟩ := F.sound b a h1 h2 h3
    rw [h _ g1]
    exact ⟨⟨g1, rfl⟩, g2, g3⟩
theorem Fmt.pair {rd : List Int → Rs → α × Rs} {ok : α → Prop} {enc : α → List Int} {rd2 : α → List Int → Rs → β × Rs} {ok2 : α → β → Prop} {enc2 : α → β → List Int} (F : Fmt rd ok enc) (hk : ∀ v b s, s.err.isNil = false → (rd2 v b s).2 = s) (F2 : ∀ v, ok v → Fmt (rd2 v) (ok2 v) (enc2 v)) :
    Fmt (fun b s => (((rd b s).1, (rd2 (rd b s).1 b (rd b s).2).1), (rd2 (rd b s).1 b (rd b s).2).2)) (fun p => ok p.1 ∧ ok2 p.1 p.2) (fun p => enc p.1 ++ enc2 p.1 p.2) where
  keep := fun b s hs => by
    simp only
    rw [F.keep b s hs, hk _ b s hs]
  comp := fun b a v r h1 h2 => by
    obtain ⟨v1, v2⟩ := v
    simp only at h1 h2 ⊢
    rw [List.append_assoc] at h2
    rw [F.comp b a v1 _ h1.1 h2]
    simp only
    rw [(F2 v1 h1.1).comp b _ v2 r h1.2 (drop_app h2)]
    simp [Nat.add_assoc]
  short := fun b a v r h1 h2 h3 h4 => by
    obtain ⟨v1, v2⟩ := v
    simp only at h1 h4 ⊢
    rcases List.append_eq_append_iff.1 h4 with ⟨c, hc1, hc2⟩ | ⟨c, hc1, hc2⟩
    · -- the first part is cut
      cases c with
      | nil =>
        have e : b.drop a = enc v1 ++ [] := by simpa using hc1.symm
        rw [F.comp b a v1 [] h1.1 e]
        simp only
        have h5 := drop_app e
        have h6 := congrArg List.length e
        rw [List.length_drop] at h6
        simp only [List.append_nil] at h6
        exact (F2 v1 h1.1).short b _ v2 r h1.2 (by omega) h3 (by rw [h5]; simpa using hc2)
      | cons x c =>
        have := F.short b a v1 (x :: c) h1.1 h2 (by simp) hc1.symm
        rw [hk _ b _ (not_nil_s4 this), this]
    · have h6 := congrArg List.length hc1
      rw [List.length_drop, List.length_append] at h6
      rw [F.comp b a v1 c h1.1 hc1]
      simp only
      exact (F2 v1 h1.1).short b _ v2 r h1.2 (by omega) h3 (by rw [drop_app hc1]; exact hc2.symm)
  sound := fun b a h1 h2 h3 => by
    simp only at h3 ⊢
    cases he : (rd b ⟨a, .nil⟩).2.err.isNil with
    | false =>
      rw [hk _ b _ he] at h3
      rw [h3] at he
      cases he
    | true =>
      have he := isNil_iff.1 he
      obtain ⟨g1, g2, g3⟩ := F.sound b a h1 h2 he
      have e : (rd b ⟨a, .nil⟩).2 = ⟨(rd b ⟨a, .nil⟩).2.at_, .nil⟩ := by
        cases hh : (rd b ⟨a, .nil⟩).2
        rw [hh] at he
        simp only at he
        rw [he]
      rw [e] at h3 ⊢
      obtain ⟨k1, k2, k3⟩ := (F2 _ g1).sound b _ h1 g3 h3
      exact ⟨⟨g1, k1⟩, by rw [List.append_assoc, ← k2, ← g2], k3⟩
/-! ### bytes and numbers -/
theorem fmt_byte : Fmt rByte (fun x => 0 ≤ x ∧ x ≤ 255) (fun x => [x]) where
  keep := fun b s h => by unfold rByte; simp [h]
  comp := fun b a v r h1 h2 => by
    have hl := congrArg List.length h2
    simp at hl
    have hlt : a < b.length := by omega
    rw [List.drop_eq_getElem_cons hlt] at h2
    simp only [List.cons_append, List.nil_append, List.cons.injEq] at h2
    unfold rByte
    simp [Er.isNil, hlt, h2.1]
  short := fun b a v r h1 h2 h3 h4 => by
    have hl := congrArg List.length h4
    have := List.length_pos_iff.2 h3
    simp only [List.length_append, List.length_drop, List.length_cons, List.length_nil] at hl
    have hlt : ¬ a < b.length := by omega
    unfold rByte
    simp [Er.isNil, hlt]
  sound := fun b a h1 h2 h3 => by
    unfold rByte at h3 ⊢
    simp only [Er.isNil, if_true] at h3 ⊢
    split at h3
    · rename_i hlt
      simp only [hlt, if_true]
      have := h1 _ (List.getElem_mem hlt)
      have e : b[a]! = b[a] := by simp [hlt]
      rw [e]
      exact ⟨this, List.drop_eq_getElem_cons hlt, by omega⟩
    · cases h3
theorem fmt_count : Fmt rCount (fun x => 0 ≤ x ∧ x ≤ 65535) le2 :=
  ((fmt_byte.pair (rd2 := fun _ => rByte) (ok2 := fun _ x => 0 ≤ x ∧ x ≤ 255) (enc2 := fun _ x => [x]) (fun _ => fmt_byte.keep) fun _ _ => fmt_byte).map (fun p => p.1 + p.2 * 256) (fun k => (k % 256, k / 256)) fun p h => by
    obtain ⟨x, y⟩ := p
    simp only at h ⊢
    rw [Prod.mk.injEq]
    omega).of (fun b s h => by unfold rCount; simp only; rw [fmt_byte.keep b s h, fmt_byte.keep b s h]) (fun b a => rfl) (fun v => by simp only; omega) fun v h => by
      have e : v.fdiv 256 = v / 256 := Int.fdiv_eq_ediv_of_nonneg v (by omega)
      have e1 : u8 v = v % 256 := rfl
      have e2 : u8 (v / 256) = v / 256 := by
        have : u8 (v / 256) = (v / 256) % 256 := rfl
        omega
      simp only [le2, e, e1, e2]
      rfl
theorem fmt_number : Fmt rNumber (fun x => -2147483648 ≤ x ∧ x ≤ 2147483647) (put1 true) :=
  ((fmt_count.pair (rd2 := fun _ => rCount) (ok2 := fun _ x => 0 ≤ x ∧ x ≤ 65535) (enc2 := fun _ x => le2 x) (fun _ => fmt_count.keep) fun _ _ => fmt_count).map (fun p => s32 (p.1 + p.2 * 65536)) (fun k => (k % 65536, k / 65536 % 65536)) fun p h => by
    obtain ⟨x, y⟩ := p
    simp only at h ⊢
    rw [Prod.mk.injEq]
    unfold s32
    split <;> omega).of (fun b s h => by unfold rNumber; simp only; rw [fmt_count.keep b s h, fmt_count.keep b s h]) (fun b a => rfl) (fun v => by simp only [s32]; split <;> omega) fun v h => by
      have w8 : ∀ n : Int, u8 n = n % 256 := fun n => rfl
      have e1 : v.fdiv 256 = v / 256 := Int.fdiv_eq_ediv_of_nonneg v (by omega)
      have e2 : v.fdiv 65536 = v / 65536 := Int.fdiv_eq_ediv_of_nonneg v (by omega)
      have e3 : v.fdiv 16777216 = v / 16777216 := Int.fdiv_eq_ediv_of_nonneg v (by omega)
      have e4 : (v % 65536).fdiv 256 = (v % 65536) / 256 := Int.fdiv_eq_ediv_of_nonneg _ (by omega)
      have e5 : (v / 65536 % 65536).fdiv 256 = (v / 65536 % 65536) / 256 := Int.fdiv_eq_ediv_of_nonneg _ (by omega)
      simp only [le2, put1, if_true, e1, e2, e3, e4, e5, w8, List.cons_append, List.nil_append, List.cons.injEq, and_true]
      omega
theorem rdBad_nn {s : Rs} {p : Int} {e : Er} (h : s.err.isNil = true) (he : e.isNil = false) : (rdBad s p e).err ≠ .nil := by
  unfold rdBad
  rw [if_pos h]
  simp
theorem Fmt.few {rd : List Int → Rs → Int × Rs} {ok : Int → Prop} {enc : Int → List Int} (F : Fmt rd ok enc) (most : Int) : Fmt (fun b s => rFew most (rd b) s) (fun v => ok v ∧ v ≤ most) enc where
  keep := fun b s h => by
    have := F.keep b s h
    unfold rFew
    rw [this, h]
    rfl
  comp := fun b a v r h1 h2 => by
    unfold rFew
    simp only [F.comp b a v r h1.1 h2, Er.isNil, if_true, show ¬ most < v by omega, if_false]
  short := fun b a v r h1 h2 h3 h4 => by
    have := F.short b a v r h1.1 h2 h3 h4
    unfold rFew
    rw [if_neg (by rw [not_nil_s4 this]; simp)]
    exact this
  sound := fun b a h1 h2 h3 => by
    unfold rFew at h3 ⊢
    cases he : (rd b ⟨a, .nil⟩).2.err.isNil with
    | false =>
      rw [he] at h3
      simp only [Bool.false_eq_true, if_false] at h3
      rw [h3] at he
      cases he
    | true =>
      rw [he] at h3
      by_cases hm : most < (rd b ⟨a, .nil⟩).1
      · simp only [hm, if_true] at h3
        exact absurd h3 (rdBad_nn he rfl)
      · simp only [hm, if_true, if_false]
        obtain ⟨g1, g2, g3⟩ := F.sound b a h1 h2 (isNil_iff.1 he)
        exact ⟨⟨g1, by omega⟩, g2, g3⟩
/-! ### so many, one after another -/
def rdSeq (rd : Nat → List Int → Rs → α × Rs) (b : List Int) : Nat → Nat → List α → Rs → List α × Rs
  | 0, _, l, s => (l, s)
  | n + 1, i, l, s => if s.err.isNil = true then rdSeq rd b n (i + 1) (l ++ [(rd i b s).1]) (rd i b s).2 else (l, s)
theorem rdSeq_acc {rd : Nat → List Int → Rs → α × Rs} {b : List Int} : ∀ (n i : Nat) (l : List α) (s : Rs), rdSeq rd b n i l s = (l ++ (rdSeq rd b n i [] s).1, (rdSeq rd b n i [] s).2)
  | 0, i, l, s => by simp [rdSeq]
  | n + 1, i, l, s => by
    rw [rdSeq, rdSeq]
    split
    · rw [rdSeq_acc n (i + 1) (l ++ _), rdSeq_acc n (i + 1) ([] ++ _)]
      simp
    · simp
theorem rNumsL_loop {rd : List Int → Rs → Int × Rs} {b : List Int} : ∀ (n i : Nat) (l : List Int) (s : Rs), rNumsL (rd b) n l s = rdSeq (fun _ => rd) b n i l s
  | 0, i, l, s => rfl
  | n + 1, i, l, s => by
    rw [rNumsL, rdSeq, rNumsL_loop n (i + 1)]
theorem rdSeq_keep {rd : Nat → List Int → Rs → α × Rs} {b : List Int} {s : Rs} (h : s.err.isNil = false) : ∀ (n i : Nat) (l : List α), rdSeq rd b n i l s = (l, s)
  | 0, _, _ => rfl
  | n + 1, i, l => by rw [rdSeq, h]; rfl
theorem Fmt.loop [Inhabited α] {rd : Nat → List Int → Rs → α × Rs} {ok : α → Prop} {enc : α → List Int} (F : ∀ i, Fmt (rd i) ok enc) : ∀ n i : Nat, Fmt (fun b s => rdSeq rd b n i [] s) (fun l => l.length = n ∧ ∀ x ∈ l, ok x) (·.flatMap enc)
  | 0, i =>
    { keep := fun b s h => rfl
      comp := fun b a v r h1 h2 => by
        obtain rfl := List.length_eq_zero_iff.1 h1.1
        simp [rdSeq]
      short := fun b a v r h1 h2 h3 h4 => by
        obtain rfl := List.length_eq_zero_iff.1 h1.1
        exact absurd (List.append_eq_nil_iff.1 h4).2 h3
      sound := fun b a h1 h2 h3 => ⟨by simp [rdSeq], by simp [rdSeq], h2⟩ }
  | n + 1, i => by
    refine (((F i).pair (rd2 := fun _ b s => rdSeq rd b n (i + 1) [] s) (fun _ b s h => by rw [rdSeq_keep h]) fun _ _ => Fmt.loop F n (i + 1)).map (fun p => p.1 :: p.2) (fun l => (l.headD default, l.tail)) fun p h => rfl).of (fun b s h => by rw [rdSeq_keep h]) (fun b a => ?_) (fun v => ?_) fun v h => ?_
    · simp only [rdSeq, Er.isNil, if_true]
      rw [rdSeq_acc]
      rfl
    · cases v with
      | nil => simp
      | cons x v => simp only [List.headD_cons, List.tail_cons, List.length_cons, List.mem_cons, forall_eq_or_imp, and_true]; exact ⟨fun h => ⟨by omega, h.1, h.2.2⟩, fun h => ⟨h.2.1, by omega, h.2.2⟩⟩
    · cases v with
      | nil => simp at h
      | cons x v => rfl
end
/-- A byte that tells how many, and these. -/
theorem Fmt.nums {rd : List Int → Rs → Int × Rs} {ok : Int → Prop} {enc : Int → List Int} (F : Fmt rd ok enc) : Fmt (fun b s => rNums b (rd b) s) (fun l => l.length ≤ 8 ∧ ∀ x ∈ l, ok x) (fun l => u8 l.length :: l.flatMap enc) := by
  have fb := fmt_byte.few 8
  refine ((fb.pair (rd2 := fun m b s => rdSeq (fun _ => rd) b m.toNat 0 [] s) (ok2 := fun m l => l.length = m.toNat ∧ ∀ x ∈ l, ok x) (enc2 := fun _ l => l.flatMap enc) (fun m b s h => by rw [rdSeq_keep h]) fun m _ => Fmt.loop (fun _ => F) m.toNat 0).map (fun p => p.2) (fun l => ((l.length : Int), l)) fun p h => ?_).of (fun b s h => ?_) (fun b a => ?_) (fun v => ?_) fun v h => ?_
  · obtain ⟨m, l⟩ := p
    simp only at h ⊢
    rw [Prod.mk.injEq]
    exact ⟨by omega, rfl⟩
  · unfold rNums
    rw [fb.keep b s h, rNumsL_loop _ 0, rdSeq_keep h]
  · unfold rNums
    rw [rNumsL_loop _ 0]
  · simp only [Int.toNat_natCast, and_true, true_and]
    constructor
    · intro h; exact ⟨by omega, h.2⟩
    · intro h; exact ⟨by omega, h.2⟩
  · simp only [List.singleton_append, List.cons.injEq, and_true]
    have : u8 (v.length : Int) = (v.length : Int) % 256 := rfl
    omega
end Go.Ideal.Tryd
end

section
set_option linter.unusedVariables false
set_option linter.unusedSimpArgs false
namespace Go.Ideal.Tryd
/-! ### tensors, as they are written -/
theorem rdDims_eq {b : List Int} : ∀ (n : Nat) (l : List Int) (a : Nat), rdDims b n l a = if (rNumsL (rCount b) n l ⟨a, .nil⟩).2.err.isNil = true then some ((rNumsL (rCount b) n l ⟨a, .nil⟩).1, (rNumsL (rCount b) n l ⟨a, .nil⟩).2.at_) else none
  | 0, l, a => by simp [rdDims, rNumsL, Er.isNil]
  | n + 1, l, a => by
    rw [rdDims, rNumsL, if_pos (show (⟨a, .nil⟩ : Rs).err.isNil = true from rfl)]
    by_cases h : b.length < a + 2
    · have e : (rCount b ⟨a, .nil⟩).2.err.isNil = false := by
        unfold rCount rByte
        by_cases h2 : a < b.length
        · have h3 : ¬ a + 1 < b.length := by omega
          simp [Er.isNil, h2, h3]
        · simp [Er.isNil, h2]
      rw [if_pos h, rNumsL_loop _ 0, rdSeq_keep e]
      simp only [e, Bool.false_eq_true, if_false]
    · have h2 : a < b.length := by omega
      have h3 : a + 1 < b.length := by omega
      have e : rCount b ⟨a, .nil⟩ = (b[a]! + b[a + 1]! * 256, ⟨a + 2, .nil⟩) := by
        unfold rCount rByte
        simp [Er.isNil, h2, h3]
      rw [if_neg h, e, rdDims_eq n]
theorem fmt_dims (n : Nat) : Fmt (fun b s => rNumsL (rCount b) n [] s) (fun l => l.length = n ∧ ∀ x ∈ l, 0 ≤ x ∧ x ≤ 65535) (·.flatMap le2) :=
  (Fmt.loop (fun _ => fmt_count) n 0).of (fun b s h => by rw [rNumsL_loop _ 0, rdSeq_keep h]) (fun b a => by rw [rNumsL_loop _ 0]) (fun _ => Iff.rfl) fun _ _ => rfl
/-! the numbers -/
def wid (w : Bool) : Nat := if w = true then 4 else 1
theorem get_drop (c : List Int) (k i : Nat) : (c.drop k)[i]! = c[k + i]! := by
  simp [List.getElem!_eq_getElem?_getD, List.getElem?_drop]
theorem takeB_drop (w : Bool) (c : List Int) (i : Nat) : takeB w (c.drop (wid w)) i = takeB w c (i + 1) := by
  cases w
  · simp only [takeB, wid, Bool.false_eq_true, if_false, get_drop, Nat.add_comm 1 i]
  · simp only [takeB, wid, if_true, get_drop, show 4 + 4 * i = 4 * (i + 1) by omega, show 4 + (4 * i + 1) = 4 * (i + 1) + 1 by omega, show 4 + (4 * i + 2) = 4 * (i + 1) + 2 by omega, show 4 + (4 * i + 3) = 4 * (i + 1) + 3 by omega]
theorem numsB_succ (w : Bool) (c : List Int) (n : Nat) : numsB w c (n + 1) = takeB w c 0 :: numsB w (c.drop (wid w)) n := by
  unfold numsB
  rw [List.range_succ_eq_map]
  simp only [List.map_cons, List.map_map, List.cons.injEq, true_and]
  apply List.map_congr_left
  intro i _
  exact (takeB_drop w c i).symm
theorem put1_wid (w : Bool) (x : Int) : (put1 w x).length = wid w := by unfold put1 wid; split <;> rfl
theorem u8_eq (n : Int) : u8 n = n % 256 := rfl
theorem take_put1 {w : Bool} {x : Int} (h : fitsB x w = true) (r : List Int) : takeB w (put1 w x ++ r) 0 = x := by
  cases w
  · simp only [fitsB, Bool.false_eq_true, if_false, decide_eq_true_eq] at h
    simp only [takeB, put1, Bool.false_eq_true, if_false, u8_eq, s8]
    simp
    split <;> omega
  · simp only [fitsB, if_true, decide_eq_true_eq] at h
    have e1 : x.fdiv 256 = x / 256 := Int.fdiv_eq_ediv_of_nonneg _ (by omega)
    have e2 : x.fdiv 65536 = x / 65536 := Int.fdiv_eq_ediv_of_nonneg _ (by omega)
    have e3 : x.fdiv 16777216 = x / 16777216 := Int.fdiv_eq_ediv_of_nonneg _ (by omega)
    simp only [takeB, put1, if_true, u8_eq, s32, e1, e2, e3]
    simp
    split <;> omega
theorem numsB_rawB {w : Bool} : ∀ {d : List Int}, (∀ x ∈ d, fitsB x w = true) → numsB w (rawB w d) d.length = d
  | [], _ => rfl
  | x :: d, h => by
    have e : rawB w (x :: d) = put1 w x ++ rawB w d := rfl
    rw [List.length_cons, numsB_succ, e, take_put1 (h x (by simp)), ← put1_wid w x, List.drop_left, numsB_rawB fun y hy => h y (by simp [hy])]
theorem put_take {w : Bool} {c : List Int} (hB : byteL c) (h : wid w ≤ c.length) : put1 w (takeB w c 0) ++ c.drop (wid w) = c ∧ fitsB (takeB w c 0) w = true := by
  cases w
  · simp only [wid, Bool.false_eq_true, if_false] at h
    match c, h, hB with
    | x :: r, _, hB =>
      have := hB x (by simp)
      simp only [put1, takeB, wid, Bool.false_eq_true, if_false, u8_eq, s8, fitsB, decide_eq_true_eq]
      simp
      constructor <;> split <;> omega
  · simp only [wid, if_true] at h
    match c, h, hB with
    | x :: y :: z :: v :: r, _, hB =>
      have h1 := hB x (by simp)
      have h2 := hB y (by simp)
      have h3 := hB z (by simp)
      have h4 := hB v (by simp)
      have et : takeB true (x :: y :: z :: v :: r) 0 = s32 (x + y * 256 + z * 65536 + v * 16777216) := rfl
      rw [et]
      have hr : -2147483648 ≤ s32 (x + y * 256 + z * 65536 + v * 16777216) ∧ s32 (x + y * 256 + z * 65536 + v * 16777216) ≤ 2147483647 := by unfold s32; split <;> omega
      refine ⟨?_, by simp only [fitsB, if_true, decide_eq_true_eq]; exact hr⟩
      have e1 : ∀ n : Int, n.fdiv 256 = n / 256 := fun n => Int.fdiv_eq_ediv_of_nonneg _ (by omega)
      have e2 : ∀ n : Int, n.fdiv 65536 = n / 65536 := fun n => Int.fdiv_eq_ediv_of_nonneg _ (by omega)
      have e3 : ∀ n : Int, n.fdiv 16777216 = n / 16777216 := fun n => Int.fdiv_eq_ediv_of_nonneg _ (by omega)
      simp only [put1, if_true, wid, u8_eq, e1, e2, e3, List.drop_succ_cons, List.drop_zero, List.cons_append, List.nil_append, List.cons.injEq, and_true]
      unfold s32
      split <;> omega
theorem rawB_numsB {w : Bool} : ∀ {n : Nat} {c : List Int}, byteL c → c.length = wid w * n → rawB w (numsB w c n) = c ∧ ∀ x ∈ numsB w c n, fitsB x w = true
  | 0, c, hB, h => by
    have : c = [] := List.length_eq_zero_iff.1 (by omega)
    subst this
    exact ⟨rfl, by simp [numsB]⟩
  | n + 1, c, hB, h => by
    have hw : 0 < wid w := by unfold wid; split <;> omega
    rw [Nat.mul_succ] at h
    obtain ⟨p1, p2⟩ := put_take (w := w) hB (by omega)
    obtain ⟨q1, q2⟩ := rawB_numsB (w := w) (n := n) (c := c.drop (wid w)) (fun x hx => hB x (List.mem_of_mem_drop hx)) (by rw [List.length_drop]; omega)
    rw [numsB_succ]
    refine ⟨?_, ?_⟩
    · show put1 w _ ++ rawB w _ = c
      rw [q1, p1]
    · intro x hx
      rcases List.mem_cons.1 hx with rfl | hx
      · exact p2
      · exact q2 x hx
theorem rawB_len' (w : Bool) : ∀ d : List Int, (rawB w d).length = wid w * d.length
  | [] => rfl
  | x :: d => by
    have e : rawB w (x :: d) = put1 w x ++ rawB w d := rfl
    rw [e, List.length_append, put1_wid, rawB_len' w d, List.length_cons, Nat.mul_succ]
    omega
theorem firstBad_none {w : Bool} : ∀ {d : List Int} {i : Nat}, firstBad w d i = none ↔ ∀ x ∈ d, fitsB x w = true
  | [], i => by simp [firstBad]
  | x :: d, i => by
    unfold firstBad
    by_cases h : fitsB x w = true
    · simp [h, firstBad_none (d := d)]
    · simp [h]
theorem tvErr_ok {sh : List Int} {w : Bool} {d : List Int} : tvErr sh w d = .nil ↔ shOk sh = true ∧ (d.length : Int) = elemsI sh ∧ ∀ x ∈ d, fitsB x w = true := by
  unfold tvErr
  by_cases h : shOk sh = true
  · by_cases h2 : (d.length : Int) = elemsI sh
    · simp only [h, h2, if_true, true_and]
      rw [← firstBad_none (i := 0)]
      cases firstBad w d 0 <;> simp [posErr]
    · simp [h, h2]
  · simp only [h, if_false, Bool.false_eq_true, false_and, iff_false]
    exact fun hh => h (dvErr_ok.1 hh)
/-! the whole -/
theorem shOk_len {sh : List Int} (h : shOk sh = true) : sh.length ≤ 4 ∧ ∀ x ∈ sh, 0 ≤ x ∧ x ≤ 65535 := by
  simp only [shOk, Bool.and_eq_true, decide_eq_true_eq, List.all_eq_true] at h
  refine ⟨h.1.1, fun x hx => ?_⟩
  have := h.1.2 x hx
  simp only [dimOk, decide_eq_true_eq] at this
  omega
theorem tHead {sh : List Int} {w : Bool} (h : sh.length ≤ 4) : u8 (if w = true then (sh.length : Int) + 8 else sh.length) = (if w = true then (sh.length : Int) + 8 else sh.length) ∧ ¬ 16 ≤ u8 (if w = true then (sh.length : Int) + 8 else sh.length) ∧ decide (u8 (if w = true then (sh.length : Int) + 8 else sh.length) / 8 % 2 = 1) = w ∧ (u8 (if w = true then (sh.length : Int) + 8 else sh.length) % 8).toNat = sh.length := by
  rw [u8_eq]
  cases w
  · simp only [Bool.false_eq_true, if_false, decide_eq_false_iff_not]
    omega
  · simp only [if_true, decide_eq_true_eq]
    omega
theorem bytesI_wid {sh : List Int} {w : Bool} {d : List Int} (h : (d.length : Int) = elemsI sh) : (bytesI sh w).toNat = wid w * d.length := by
  unfold bytesI wid
  cases w <;> simp <;> omega
theorem tDims_dims {b : List Int} {w : Bool} {n : Nat} {sh r : List Int} (hl : sh.length = n) (hr : ∀ x ∈ sh, 0 ≤ x ∧ x ≤ 65535) (h : b.drop 1 = sh.flatMap le2 ++ r) : tDims b w n [] 1 = tRest b w sh (1 + (sh.flatMap le2).length) := by
  unfold tDims
  rw [rdDims_eq, (fmt_dims n).comp b 1 sh r ⟨hl, hr⟩ h]
  rfl
theorem tRead_comp {sh : List Int} {w : Bool} {d r : List Int} (h : tvErr sh w d = .nil) : tRead (tBytes sh w d ++ r) = ⟨sh, w, d, (tBytes sh w d).length, .nil⟩ := by
  obtain ⟨h1, h2, h3⟩ := tvErr_ok.1 h
  obtain ⟨l1, l2⟩ := shOk_len h1
  obtain ⟨k1, k2, k3, k4⟩ := tHead (w := w) l1
  have e : tBytes sh w d ++ r = u8 (if w = true then (sh.length : Int) + 8 else sh.length) :: (sh.flatMap le2 ++ (rawB w d ++ r)) := by simp [tBytes, dBytes]
  have el : (tBytes sh w d).length = 1 + (sh.flatMap le2).length + (rawB w d).length := by simp [tBytes, dBytes]; omega
  rw [e]
  simp only [tRead, k2, if_false, k3, k4]
  rw [tDims_dims (sh := sh) (r := rawB w d ++ r) rfl l2 (by simp)]
  unfold tRest
  have hb := bytesI_wid (w := w) h2
  have hw := rawB_len' w d
  have hlen : ¬ (u8 (if w = true then (sh.length : Int) + 8 else sh.length) :: (sh.flatMap le2 ++ (rawB w d ++ r))).length < 1 + (sh.flatMap le2).length + (bytesI sh w).toNat := by
    simp only [List.length_cons, List.length_append]
    omega
  rw [if_pos (isNil_iff.2 (dvErr_ok.2 h1)), if_neg hlen, hb, ← hw, ← el]
  have ed : ((u8 (if w = true then (sh.length : Int) + 8 else sh.length) :: (sh.flatMap le2 ++ (rawB w d ++ r))).drop (1 + (sh.flatMap le2).length)).take (rawB w d).length = rawB w d := by
    rw [Nat.add_comm 1, List.drop_succ_cons, List.drop_left, List.take_left]
  rw [ed, ← h2, Int.toNat_natCast, numsB_rawB h3]
theorem tRead_short {sh : List Int} {w : Bool} {d c r : List Int} (h : tvErr sh w d = .nil) (hr : r ≠ []) (hc : c ++ r = tBytes sh w d) : (tRead c).er = .s 4 := by
  obtain ⟨h1, h2, h3⟩ := tvErr_ok.1 h
  obtain ⟨l1, l2⟩ := shOk_len h1
  obtain ⟨k1, k2, k3, k4⟩ := tHead (w := w) l1
  have e : tBytes sh w d = u8 (if w = true then (sh.length : Int) + 8 else sh.length) :: (sh.flatMap le2 ++ rawB w d) := by simp [tBytes, dBytes]
  rw [e] at hc
  cases c with
  | nil => rfl
  | cons x c =>
    simp only [List.cons_append, List.cons.injEq] at hc
    obtain ⟨rfl, hc⟩ := hc
    simp only [tRead, k2, if_false, k3, k4]
    rcases List.append_eq_append_iff.1 hc with ⟨p, hp1, hp2⟩ | ⟨p, hp1, hp2⟩
    · by_cases hpn : p = []
      · subst hpn
        rw [tDims_dims (sh := sh) (r := []) rfl l2 (by simpa using hp1.symm)]
        unfold tRest
        have hb := bytesI_wid (w := w) h2
        have hw := rawB_len' w d
        have hrl := List.length_pos_iff.2 hr
        have hl2 := congrArg List.length hp2
        have hl1 := congrArg List.length hp1
        simp only [List.length_append, List.length_nil] at hl1 hl2
        rw [if_pos (isNil_iff.2 (dvErr_ok.2 h1)), if_pos (by simp only [List.length_cons]; omega)]
      · unfold tDims
        rw [rdDims_eq]
        have := (fmt_dims sh.length).short (u8 (if w = true then (sh.length : Int) + 8 else sh.length) :: c) 1 sh p ⟨rfl, l2⟩ (by simp) hpn (by simpa using hp1.symm)
        rw [not_nil_s4 this]
        rfl
    · rw [tDims_dims (sh := sh) (r := p) rfl l2 (by simpa using hp1)]
      unfold tRest
      have hb := bytesI_wid (w := w) h2
      have hw := rawB_len' w d
      have hrl := List.length_pos_iff.2 hr
      have hl2 := congrArg List.length hp2
      have hl1 := congrArg List.length hp1
      simp only [List.length_append, List.length_nil] at hl1 hl2
      rw [if_pos (isNil_iff.2 (dvErr_ok.2 h1)), if_pos (by simp only [List.length_cons]; omega)]
theorem tRead_sound {c : List Int} (hB : byteL c) (h : (tRead c).er = .nil) : tvErr (tRead c).sh (tRead c).wide (tRead c).data = .nil ∧ c = tBytes (tRead c).sh (tRead c).wide (tRead c).data ++ c.drop (tRead c).at_ ∧ (tRead c).at_ ≤ c.length := by
  cases c with
  | nil => simp [tRead] at h
  | cons x r =>
    have hx := hB x (by simp)
    simp only [tRead] at h ⊢
    by_cases h16 : 16 ≤ x
    · simp [h16] at h
    · simp only [h16, if_false] at h ⊢
      generalize hw : decide (x / 8 % 2 = 1) = w at *
      generalize hn : (x % 8).toNat = n at *
      unfold tDims at h ⊢
      rw [rdDims_eq] at h ⊢
      cases he : (rNumsL (rCount (x :: r)) n [] ⟨1, .nil⟩).2.err.isNil with
      | false =>
        rw [he] at h
        simp at h
      | true =>
        rw [he] at h
        obtain ⟨g1, g2, g3⟩ := (fmt_dims n).sound (x :: r) 1 hB (by simp) (isNil_iff.1 he)
        simp only [if_true] at h ⊢
        generalize rNumsL (rCount (x :: r)) n [] ⟨1, .nil⟩ = p at *
        obtain ⟨sh, a, e⟩ := p
        simp only at g1 g2 g3 h ⊢
        unfold tRest at h ⊢
        cases hd : (dvErr sh).isNil with
        | false =>
          rw [hd] at h
          simp only [Bool.false_eq_true, if_false] at h
          rw [h] at hd
          cases hd
        | true =>
          rw [hd] at h
          simp only [if_true] at h ⊢
          by_cases hlt : (x :: r).length < a + (bytesI sh w).toNat
          · rw [if_pos hlt] at h
            cases h
          · rw [if_neg hlt] at h ⊢
            simp only
            have hok := dvErr_ok.1 (isNil_iff.1 hd)
            obtain ⟨l1, l2⟩ := shOk_len hok
            have hel := elemsI_rng sh
            have hlen : (((elemsI sh).toNat : Nat) : Int) = elemsI sh := by omega
            have hbw : (bytesI sh w).toNat = wid w * (elemsI sh).toNat := by
              unfold bytesI wid
              cases w <;> simp <;> omega
            have hc : (((x :: r).drop a).take (bytesI sh w).toNat).length = wid w * (elemsI sh).toNat := by
              rw [List.length_take, List.length_drop]
              omega
            obtain ⟨q1, q2⟩ := rawB_numsB (w := w) (n := (elemsI sh).toNat) (c := ((x :: r).drop a).take (bytesI sh w).toNat) (fun y hy => hB y (List.mem_of_mem_drop (List.mem_of_mem_take hy))) hc
            have hnl : (numsB w (((x :: r).drop a).take (bytesI sh w).toNat) (elemsI sh).toNat).length = (elemsI sh).toNat := by simp [numsB]
            refine ⟨tvErr_ok.2 ⟨hok, by rw [hnl, hlen], q2⟩, ?_, by omega⟩
            unfold tBytes dBytes
            rw [q1, List.append_assoc]
            have e1 : ((x :: r).drop a).take (bytesI sh w).toNat ++ (x :: r).drop (a + (bytesI sh w).toNat) = (x :: r).drop a := by
              rw [← List.drop_drop, List.take_append_drop]
            rw [e1, List.cons_append, ← g2]
            have hxe : u8 (if w = true then (sh.length : Int) + 8 else sh.length) = x := by
              rw [u8_eq, g1.1]
              cases w
              · simp at hw ⊢; omega
              · simp at hw ⊢; omega
            rw [hxe]
            rfl
end Go.Ideal.Tryd
end

section
set_option linter.unusedVariables false
set_option linter.unusedSimpArgs false
namespace Go.Ideal.Tryd
/-! ### graphs, as they are written -/
theorem rdFail_nn {s : Rs} {p : Int} {e : Er} (h : s.err.isNil = true) (he : e.isNil = false) : (rdFail s p e).err ≠ .nil := by
  unfold rdFail
  split
  · intro h2
    simp only at h2
    rw [h2] at he
    cases he
  · rw [if_neg (by rw [he]; simp)]
    exact rdBad_nn h he
theorem fmt_tensor (p : Int) : Fmt (fun b s => rTensor b p s) (fun t => tvErr t.1 t.2.1 t.2.2 = .nil) (fun t => tBytes t.1 t.2.1 t.2.2) where
  keep := fun b s h => by
    unfold rTensor
    rw [if_neg (by rw [h]; simp)]
  comp := fun b a v r h1 h2 => by
    obtain ⟨sh, w, d⟩ := v
    simp only at h1 h2 ⊢
    unfold rTensor
    rw [if_pos (show (⟨a, .nil⟩ : Rs).err.isNil = true from rfl)]
    simp only
    rw [h2, tRead_comp h1]
    rfl
  short := fun b a v r h1 h2 h3 h4 => by
    have h5 := tRead_short h1 h3 h4
    unfold rTensor
    rw [if_pos (show (⟨a, .nil⟩ : Rs).err.isNil = true from rfl)]
    simp only
    rw [h5]
    rfl
  sound := fun b a h1 h2 h3 => by
    unfold rTensor at h3 ⊢
    rw [if_pos (show (⟨a, .nil⟩ : Rs).err.isNil = true from rfl)] at h3 ⊢
    simp only at h3 ⊢
    cases he : (tRead (b.drop a)).er.isNil with
    | false => exact absurd h3 (rdFail_nn rfl he)
    | true =>
      obtain ⟨g1, g2, g3⟩ := tRead_sound (fun x hx => h1 x (List.mem_of_mem_drop hx)) (isNil_iff.1 he)
      rw [List.length_drop] at g3
      refine ⟨g1, ?_, by omega⟩
      rw [List.drop_drop] at g2
      exact g2
instance : Inhabited Nd := ⟨⟨0, [], [], [], false, []⟩⟩
/-! the whole -/
/-- What is read after two letters: the format as a whole. -/
structure Whole {α : Type} (rd : List Int → Rs → α × Rs) (p q : UInt8) (enc : α → List Int) (ok : α → Prop) : Prop where
  back : ∀ v, ok v → (rEnd (p.toNat :: q.toNat :: enc v) (rd (p.toNat :: q.toNat :: enc v) (rHead (p.toNat :: q.toNat :: enc v) p q ⟨0, .nil⟩)).2).err = .nil ∧ (rd (p.toNat :: q.toNat :: enc v) (rHead (p.toNat :: q.toNat :: enc v) p q ⟨0, .nil⟩)).1 = v
  cut : ∀ v k, ok v → k < (enc v).length + 2 → (rEnd ((p.toNat :: q.toNat :: enc v : List Int).take k) (rd ((p.toNat :: q.toNat :: enc v : List Int).take k) (rHead ((p.toNat :: q.toNat :: enc v : List Int).take k) p q ⟨0, .nil⟩)).2).err = .s 4
  long : ∀ v, ok v → (rEnd ((p.toNat :: q.toNat :: enc v : List Int) ++ [7]) (rd ((p.toNat :: q.toNat :: enc v : List Int) ++ [7]) (rHead ((p.toNat :: q.toNat :: enc v : List Int) ++ [7]) p q ⟨0, .nil⟩)).2).err = .at ((p.toNat :: q.toNat :: enc v : List Int).length : Int) (.s 2)
  sound : ∀ b, byteL b → (rEnd b (rd b (rHead b p q ⟨0, .nil⟩)).2).err = .nil → ok (rd b (rHead b p q ⟨0, .nil⟩)).1 ∧ b = (p.toNat : Int) :: (q.toNat : Int) :: enc (rd b (rHead b p q ⟨0, .nil⟩)).1
theorem rHead_ok (p q : UInt8) (r : List Int) : rHead ((p.toNat : Int) :: (q.toNat : Int) :: r) p q ⟨0, .nil⟩ = ⟨2, .nil⟩ := by
  unfold rHead
  rw [if_neg (by simp)]
  simp
theorem Fmt.whole {α : Type} {rd : List Int → Rs → α × Rs} {ok : α → Prop} {enc : α → List Int} (F : Fmt rd ok enc) (p q : UInt8) : Whole rd p q enc ok where
  back := fun v h => by
    rw [rHead_ok, F.comp _ 2 v [] h (by simp)]
    refine ⟨?_, rfl⟩
    unfold rEnd
    rw [if_neg (by simp only [List.length_cons]; omega)]
  cut := fun v k h hk => by
    match k, hk with
    | 0, _ =>
      have e : (rd [] (rHead [] p q ⟨0, .nil⟩)).2 = ⟨0, .s 4⟩ := F.keep [] ⟨0, .s 4⟩ rfl
      simp only [List.take_zero]
      rw [e]
      rfl
    | 1, _ =>
      have e : (rd [(p.toNat : Int)] (rHead [(p.toNat : Int)] p q ⟨0, .nil⟩)).2 = ⟨0, .s 4⟩ := F.keep _ ⟨0, .s 4⟩ rfl
      simp only [List.take_succ_cons, List.take_zero]
      rw [e]
      rfl
    | k + 2, hk =>
      have hlt : k < (enc v).length := by omega
      simp only [List.take_succ_cons]
      rw [rHead_ok]
      have hs := F.short ((p.toNat : Int) :: (q.toNat : Int) :: (enc v).take k) 2 v ((enc v).drop k) h (by simp) (by intro hd; have := congrArg List.length hd; simp at this; omega) (by simp)
      unfold rEnd
      rw [if_neg (by rw [not_nil_s4 hs]; simp)]
      exact hs
  long := fun v h => by
    simp only [List.cons_append]
    rw [rHead_ok, F.comp _ 2 v [7] h (by simp)]
    simp only [rEnd]
    rw [if_pos ⟨rfl, by simp; omega⟩]
    simp only [rdBad]
    rw [if_pos (show Er.isNil .nil = true from rfl)]
    simp only [List.length_cons]
    congr 1
    omega
  sound := fun b hB h => by
    have hn : ∀ s : Rs, s.err.isNil = false → (rEnd b (rd b s).2).err = .nil → False := fun s hs he => by
      rw [F.keep b s hs] at he
      unfold rEnd at he
      rw [if_neg (by rw [hs]; simp)] at he
      rw [he] at hs
      cases hs
    by_cases hl : b.length < 2
    · exact absurd h (fun h => hn (rHead b p q ⟨0, .nil⟩) (by unfold rHead; rw [if_pos hl]; rfl) h)
    · match b, hl with
      | [], hl => simp at hl
      | [_], hl => simp at hl
      | x :: y :: r, hl =>
        by_cases hpq : x = p.toNat ∧ y = q.toNat
        · obtain ⟨rfl, rfl⟩ := hpq
          rw [rHead_ok] at h ⊢
          generalize hrd : rd ((p.toNat : Int) :: (q.toNat : Int) :: r) ⟨2, .nil⟩ = o at *
          have hen : o.2.err = .nil ∧ ¬ o.2.at_ < ((p.toNat : Int) :: (q.toNat : Int) :: r).length := by
            unfold rEnd at h
            split at h
            · rename_i hc
              exact absurd h (rdBad_nn hc.1 rfl)
            · rename_i hc
              exact ⟨h, fun hlt => hc ⟨by rw [h]; rfl, hlt⟩⟩
          obtain ⟨g1, g2, g3⟩ := F.sound _ 2 hB (by simp) (by rw [hrd]; exact hen.1)
          rw [hrd] at g1 g2 g3
          refine ⟨g1, ?_⟩
          have e : ((p.toNat : Int) :: (q.toNat : Int) :: r).drop o.2.at_ = [] := List.drop_eq_nil_of_le (by omega)
          rw [e, List.append_nil] at g2
          simp only [List.drop_succ_cons, List.drop_zero] at g2
          rw [g2]
        · exact absurd h (fun h => hn (rHead (x :: y :: r) p q ⟨0, .nil⟩) (by
            unfold rHead
            rw [if_neg hl]
            simp only
            rw [if_neg (by exact hpq)]
            rfl) h)
end Go.Ideal.Tryd
end

section
set_option linter.unusedVariables false
set_option linter.unusedSimpArgs false
namespace Go.Ideal.Tryd
/-! ### graphs and their bytes -/
end Go.Ideal.Tryd
end
