/- Part Qay of the proof: a machine with trees for values, its soundness, and walks on it. -/
import Derived.Test.YtfncabcldhemkaaGreatDoorQax
import Derived.Test.YtfncabcldhemkaaGreatDoorQan
import Derived.Test.YtfncabcldhemkaaGreatDoorQaq
set_option linter.unusedVariables false
set_option linter.unusedSimpArgs false
set_option maxHeartbeats 8000000
set_option maxRecDepth 200000
section
namespace Go.Ideal.Tryz
attribute [local go_sem] eD eT eV
section
variable {G : GG} {bk : Nat -> Nat × Nat} {Q : Exit -> St -> Prop} {st : St}
theorem b1a {e : Er} {r : Dr} (h : (chk e r).2.isNil = true) : e = .nil /\ r.2.isNil = true := by
 unfold chk at h
 split at h
 ·rename_i k; exact ⟨a48.1 k, h⟩
 ·rename_i k; exact absurd h k
theorem b6i {g : Nat} (h : (bad g).2.isNil = true) : False := by simp [bad, Er.isNil] at h
theorem d16 {op : Int} {args : List Int} {ins : List Ds} (h : (opR op args ins).2.isNil = true) : a0x op = true /\ ins.length = a1x op /\ (op = 18 \/ args.length = a1c op) := by
 unfold opR at h
 split at h
 ·rename_i k
  split at h
  ·rename_i k2; exact ⟨k, k2⟩
  ·exact (b6i h).elim
 ·exact (b6i h).elim
theorem c6l {za zb : Int} {a b : Ds} (h : (c0h za zb a b).2.isNil = true) : a03 a.shape = .nil /\ a03 b.shape = .nil /\ a.shape.length = 2 /\ b.shape.length = 2 := by
 obtain ⟨ea, h⟩ := b1a h
 obtain ⟨eb, h⟩ := b1a h
 split at h
 ·rename_i k; exact ⟨ea, eb, k.1, k.2.1⟩
 ·exact (b6i h).elim
theorem c1f {args : List Int} {a b : Ds} (h : (a8l args a b).2.isNil = true) : a03 a.shape = .nil /\ a03 b.shape = .nil /\ a.shape.length = 3 /\ b.shape.length = 4 := by
 obtain ⟨ea, h⟩ := b1a h
 obtain ⟨eb, h⟩ := b1a h
 split at h
 ·rename_i k; exact ⟨ea, eb, k.1, k.2.1⟩
 ·exact (b6i h).elim
theorem b2d {args : List Int} {a : Ds} (h : (a70 args a).2.isNil = true) : a03 a.shape = .nil /\ a.shape.length = 3 /\ 1 <= args[0]! /\ args[0]! <= 16 := by
 obtain ⟨ea, h⟩ := b1a h
 split at h
 ·rename_i k
  split at h
  ·rename_i k2; exact ⟨ea, k, k2.1, k2.2.1⟩
  ·exact (b6i h).elim
 ·exact (b6i h).elim
theorem b85 {a b : Ds} (h : (a3c 16 [a, b]).2.isNil = true) : 0 < a.shape.length := by
 obtain ⟨ea, h⟩ := b1a h
 obtain ⟨eb, h⟩ := b1a h
 rw [a81] at h
 split at h
 ·rename_i k
  exact (of_decide_eq_true (show decide (0 < a.shape.length /\ a.wide = false /\ b = ⟨[256], true⟩) = true from k)).1
 ·exact (b6i h).elim
theorem a9q {op : Int} (ho : op = 19 \/ op = 20) {a : Ds} (h : (a3c op [a]).2.isNil = true) : 0 < a.shape.length := by
 obtain ⟨ea, h⟩ := b1a h
 rw [a81] at h
 have hr : a1m op [a] = (if a.shape.length = 0 then (dn, false) else (⟨a.shape.dropLast, true⟩, true)) := by simp only [a1m, show ¬ op = 16 by omega, show ¬ op = 17 by omega, if_false]; rfl
 rw [hr] at h
 by_cases k : a.shape.length = 0
 ·rw [if_pos k, if_neg (by simp)] at h
  exact (b6i h).elim
 ·omega
theorem g0l (hS : Sent G bk) (op : Int) (args : List Int) (ins : List Ds) (hf : ∀ d ∈ ins, d.shape.length < 2 ^ 40) (hn : ins.length < 2 ^ 40) (ha : args.length < 2 ^ 40) (hok : (opR op args ins).2.isNil = true) : ACalls pg G c90 [li op, slI args, slD ins] (.tup [li (opU op args ins), .lit .nilIface]) := by
 have h0 := e80 hS op args ins hf hn ha
 obtain ⟨hk, k1, k3⟩ := d16 hok
 have he : (opR op args ins).2 = .nil := a48.1 hok
 have hop : 4 <= op /\ op <= 21 := by simpa [a0x] using hk
 refine c34 rfl ?_
 simp (disch := omega) [go_sem, c33]
 refine a0e h0 (a3x _) (by simp (disch := omega) [go_sem]) ?_
 obtain ho | ho | rfl | rfl | rfl | rfl | rfl | rfl | rfl | rfl : ((4 <= op /\ op <= 7) \/ op = 17) \/ (op = 8 \/ op = 9 \/ op = 11 \/ op = 18 \/ op = 21) \/ op = 10 \/ op = 12 \/ op = 13 \/ op = 14 \/ op = 15 \/ op = 16 \/ op = 19 \/ op = 20 := by omega
 ·
  have hu : opU op args ins = 1 := by simp only [opU, show ¬ op = 10 by omega, show ¬ op = 12 by omega, show ¬ op = 13 by omega, show ¬ op = 14 by omega, show ¬ op = 15 by omega, show ¬ op = 16 by omega, show ¬ op = 19 by omega, show ¬ op = 20 by omega, or_self, if_false]
  rw [hu]
  have hl : ins.length = 2 := by
   rw [k1]
   obtain rfl | rfl | rfl | rfl | rfl : op = 4 \/ op = 5 \/ op = 6 \/ op = 7 \/ op = 17 := by omega
   all_goals decide
  obtain ⟨a, b, rfl⟩ := a6u hl
  rw [sl2]
  simp (disch := omega) [go_sem, he, a0s, Er.isNil, show ¬ op = 10 by omega, show ¬ op = 12 by omega, show ¬ op = 13 by omega, show ¬ op = 14 by omega, show ¬ op = 15 by omega, show ¬ op = 16 by omega, show ¬ op = 19 by omega, show ¬ op = 20 by omega]
 ·
  have hu : opU op args ins = 1 := by simp only [opU, show ¬ op = 10 by omega, show ¬ op = 12 by omega, show ¬ op = 13 by omega, show ¬ op = 14 by omega, show ¬ op = 15 by omega, show ¬ op = 16 by omega, show ¬ op = 19 by omega, show ¬ op = 20 by omega, or_self, if_false]
  rw [hu]
  have hl : ins.length = 1 := by
   rw [k1]
   rcases ho with rfl | rfl | rfl | rfl | rfl <;> decide
  obtain ⟨a, rfl⟩ := a7x hl
  rw [sl1]
  simp (disch := omega) [go_sem, he, a0s, Er.isNil, show ¬ op = 10 by omega, show ¬ op = 12 by omega, show ¬ op = 13 by omega, show ¬ op = 14 by omega, show ¬ op = 15 by omega, show ¬ op = 16 by omega, show ¬ op = 19 by omega, show ¬ op = 20 by omega]
 ·
  obtain ⟨a, rfl⟩ := a7x (k1.trans (by decide))
  rw [sl1]
  rw [show opU 10 args [a] = 2 by rfl]
  simp (disch := omega) [go_sem, he, a0s, Er.isNil]
 ·
  obtain ⟨a, b, rfl⟩ := a6u (k1.trans (by decide))
  rw [sl2]
  obtain ⟨x, y, rfl⟩ := a6u ((k3.resolve_left (by decide)).trans (by decide))
  rw [show opR 12 [x, y] [a, b] = c0h x y a b by rw [opR, if_pos hk, if_pos ⟨k1, k3⟩]; rfl] at hok
  obtain ⟨ea, eb, la, lb'⟩ := c6l hok
  obtain ⟨ash, aw⟩ := a
  obtain ⟨u, v, rfl⟩ := a6u la
  rw [show opU 12 [x, y] [⟨[u, v], aw⟩, b] = v by rfl]
  simp (disch := omega) [go_sem, he, a0s, Er.isNil]
 ·
  obtain ⟨a, b, rfl⟩ := a6u (k1.trans (by decide))
  rw [sl2]
  obtain ⟨x, y, z, rfl⟩ := d3q ((k3.resolve_left (by decide)).trans (by decide))
  rw [show opR 13 [x, y, z] [a, b] = a8l [x, y, z] a b by rw [opR, if_pos hk, if_pos ⟨k1, k3⟩]; rfl] at hok
  obtain ⟨ea, eb, la, lb'⟩ := c1f hok
  obtain ⟨bsh, bw⟩ := b
  obtain ⟨u, v, w, o, rfl⟩ := e7g lb'
  have hu := a2f eb u (by simp)
  have hv := a2f eb v (by simp)
  have hw := a2f eb w (by simp)
  rw [show opU 13 [x, y, z] [a, ⟨[u, v, w, o], bw⟩] = u * v * w by rfl]
  have b1 : 0 <= u * v := Int.mul_nonneg (by omega) (by omega)
  have b2 : u * v <= 256 * 256 := Int.mul_le_mul hu.2 hv.2 (by omega) (by omega)
  have b3 : 0 <= u * v * w := Int.mul_nonneg b1 (by omega)
  have b4 : u * v * w <= 256 * 256 * 256 := Int.mul_le_mul b2 hw.2 (by omega) (by omega)
  simp (disch := omega) [go_sem, he, a0s, Er.isNil]
  refine a0c ?_
  simp (disch := omega) [go_sem]
  refine a0d (by decide) fun s2 hs2 hes2 => ?_
  simp (disch := omega) [go_sem, hs2]
 ·
  obtain ⟨a, rfl⟩ := a7x (k1.trans (by decide))
  rw [sl1]
  obtain ⟨x, y, rfl⟩ := a6u ((k3.resolve_left (by decide)).trans (by decide))
  rw [show opR 14 [x, y] [a] = a70 [x, y] a by rw [opR, if_pos hk, if_pos ⟨k1, k3⟩]; rfl] at hok
  obtain ⟨ea, la, p1, p2⟩ := b2d hok
  have q1 : 1 <= x := p1
  have q2 : x <= 16 := p2
  have b1 : 0 <= x * x := Int.mul_nonneg (by omega) (by omega)
  have b2 : x * x <= 16 * 16 := Int.mul_le_mul q2 q2 (by omega) (by omega)
  rw [show opU 14 [x, y] [a] = x * x by rfl]
  simp (disch := omega) [go_sem, he, a0s, Er.isNil]
  refine a0c ?_
  simp (disch := omega) [go_sem]
  refine a0d (by decide) fun s2 hs2 hes2 => ?_
  simp (disch := omega) [go_sem, hs2]
 ·
  obtain ⟨a, rfl⟩ := a7x (k1.trans (by decide))
  rw [sl1]
  obtain ⟨x, y, rfl⟩ := a6u ((k3.resolve_left (by decide)).trans (by decide))
  rw [show opR 15 [x, y] [a] = a70 [x, y] a by rw [opR, if_pos hk, if_pos ⟨k1, k3⟩]; rfl] at hok
  obtain ⟨ea, la, p1, p2⟩ := b2d hok
  have q1 : 1 <= x := p1
  have q2 : x <= 16 := p2
  have b1 : 0 <= x * x := Int.mul_nonneg (by omega) (by omega)
  have b2 : x * x <= 16 * 16 := Int.mul_le_mul q2 q2 (by omega) (by omega)
  rw [show opU 15 [x, y] [a] = x * x by rfl]
  simp (disch := omega) [go_sem, he, a0s, Er.isNil]
  refine a0c ?_
  simp (disch := omega) [go_sem]
  refine a0d (by decide) fun s2 hs2 hes2 => ?_
  simp (disch := omega) [go_sem, hs2]
 ·
  obtain ⟨a, b, rfl⟩ := a6u (k1.trans (by decide))
  rw [sl2]
  rw [show opR 16 args [a, b] = a3c 16 [a, b] by rw [opR, if_pos hk, if_pos ⟨k1, k3⟩]; rfl] at hok
  have la := b85 hok
  have lla := hf a (by simp)
  obtain ⟨ash, aw⟩ := a
  obtain rfl | ⟨l, x, rfl⟩ : ash = [] \/ ∃ l x, ash = l ++ [x] := by
   rcases List.eq_nil_or_concat ash with h | ⟨l, x, h⟩
   ·exact .inl h
   ·exact .inr ⟨l, x, by simpa using h⟩
  ·exact absurd la (by simp)
  have hg : (List.map li l ++ [li x])[l.length]? = some (li x) := by simp
  rw [show opU 16 args [⟨l ++ [x], aw⟩, b] = x by simp [opU]]
  simp only [List.length_append, List.length_cons, List.length_nil] at lla
  simp (disch := omega) [go_sem, he, a0s, Er.isNil, hg]
 ·
  obtain ⟨a, rfl⟩ := a7x (k1.trans (by decide))
  rw [sl1]
  rw [show opR 19 args [a] = a3c 19 [a] by rw [opR, if_pos hk, if_pos ⟨k1, k3⟩]; rfl] at hok
  have la := a9q (by omega) hok
  have lla := hf a (by simp)
  obtain ⟨ash, aw⟩ := a
  obtain rfl | ⟨l, x, rfl⟩ : ash = [] \/ ∃ l x, ash = l ++ [x] := by
   rcases List.eq_nil_or_concat ash with h | ⟨l, x, h⟩
   ·exact .inl h
   ·exact .inr ⟨l, x, by simpa using h⟩
  ·exact absurd la (by simp)
  have hg : (List.map li l ++ [li x])[l.length]? = some (li x) := by simp
  rw [show opU 19 args [⟨l ++ [x], aw⟩] = x by simp [opU]]
  simp only [List.length_append, List.length_cons, List.length_nil] at lla
  simp (disch := omega) [go_sem, he, a0s, Er.isNil, hg]
 ·
  obtain ⟨a, rfl⟩ := a7x (k1.trans (by decide))
  rw [sl1]
  rw [show opR 20 args [a] = a3c 20 [a] by rw [opR, if_pos hk, if_pos ⟨k1, k3⟩]; rfl] at hok
  have la := a9q (by omega) hok
  have lla := hf a (by simp)
  obtain ⟨ash, aw⟩ := a
  obtain rfl | ⟨l, x, rfl⟩ : ash = [] \/ ∃ l x, ash = l ++ [x] := by
   rcases List.eq_nil_or_concat ash with h | ⟨l, x, h⟩
   ·exact .inl h
   ·exact .inr ⟨l, x, by simpa using h⟩
  ·exact absurd la (by simp)
  have hg : (List.map li l ++ [li x])[l.length]? = some (li x) := by simp
  rw [show opU 20 args [⟨l ++ [x], aw⟩] = x by simp [opU]]
  simp only [List.length_append, List.length_cons, List.length_nil] at lla
  simp (disch := omega) [go_sem, he, a0s, Er.isNil, hg]
end
end Go.Ideal.Tryz
end
section
namespace Go.Ideal.Tryz
attribute [local go_sem] eD eT eV
section
variable {G : GG} {bk : Nat -> Nat × Nat} {Q : Exit -> St -> Prop} {st : St}
theorem d9z (op : Int) (args : List Int) (ins : List Ds) (hf : ∀ d ∈ ins, d.shape.length < 2 ^ 40) (hn : ins.length < 2 ^ 40) (ha : args.length < 2 ^ 40) (hok : (opR op args ins).2.isNil = true) : ACalls pg G b64 [li op, slI args, slD ins] (.tup [li (opU op args ins), li 0]) := by
 have h0 := c39 (G := G) op args ins hn ha hf
 obtain ⟨hk, k1, k3⟩ := d16 hok
 have he : (opR op args ins).2 = .nil := a48.1 hok
 have hop : 4 <= op /\ op <= 21 := by simpa [a0x] using hk
 refine b3k rfl ?_
 simp (disch := omega) [go_sem, b0e]
 refine a0e h0 (by simp [go_sem, a0k]) (by simp (disch := omega) [go_sem]) ?_
 obtain ho | ho | rfl | rfl | rfl | rfl | rfl | rfl | rfl | rfl : ((4 <= op /\ op <= 7) \/ op = 17) \/ (op = 8 \/ op = 9 \/ op = 11 \/ op = 18 \/ op = 21) \/ op = 10 \/ op = 12 \/ op = 13 \/ op = 14 \/ op = 15 \/ op = 16 \/ op = 19 \/ op = 20 := by omega
 ·
  have hu : opU op args ins = 1 := by simp only [opU, show ¬ op = 10 by omega, show ¬ op = 12 by omega, show ¬ op = 13 by omega, show ¬ op = 14 by omega, show ¬ op = 15 by omega, show ¬ op = 16 by omega, show ¬ op = 19 by omega, show ¬ op = 20 by omega, or_self, if_false]
  rw [hu]
  have hl : ins.length = 2 := by
   rw [k1]
   obtain rfl | rfl | rfl | rfl | rfl : op = 4 \/ op = 5 \/ op = 6 \/ op = 7 \/ op = 17 := by omega
   all_goals decide
  obtain ⟨a, b, rfl⟩ := a6u hl
  rw [sl2]
  simp (disch := omega) [go_sem, he, a3e, show ¬ op = 10 by omega, show ¬ op = 12 by omega, show ¬ op = 13 by omega, show ¬ op = 14 by omega, show ¬ op = 15 by omega, show ¬ op = 16 by omega, show ¬ op = 19 by omega, show ¬ op = 20 by omega]
 ·
  have hu : opU op args ins = 1 := by simp only [opU, show ¬ op = 10 by omega, show ¬ op = 12 by omega, show ¬ op = 13 by omega, show ¬ op = 14 by omega, show ¬ op = 15 by omega, show ¬ op = 16 by omega, show ¬ op = 19 by omega, show ¬ op = 20 by omega, or_self, if_false]
  rw [hu]
  have hl : ins.length = 1 := by
   rw [k1]
   rcases ho with rfl | rfl | rfl | rfl | rfl <;> decide
  obtain ⟨a, rfl⟩ := a7x hl
  rw [sl1]
  simp (disch := omega) [go_sem, he, a3e, show ¬ op = 10 by omega, show ¬ op = 12 by omega, show ¬ op = 13 by omega, show ¬ op = 14 by omega, show ¬ op = 15 by omega, show ¬ op = 16 by omega, show ¬ op = 19 by omega, show ¬ op = 20 by omega]
 ·
  obtain ⟨a, rfl⟩ := a7x (k1.trans (by decide))
  rw [sl1]
  rw [show opU 10 args [a] = 2 by rfl]
  simp (disch := omega) [go_sem, he, a3e]
 ·
  obtain ⟨a, b, rfl⟩ := a6u (k1.trans (by decide))
  rw [sl2]
  obtain ⟨x, y, rfl⟩ := a6u ((k3.resolve_left (by decide)).trans (by decide))
  rw [show opR 12 [x, y] [a, b] = c0h x y a b by rw [opR, if_pos hk, if_pos ⟨k1, k3⟩]; rfl] at hok
  obtain ⟨ea, eb, la, lb'⟩ := c6l hok
  obtain ⟨ash, aw⟩ := a
  obtain ⟨u, v, rfl⟩ := a6u la
  rw [show opU 12 [x, y] [⟨[u, v], aw⟩, b] = v by rfl]
  simp (disch := omega) [go_sem, he, a3e]
 ·
  obtain ⟨a, b, rfl⟩ := a6u (k1.trans (by decide))
  rw [sl2]
  obtain ⟨x, y, z, rfl⟩ := d3q ((k3.resolve_left (by decide)).trans (by decide))
  rw [show opR 13 [x, y, z] [a, b] = a8l [x, y, z] a b by rw [opR, if_pos hk, if_pos ⟨k1, k3⟩]; rfl] at hok
  obtain ⟨ea, eb, la, lb'⟩ := c1f hok
  obtain ⟨bsh, bw⟩ := b
  obtain ⟨u, v, w, o, rfl⟩ := e7g lb'
  have hu := a2f eb u (by simp)
  have hv := a2f eb v (by simp)
  have hw := a2f eb w (by simp)
  rw [show opU 13 [x, y, z] [a, ⟨[u, v, w, o], bw⟩] = u * v * w by rfl]
  have b1 : 0 <= u * v := Int.mul_nonneg (by omega) (by omega)
  have b2 : u * v <= 256 * 256 := Int.mul_le_mul hu.2 hv.2 (by omega) (by omega)
  have b3 : 0 <= u * v * w := Int.mul_nonneg b1 (by omega)
  have b4 : u * v * w <= 256 * 256 * 256 := Int.mul_le_mul b2 hw.2 (by omega) (by omega)
  simp (disch := omega) [go_sem, he, a3e]
  refine a0c ?_
  simp (disch := omega) [go_sem]
  refine a0d (by decide) fun s2 hs2 hes2 => ?_
  simp (disch := omega) [go_sem, hs2]
 ·
  obtain ⟨a, rfl⟩ := a7x (k1.trans (by decide))
  rw [sl1]
  obtain ⟨x, y, rfl⟩ := a6u ((k3.resolve_left (by decide)).trans (by decide))
  rw [show opR 14 [x, y] [a] = a70 [x, y] a by rw [opR, if_pos hk, if_pos ⟨k1, k3⟩]; rfl] at hok
  obtain ⟨ea, la, p1, p2⟩ := b2d hok
  have q1 : 1 <= x := p1
  have q2 : x <= 16 := p2
  have b1 : 0 <= x * x := Int.mul_nonneg (by omega) (by omega)
  have b2 : x * x <= 16 * 16 := Int.mul_le_mul q2 q2 (by omega) (by omega)
  rw [show opU 14 [x, y] [a] = x * x by rfl]
  simp (disch := omega) [go_sem, he, a3e]
  refine a0c ?_
  simp (disch := omega) [go_sem]
  refine a0d (by decide) fun s2 hs2 hes2 => ?_
  simp (disch := omega) [go_sem, hs2]
 ·
  obtain ⟨a, rfl⟩ := a7x (k1.trans (by decide))
  rw [sl1]
  obtain ⟨x, y, rfl⟩ := a6u ((k3.resolve_left (by decide)).trans (by decide))
  rw [show opR 15 [x, y] [a] = a70 [x, y] a by rw [opR, if_pos hk, if_pos ⟨k1, k3⟩]; rfl] at hok
  obtain ⟨ea, la, p1, p2⟩ := b2d hok
  have q1 : 1 <= x := p1
  have q2 : x <= 16 := p2
  have b1 : 0 <= x * x := Int.mul_nonneg (by omega) (by omega)
  have b2 : x * x <= 16 * 16 := Int.mul_le_mul q2 q2 (by omega) (by omega)
  rw [show opU 15 [x, y] [a] = x * x by rfl]
  simp (disch := omega) [go_sem, he, a3e]
  refine a0c ?_
  simp (disch := omega) [go_sem]
  refine a0d (by decide) fun s2 hs2 hes2 => ?_
  simp (disch := omega) [go_sem, hs2]
 ·
  obtain ⟨a, b, rfl⟩ := a6u (k1.trans (by decide))
  rw [sl2]
  rw [show opR 16 args [a, b] = a3c 16 [a, b] by rw [opR, if_pos hk, if_pos ⟨k1, k3⟩]; rfl] at hok
  have la := b85 hok
  have lla := hf a (by simp)
  obtain ⟨ash, aw⟩ := a
  obtain rfl | ⟨l, x, rfl⟩ : ash = [] \/ ∃ l x, ash = l ++ [x] := by
   rcases List.eq_nil_or_concat ash with h | ⟨l, x, h⟩
   ·exact .inl h
   ·exact .inr ⟨l, x, by simpa using h⟩
  ·exact absurd la (by simp)
  have hg : (List.map li l ++ [li x])[l.length]? = some (li x) := by simp
  rw [show opU 16 args [⟨l ++ [x], aw⟩, b] = x by simp [opU]]
  simp only [List.length_append, List.length_cons, List.length_nil] at lla
  simp (disch := omega) [go_sem, he, a3e, hg]
 ·
  obtain ⟨a, rfl⟩ := a7x (k1.trans (by decide))
  rw [sl1]
  rw [show opR 19 args [a] = a3c 19 [a] by rw [opR, if_pos hk, if_pos ⟨k1, k3⟩]; rfl] at hok
  have la := a9q (by omega) hok
  have lla := hf a (by simp)
  obtain ⟨ash, aw⟩ := a
  obtain rfl | ⟨l, x, rfl⟩ : ash = [] \/ ∃ l x, ash = l ++ [x] := by
   rcases List.eq_nil_or_concat ash with h | ⟨l, x, h⟩
   ·exact .inl h
   ·exact .inr ⟨l, x, by simpa using h⟩
  ·exact absurd la (by simp)
  have hg : (List.map li l ++ [li x])[l.length]? = some (li x) := by simp
  rw [show opU 19 args [⟨l ++ [x], aw⟩] = x by simp [opU]]
  simp only [List.length_append, List.length_cons, List.length_nil] at lla
  simp (disch := omega) [go_sem, he, a3e, hg]
 ·
  obtain ⟨a, rfl⟩ := a7x (k1.trans (by decide))
  rw [sl1]
  rw [show opR 20 args [a] = a3c 20 [a] by rw [opR, if_pos hk, if_pos ⟨k1, k3⟩]; rfl] at hok
  have la := a9q (by omega) hok
  have lla := hf a (by simp)
  obtain ⟨ash, aw⟩ := a
  obtain rfl | ⟨l, x, rfl⟩ : ash = [] \/ ∃ l x, ash = l ++ [x] := by
   rcases List.eq_nil_or_concat ash with h | ⟨l, x, h⟩
   ·exact .inl h
   ·exact .inr ⟨l, x, by simpa using h⟩
  ·exact absurd la (by simp)
  have hg : (List.map li l ++ [li x])[l.length]? = some (li x) := by simp
  rw [show opU 20 args [⟨l ++ [x], aw⟩] = x by simp [opU]]
  simp only [List.length_append, List.length_cons, List.length_nil] at lla
  simp (disch := omega) [go_sem, he, a3e, hg]
end
end Go.Ideal.Tryz
end
