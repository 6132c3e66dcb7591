/- Part Qan of the proof: a machine with trees for values, its soundness, and walks on it. -/
import Derived.Test.YtfncabcldhemkaaGreatDoorQal
import Derived.Test.YtfncabcldhemkaaGreatDoorQam
import Derived.Test.YtfncabcldhemkaaGreatDoorQag
import Derived.Test.YtfncabcldhemkaaGreatDoorQah
set_option linter.unusedVariables false
set_option linter.unusedSimpArgs false
set_option maxHeartbeats 4000000
set_option maxRecDepth 200000
section
namespace Go.Ideal.Tryz
attribute [local go_sem] eD eT eV
def eC (e : Er) : Int := e.flt.1
theorem a3e : eC .nil = 0 := rfl
theorem c3b (sh : List Int) : b0a sh = eC (a03 sh) := rfl
theorem eC6 : eC (.s 6) = 101 := by decide
theorem eC3 : eC (.s 3) = 102 := by decide
theorem eC5 : eC (.s 5) = 103 := by decide
theorem eC0 : eC (.s 0) = 107 := by decide
theorem eC8 : eC (.s 8) = 108 := by decide
theorem eC9 : eC (.s 9) = 109 := by decide
theorem f2a : eC (.s 10) = 110 := by decide
theorem b0b (sh : List Int) : eC (a03 sh) = 0 ↔ (a03 sh).isNil = true := by
 rcases a28 sh with e | e | e <;> rw [e]
 ·simp [eC, Er.flt, Er.isNil]
 ·exact ⟨fun h => absurd h (by decide), fun h => by cases h⟩
 ·exact ⟨fun h => absurd h (by decide), fun h => by cases h⟩
abbrev rAV (r : Dr) : AV := .tup [.agg (eD r.1), li (eC r.2)]
section
variable {G : GG} {bk : Nat -> Nat × Nat} {Q : Exit -> St -> Prop} {st : St}
theorem c5r (n : Int) : b51 n false = a1s n := by simp [b51, a1s, Bool.decide_and]
theorem d4k (n : Int) (w : Bool) : b51 n w = b9h n w := by cases w <;> simp [b51, b9h, a1s, Bool.decide_and]
theorem a9m (n : Int) : ACalls pg G b33 [li n] (lb (a1s n)) := by
 refine b1n rfl ?_
 have h := d43 (G := G) n false
 rw [c5r] at h
 simp (disch := omega) [go_sem, a8c]
 refine a0b h rfl rfl ?_
 simp (disch := omega) [go_sem]
theorem a17 (n : Int) : ACalls pg G a1r [li n] (lb (a0x n)) := by
 refine b2r rfl ?_
 by_cases h : 4 <= n <;> simp (disch := omega) [go_sem, a9a, h, a0x]
theorem b25 (n : Int) : ACalls pg G b71 [li n] (li (a1x n)) := by
 refine b4v rfl ?_
 by_cases h : n = 4 \/ n = 5 \/ n = 6 \/ n = 7 \/ n = 12 \/ n = 13 \/ n = 16 \/ n = 17
 ·rcases h with rfl | rfl | rfl | rfl | rfl | rfl | rfl | rfl <;> simp (disch := omega) [go_sem, a7p, a1x]
 ·have h' := h
  simp only [not_or] at h'
  obtain ⟨a, b, c, d, e, f, g, i⟩ := h'
  simp (disch := omega) [go_sem, a7p, a, b, c, d, e, f, g, i]
  refine a0b (a17 n) rfl rfl ?_
  cases k : a0x n <;> simp (disch := omega) [go_sem, a1x, a, b, c, d, e, f, g, i, k]
theorem a8t (n : Int) : ACalls pg G b62 [li n] (li (a1c n)) := by
 refine b3i rfl ?_
 by_cases h : n = 9 \/ n = 12 \/ n = 14 \/ n = 15 \/ n = 10 \/ n = 13 \/ n = 11
 ·rcases h with rfl | rfl | rfl | rfl | rfl | rfl | rfl <;> simp (disch := omega) [go_sem, a6w, a1c]
 ·simp only [not_or] at h
  obtain ⟨a, b, c, d, e, f, g⟩ := h
  simp (disch := omega) [go_sem, a6w, a1c, a, b, c, d, e, f, g]
theorem f69 {a b : Ds} : (a = b) ↔ a.shape = b.shape /\ a.wide = b.wide := by
 obtain ⟨a1, a2⟩ := a; obtain ⟨b1, b2⟩ := b; simp
theorem b11 (a b : Ds) (ha : a.shape.length < 2 ^ 62) : ACalls pg G a4u [.agg (eD a), .agg (eD b)] (lb (decide (a = b))) := by
 refine a5r rfl ?_
 simp (disch := omega) [go_sem, a4w]
 refine a0b (a9p ha) rfl rfl ?_
 have e : decide (a = b) = (decide (a.shape = b.shape) && decide (a.wide = b.wide)) := by
  rw [<- Bool.decide_and]; exact decide_eq_decide.2 f69
 rw [e]
 by_cases c : a.shape = b.shape <;> simp (disch := omega) [go_sem, c]
theorem f2y (a : Ds) : fm eD [a] = [slI a.shape, lb a.wide] := rfl
theorem f2z (a b : Ds) : fm eD [a, b] = [slI a.shape, lb a.wide, slI b.shape, lb b.wide] := rfl
def a1o : List Ds -> Er
 | [] => .nil
 | d :: ds => if (a03 d.shape).isNil = true then a1o ds else a03 d.shape
theorem a3b (r : Dr) : ∀ ds : List Ds, a81 ds r = chk (a1o ds) r
 | [] => by simp [a81, a1o, chk, Er.isNil]
 | d :: ds => by
  simp only [a81, a1o, a3b r ds]
  cases h : (a03 d.shape).isNil
  ·simp [chk, h]
  ·simp [chk, h]
theorem a00 : ∀ ds : List Ds, a1o ds = .nil \/ a1o ds = .s 2 \/ a1o ds = .s 3
 | [] => .inl rfl
 | d :: ds => by
  simp only [a1o]
  split
  ·exact a00 ds
  ·exact a28 _
theorem e4y {a b : Ds} (h : a1o [a, b] = .nil) : a03 a.shape = .nil /\ a03 b.shape = .nil := by
 rcases a28 a.shape with e | e | e <;> rcases a28 b.shape with e2 | e2 | e2 <;> simp_all [a1o, Er.isNil]
theorem a26 (l : List Ds) (hl : l.length < 2 ^ 62) (hs : ∀ d ∈ l, d.shape.length < 2 ^ 62) : ACalls pg G b5u [slD l] (li (eC (a1o l))) := by
 refine b2t rfl ?_
 simp (disch := omega) [go_sem, a9e]
 refine a08 Nat (fun i st => i <= l.length /\ a1o (l.drop i) = a1o l /\ st.s 0 = slD l /\ st.s 3 = li i) (fun i => l.length - i) 0 ⟨by simp, rfl, by simp (disch := omega) [go_sem]⟩ ?_
 rintro i st K ⟨hi, hm, h⟩ hK
 by_cases hlt : i < l.length
 ·rw [List.drop_eq_getElem_cons hlt, a1o] at hm
  have c := a6e (G := G) l[i].shape l[i].wide (hs _ (List.getElem_mem hlt))
  rw [c3b] at c
  simp (disch := omega) [go_sem, a5d, h, hlt]
  refine a0b c rfl rfl ?_
  by_cases hn : (a03 l[i].shape).isNil = true
  ·have h0 := (b0b l[i].shape).2 hn
   rw [if_pos hn] at hm
   simp (disch := omega) [go_sem, h, h0]
   exact hK (i + 1) _ ⟨by omega, hm, by simp (disch := omega) [go_sem, h]⟩ (by omega)
  ·have h0 : ¬ eC (a03 l[i].shape) = 0 := fun k => hn ((b0b l[i].shape).1 k)
   rw [if_neg hn] at hm
   have h1 : ¬ eC (a1o l) = 0 := by rw [<- hm]; exact h0
   simp (disch := omega) [go_sem, h, h0, h1, hm]
 ·obtain rfl : i = l.length := by omega
  rw [List.drop_length] at hm
  simp (disch := omega) [go_sem, a5d, h, <- hm, a1o, a3e]
theorem b08 (sh : List Int) (w : Bool) (hlen : sh.length < 2 ^ 40) : ACalls pg G a7h [.agg [slI sh, lb w]] (.agg [slI sh, lb w]) :=
 ACalls.shown (c7e sh w hlen) (by simp [go_sem, frz, a2g])
theorem b12 (sh : List Int) (w : Bool) (hlen : sh.length < 2 ^ 40) : ACalls pg G b65 [.agg [slI sh, lb w]] (rAV (a6r sh w)) := by
 refine b3l rfl ?_
 have c := a6e (G := G) sh w (by omega)
 rw [c3b] at c
 simp (disch := omega) [go_sem, b0f]
 refine a0b c rfl rfl ?_
 by_cases hn : (a03 sh).isNil = true
 ·have h0 := (b0b sh).2 hn
  simp (disch := omega) [go_sem, h0]
  refine a0e (b08 sh w hlen) (by simp [go_sem, a0k]) (by simp (disch := omega) [go_sem]) ?_
  simp (disch := omega) [go_sem, a6r, chk, hn, a3e]
 ·have h0 : ¬ eC (a03 sh) = 0 := fun k => hn ((b0b sh).1 k)
  simp (disch := omega) [go_sem, h0, a6r, chk, hn, dn]
end
end Go.Ideal.Tryz
end
section
namespace Go.Ideal
def e1c (P : Program) (G : GG) (N : Nat) (aft : DA) (t : Nat) (d : Option Nat) (f : FuncId) (args : List (Bool × X)) (rest : List AO) (fps : List (List Nat × List Nat)) (K : St -> Prop) (st : St) (o1 o2 : Option St) : Prop := match o1, o2 with
 | some st1, some st2 => d0w P G N aft d f (a69 N args.length st2) (t :: (d.toList ++ a0f st (args.map (·.2)))) rest fps K st st1 st2
 | _, _ => False
def d70 (P : Program) (G : GG) (N : Nat) (aft : DA) (t : Nat) (d : Option Nat) (f : FuncId) (args : List (Bool × X)) (rest : List AO) (fps : List (List Nat × List Nat)) (K : St -> Prop) (st : St) (o1 : Option St) : Prop := e1c P G N aft t d f args rest fps K st o1 (pss N (N + 2) args o1)
def dGc (P : Program) (G : GG) (N : Nat) (aft : DA) (v : AV) (want : Bool) (t : Nat) (d : Option Nat) (f : FuncId) (args : List (Bool × X)) (rest : List AO) (fps : List (List Nat × List Nat)) (K : St -> Prop) (st : St) : Prop := match v with
 | .lit v => if c19 want v then d70 P G N aft t d f args rest fps K st (gvs N (N + 2) args (some st)) else (∀ u ∈ t :: d.toList, u < N) /\ b0r aft.2 (a4o d st) /\ b1b P G N aft rest (fps ++ [([t], d.toList)]) K (a4o d st)
 | _ => False
section
variable {P : Program} {G : GG} {N : Nat} {aft : DA} {d : Option Nat} {i : IOp} {rest : List AO} {fps : List (List Nat × List Nat)} {K : St -> Prop} {st : St} {t : Nat} {f : FuncId} {args : List (Bool × X)}
@[go_sem] theorem f7x {T : TypeId} {s u : Nat} {x : X} : evS G N none (.stf T s x (.t u)) st = evS G N none (.store T s x (.t u)) (st.set u (frz (st.s u))) := (rfl)
@[go_sem] theorem g6n {w : Bool} : dGd P G N aft (.lit undef) w t d i rest fps K st = ((∀ u ∈ t :: d.toList, u < N) /\ b0r aft.2 (a4o d st) /\ b1b P G N aft rest (fps ++ [([t], d.toList)]) K (a4o d st)) := (rfl)
@[congr] theorem e5e {v v' : AV} {w : Bool} (h : v = v') : dGc P G N aft v w t d f args rest fps K st = dGc P G N aft v' w t d f args rest fps K st := by rw [h]
@[congr] theorem e1b {o o' : Option St} (h : o = o') : d70 P G N aft t d f args rest fps K st o = d70 P G N aft t d f args rest fps K st o' := by rw [h]
@[congr] theorem e1d {o1 o o' : Option St} (h : o = o') : e1c P G N aft t d f args rest fps K st o1 o = e1c P G N aft t d f args rest fps K st o1 o' := by rw [h]
@[go_sem] theorem e5b {st1 : St} : d70 P G N aft t d f args rest fps K st (some st1) = e1c P G N aft t d f args rest fps K st (some st1) (pss N (N + 2) args (some st1)) := (rfl)
@[go_sem] theorem e5d {st1 st2 : St} : e1c P G N aft t d f args rest fps K st (some st1) (some st2) = d0w P G N aft d f (a69 N args.length st2) (t :: (d.toList ++ a0f st (args.map (·.2)))) rest fps K st st1 st2 := (rfl)
@[go_sem] theorem g29 : dGc P G N aft (.lit (.bool true)) true t d f args rest fps K st = d70 P G N aft t d f args rest fps K st (gvs N (N + 2) args (some st)) := (rfl)
@[go_sem] theorem g26 : dGc P G N aft (.lit (.bool false)) false t d f args rest fps K st = d70 P G N aft t d f args rest fps K st (gvs N (N + 2) args (some st)) := (rfl)
@[go_sem] theorem g28 : dGc P G N aft (.lit (.bool true)) false t d f args rest fps K st = ((∀ u ∈ t :: d.toList, u < N) /\ b0r aft.2 (a4o d st) /\ b1b P G N aft rest (fps ++ [([t], d.toList)]) K (a4o d st)) := (rfl)
@[go_sem] theorem g27 : dGc P G N aft (.lit (.bool false)) true t d f args rest fps K st = ((∀ u ∈ t :: d.toList, u < N) /\ b0r aft.2 (a4o d st) /\ b1b P G N aft rest (fps ++ [([t], d.toList)]) K (a4o d st)) := (rfl)
@[go_sem] theorem g6m {w : Bool} : dGc P G N aft (.lit undef) w t d f args rest fps K st = ((∀ u ∈ t :: d.toList, u < N) /\ b0r aft.2 (a4o d st) /\ b1b P G N aft rest (fps ++ [([t], d.toList)]) K (a4o d st)) := (rfl)
@[go_sem] theorem e1g {j : Nat} {want : Bool} {tys : List TypeId} : b1b P G N aft (⟨d, .call f args tys, some (j, t, want)⟩ :: rest) fps K st = dGc P G N aft (st.s t) want t d f args rest fps K st := by
 simp only [b1b, dGc]
 cases st.s t <;> try rfl
 rename_i v
 simp only [d3m, d70, e1c, d0w]
 split
 ·cases gvs N (N + 2) args (some st) with
  | none => rfl
  | some st1 =>
   simp only
   cases pss N (N + 2) args (some st1) <;> rfl
 ·rfl
end
end Go.Ideal
end
section
namespace Go.Ideal.Tryz
attribute [local go_sem] eD eT eV
section
variable {G : GG} {bk : Nat -> Nat × Nat} {Q : Exit -> St -> Prop} {st : St}
theorem e9m (za zb : Int) (a b : Ds) (ha : a.shape.length < 2 ^ 40) (hb : b.shape.length < 2 ^ 40) : ACalls pg G b0z [li za, li zb, .agg (eD a), .agg (eD b)] (rAV (c0h za zb a b)) := by
 have hD := a26 (G := G) [a, b] (by simp) (by intro d hd; simp at hd; rcases hd with rfl | rfl <;> omega)
 rw [show slD [a, b] = .sl 2 [slI a.shape, lb a.wide, slI b.shape, lb b.wide] from rfl] at hD
 refine a9b rfl ?_
 simp (disch := omega) [go_sem, a6n, a7a, a0r]
 refine a0b hD rfl rfl ?_
 by_cases hn : eC (a1o [a, b]) = 0
 rotate_left
 ·have hr : c0h za zb a b = (dn, a1o [a, b]) := by
   have : (a1o [a, b]).isNil = false := by
    rcases a00 [a, b] with e | e | e <;> rw [e] at hn ⊢
    ·exact absurd rfl hn
    ·rfl
    ·rfl
   show a81 [a, b] _ = _
   rw [a3b, chk, if_neg (by rw [this]; simp)]
  rw [hr]
  simp (disch := omega) [go_sem, hn, dn]
 have hnil : a1o [a, b] = .nil := by
  rcases a00 [a, b] with e | e | e <;> rw [e] at hn ⊢ <;> exact absurd hn (by decide)
 have hm : c0h za zb a b = (if a.shape.length = 2 /\ b.shape.length = 2 /\ a.shape[1]! = b.shape[0]! /\ a.wide = false /\ b.wide = false then
   (if (a1s za && a1s zb) = true then a6r [a.shape[0]!, b.shape[1]!] true else bad 3) else bad 6) := by
  show a81 [a, b] _ = _
  rw [a3b, hnil]; rfl
 clear hD
 simp (disch := omega) [go_sem, hn]
 have hbd : ¬ (a.shape.length = 2 /\ b.shape.length = 2 /\ a.shape[1]! = b.shape[0]! /\ a.wide = false /\ b.wide = false) -> c0h za zb a b = (dn, .s 6) := fun k => by rw [hm, if_neg k]; rfl
 by_cases c1 : a.shape.length = 2
 ·obtain ⟨ash, aw⟩ := a
  obtain ⟨x, y, rfl⟩ := a6u c1
  by_cases c2 : b.shape.length = 2
  ·obtain ⟨bsh, bw⟩ := b
   obtain ⟨u, v, rfl⟩ := a6u c2
   by_cases c3 : y = u
   ·cases aw
    ·cases bw
     ·have hgd : c0h za zb ⟨[x, y], false⟩ ⟨[u, v], false⟩ = if (a1s za && a1s zb) = true then a6r [x, v] true else bad 3 := by
       rw [hm]; simp [c3]
      rw [hgd]
      clear hgd
      refine a0c ?_
      simp (disch := omega) [go_sem, c3]
      refine a0d (by decide) fun s2 hs2 hes2 => ?_
      simp (disch := omega) [go_sem, hs2, c3]
      refine a0b (a9m za) rfl rfl ?_
      cases ha : a1s za
      ·simp (disch := omega) [go_sem, hs2, bad, dn, eC3]
      simp (disch := omega) [go_sem, hs2]
      refine a0b (a9m zb) rfl rfl ?_
      cases hb : a1s zb
      ·simp (disch := omega) [go_sem, hs2, bad, dn, eC3]
      simp (disch := omega) [go_sem, hs2]
      refine a0c ?_
      simp (disch := omega) [go_sem, hs2, a7a, a0r]
      have hse := b12 (G := G) [x, v] true (by simp)
      by_cases he : (a03 [x, v]).isNil = true
      ·have e2 : a6r [x, v] true = (⟨[x, v], true⟩, .nil) := by simp [a6r, chk, he]
       rw [e2] at hse ⊢
       refine b2a hse (by simp [go_sem, a0k]) (by simp [go_sem, a09, a1f]) (by simp (disch := omega) [go_sem, a0f, a1a]) [68, 67] (by simp) (by simp (disch := omega) [go_sem, hs2]) ?_
       simp (disch := omega) [go_sem, a0f, a1a, hs2]
       refine a0d (by decide) fun s3 hs3 hes3 => ?_
       simp (disch := omega) [go_sem, hs3, hs2, dn]
      ·have e2 : a6r [x, v] true = (dn, a03 [x, v]) := by simp [a6r, chk, he]
       rw [e2] at hse ⊢
       refine a0i hse (by simp [go_sem, a0k]) (by simp [go_sem, a09, a1f, dn]) (by simp (disch := omega) [go_sem, a0f, a1a]) [68, 67] (by simp) (by simp (disch := omega) [go_sem, hs2]) ?_
       simp (disch := omega) [go_sem, a0f, a1a, hs2]
       refine a0d (by decide) fun s3 hs3 hes3 => ?_
       simp (disch := omega) [go_sem, hs3, hs2, dn]
     ·
      rw [hbd (by simp)]
      refine a0c ?_
      simp (disch := omega) [go_sem, c3]
      refine a0d (by decide) fun s2 hs2 hes2 => ?_
      simp (disch := omega) [go_sem, hs2, c3, dn, eC6]
    ·
     rw [hbd (by simp)]
     refine a0c ?_
     simp (disch := omega) [go_sem, c3]
     refine a0d (by decide) fun s2 hs2 hes2 => ?_
     simp (disch := omega) [go_sem, hs2, c3, dn, eC6]
   ·
    rw [hbd (by simp [c3])]
    cases aw
    all_goals cases bw
    all_goals (
     refine a0c ?_
     simp (disch := omega) [go_sem, c3]
     refine a0d (by decide) fun s2 hs2 hes2 => ?_
     simp (disch := omega) [go_sem, hs2, c3, dn, eC6])
  ·have c2' : ¬ (b.shape.length : Int) = 2 := by omega
   rw [hbd (fun k => c2 k.2.1)]
   refine a0c ?_
   simp (disch := omega) [go_sem, c2']
   refine a0d (by decide) fun s2 hs2 hes2 => ?_
   simp (disch := omega) [go_sem, hs2, c2', dn, eC6]
 ·have c1' : ¬ (a.shape.length : Int) = 2 := by omega
  rw [hbd (fun k => c1 k.1)]
  refine a0c ?_
  simp (disch := omega) [go_sem, c1']
  refine a0d (by decide) fun s2 hs2 hes2 => ?_
  simp (disch := omega) [go_sem, hs2, c1', dn, eC6]
end
end Go.Ideal.Tryz
end
