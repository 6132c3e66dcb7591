/- Part Qbd of the proof: a machine with trees for values, its soundness, and walks on it. -/
import Derived.Test.YtfncabcldhemkaaGreatDoorQbc
import Derived.Test.YtfncabcldhemkaaGreatDoorQan
set_option linter.unusedVariables false
set_option linter.unusedSimpArgs false
set_option maxHeartbeats 8000000
set_option maxRecDepth 200000
section
namespace Go.Ideal.Tryz
attribute [local go_sem] eD eT eV eI eP
section
variable {G : GG} {bk : Nat -> Nat × Nat} {Q : Exit -> St -> Prop} {st : St}
@[go_sem] theorem g7w {xs : List Vw} {i : Nat} (h : i < xs.length) : (fm eV xs)[i * 3 + 1]? = some (slI xs[i].shape) := c3i (f := eV) (k := 3) (j := 1) (fun _ => rfl) h (by omega)
theorem d84 {op : Int} {args : List Int} {ins : List Ds} (hok : (opR op args ins).2.isNil = true) : 0 <= opU op args ins /\ opU op args ins <= 16777216 := by
 obtain ⟨hk, k1, k3⟩ := d16 hok
 have hop : 4 <= op /\ op <= 21 := by simpa [a0x] using hk
 have last : ∀ {l : List Int}, a03 l = .nil -> 0 < l.length -> 0 <= l[l.length - 1]! /\ l[l.length - 1]! <= 16777216 := by
  intro l h h2
  have := a2f h (l[l.length - 1]'(by omega)) (List.getElem_mem _)
  have e : l[l.length - 1]! = l[l.length - 1]'(by omega) := getElem!_pos l (l.length - 1) (by omega)
  omega
 obtain ho | rfl | rfl | rfl | rfl | rfl | rfl | rfl | rfl : (((4 <= op /\ op <= 7) \/ op = 17) \/ (op = 8 \/ op = 9 \/ op = 11 \/ op = 18 \/ op = 21)) \/ op = 10 \/ op = 12 \/ op = 13 \/ op = 14 \/ op = 15 \/ op = 16 \/ op = 19 \/ op = 20 := by omega
 ·have hu : opU op args ins = 1 := by simp only [opU, show ¬ op = 10 by omega, show ¬ op = 12 by omega, show ¬ op = 13 by omega, show ¬ op = 14 by omega, show ¬ op = 15 by omega, show ¬ op = 16 by omega, show ¬ op = 19 by omega, show ¬ op = 20 by omega, or_self, if_false]
  omega
 ·rw [show opU 10 args ins = 2 by rfl]; omega
 ·obtain ⟨a, b, rfl⟩ := a6u (k1.trans (by decide))
  rw [show opR 12 args [a, b] = c0h args[0]! args[1]! a b by rw [opR, if_pos hk, if_pos ⟨k1, k3⟩]; rfl] at hok
  obtain ⟨ea, eb, la, lb'⟩ := c6l hok
  obtain ⟨ash, aw⟩ := a
  obtain ⟨u, v, rfl⟩ := a6u la
  have := a2f ea v (by simp)
  rw [show opU 12 args [⟨[u, v], aw⟩, b] = v by rfl]
  omega
 ·obtain ⟨a, b, rfl⟩ := a6u (k1.trans (by decide))
  rw [show opR 13 args [a, b] = a8l args a b by rw [opR, if_pos hk, if_pos ⟨k1, k3⟩]; rfl] at hok
  obtain ⟨ea, eb, la, lb'⟩ := c1f hok
  obtain ⟨bsh, bw⟩ := b
  obtain ⟨u, v, w, o, rfl⟩ := e7g lb'
  have hu := a2f eb u (by simp)
  have hv := a2f eb v (by simp)
  have hw := a2f eb w (by simp)
  rw [show opU 13 args [a, ⟨[u, v, w, o], bw⟩] = u * v * w by rfl]
  have b1 : 0 <= u * v := Int.mul_nonneg (by omega) (by omega)
  have b2 : u * v <= 256 * 256 := Int.mul_le_mul hu.2 hv.2 (by omega) (by omega)
  have b3 : 0 <= u * v * w := Int.mul_nonneg b1 (by omega)
  have b4 : u * v * w <= 256 * 256 * 256 := Int.mul_le_mul b2 hw.2 (by omega) (by omega)
  omega
 ·obtain ⟨a, rfl⟩ := a7x (k1.trans (by decide))
  rw [show opR 14 args [a] = a70 args a by rw [opR, if_pos hk, if_pos ⟨k1, k3⟩]; rfl] at hok
  obtain ⟨ea, la, p1, p2⟩ := b2d hok
  have b1 : 0 <= args[0]! * args[0]! := Int.mul_nonneg (by omega) (by omega)
  have b2 : args[0]! * args[0]! <= 16 * 16 := Int.mul_le_mul p2 p2 (by omega) (by omega)
  rw [show opU 14 args [a] = args[0]! * args[0]! by rfl]
  omega
 ·obtain ⟨a, rfl⟩ := a7x (k1.trans (by decide))
  rw [show opR 15 args [a] = a70 args a by rw [opR, if_pos hk, if_pos ⟨k1, k3⟩]; rfl] at hok
  obtain ⟨ea, la, p1, p2⟩ := b2d hok
  have b1 : 0 <= args[0]! * args[0]! := Int.mul_nonneg (by omega) (by omega)
  have b2 : args[0]! * args[0]! <= 16 * 16 := Int.mul_le_mul p2 p2 (by omega) (by omega)
  rw [show opU 15 args [a] = args[0]! * args[0]! by rfl]
  omega
 ·obtain ⟨a, b, rfl⟩ := a6u (k1.trans (by decide))
  rw [show opR 16 args [a, b] = a3c 16 [a, b] by rw [opR, if_pos hk, if_pos ⟨k1, k3⟩]; rfl] at hok
  have la := b85 hok
  obtain ⟨ea, -⟩ := b1a hok
  exact last ea la
 ·obtain ⟨a, rfl⟩ := a7x (k1.trans (by decide))
  rw [show opR 19 args [a] = a3c 19 [a] by rw [opR, if_pos hk, if_pos ⟨k1, k3⟩]; rfl] at hok
  have la := a9q (by omega) hok
  obtain ⟨ea, -⟩ := b1a hok
  exact last ea la
 ·obtain ⟨a, rfl⟩ := a7x (k1.trans (by decide))
  rw [show opR 20 args [a] = a3c 20 [a] by rw [opR, if_pos hk, if_pos ⟨k1, k3⟩]; rfl] at hok
  have la := a9q (by omega) hok
  obtain ⟨ea, -⟩ := b1a hok
  exact last ea la
theorem c1s {p : Pl} {i : In} (h : (a3f p i).2.isNil = true) : 0 <= (a3f p i).1 /\ (a3f p i).1 <= 16777216 := by
 unfold a3f at h ⊢
 split
 ·split
  ·rename_i k
   split
   ·split
    ·exact d84 k
    ·exact ⟨by decide, by decide⟩
   ·exact ⟨by decide, by decide⟩
  ·exact ⟨by simp, by simp⟩
 ·split
  ·split
   ·exact ⟨by decide, by decide⟩
   ·split <;> exact ⟨by decide, by decide⟩
  ·exact ⟨by decide, by decide⟩
theorem c7l (hS : Sent G bk) {p : Pl} (hp : PlB p) {i : In} (hli : i.ins.length < 2 ^ 30)
  (h : st.s 2 = .var (eP p) /\ st.s 3 = .var (eI i) /\ st.s 38 = slI i.ins /\ st.s 39 = li i.ins.length /\ st.s 40 = li 0)
  (hbad : (i.ins.all (a14 p)) = false -> ∀ s, s.s 4 = li 0 /\ s.s 5 = a0s bk (.s 0) -> Q .ret s)
  (hex : (i.ins.all (a14 p)) = true -> ∀ s, s.s 2 = .var (eP p) /\ s.s 3 = .var (eI i) -> Q (.exit 0) s) : AW pg G 120 (.loop a56) Q st := by
 have h0 := hS.val 0 (by decide)
 have hlv := hp.views
 refine a08 Nat (fun j st => j <= i.ins.length /\ (i.ins.all (a14 p)) = ((i.ins.drop j).all (a14 p)) /\ st.s 2 = .var (eP p) /\ st.s 3 = .var (eI i) /\ st.s 38 = slI i.ins /\ st.s 39 = li i.ins.length /\ st.s 40 = li j) (fun j => i.ins.length - j) 0 ⟨by omega, rfl, h⟩ ?_
 clear h
 rintro j st K ⟨hi, hm, h⟩ hK
 by_cases hlt : j < i.ins.length
 ·rw [List.drop_eq_getElem_cons hlt, List.all_cons] at hm
  simp (disch := omega) [go_sem, a56, h, hlt]
  refine a0b (c79 p i.ins[j] (by omega)) rfl rfl ?_
  cases ha : a14 p i.ins[j]
  ·rw [ha, Bool.false_and] at hm
   simp (disch := omega) [go_sem, h]
   refine a0c ?_
   simp (disch := omega) [go_sem, h, h0]
   refine a0d (by decide) fun s3 hs3 he3 => ?_
   simp (disch := omega) [go_sem, hs3, h, h0]
   exact hbad hm _ (by simp (disch := omega) [go_sem, hs3, h, h0, a0s])
  ·rw [ha, Bool.true_and] at hm
   simp (disch := omega) [go_sem, h]
   refine hK (j + 1) _ ⟨by omega, hm, by simp (disch := omega) [go_sem, h]⟩ (by omega)
 ·obtain rfl : j = i.ins.length := by omega
  rw [List.drop_length, List.all_nil] at hm
  simp (disch := omega) [go_sem, a56, h]
  exact hex hm _ (by simp (disch := omega) [go_sem, h])
theorem d8m (hS : Sent G bk) {p : Pl} (hp : PlB p) {i : In} (hi : InB p i) : ACalls pg G c0x [.agg (eP p), .agg (eI i)] (e0z bk (a1v p i)) := by
 have h0 := hS.val 0 (by decide)
 have h3 := hS.val 3 (by decide)
 have h4 := hS.val 2 (by decide)
 have h5 := hS.val 4 (by decide)
 have hlv := hp.views
 have hlc := hp.code
 have hli := hi.ins
 have hla := hi.args
 generalize hr : a1v p i = r
 rw [a1v] at hr
 refine b7g rfl ?_
 simp (disch := omega) [go_sem, b4j]
 refine a0b (c29 i) rfl rfl ?_
 cases hd : b9o i
 ·simp only [hd, true_and, Bool.false_eq_true, false_and, if_false, if_true] at hr
  by_cases c1 : i.op < 22
  ·rw [if_pos (.inl c1)] at hr
   subst hr
   simp (disch := omega) [go_sem, c1]
   refine a0c ?_
   simp (disch := omega) [go_sem, h4, a0s]
   refine a0d (by decide) fun s2 hs2 hes2 => ?_
   simp (disch := omega) [go_sem, hs2, h4, a0s]
  by_cases c2 : 24 < i.op
  ·rw [if_pos (.inr c2)] at hr
   subst hr
   simp (disch := omega) [go_sem, c1, c2]
   refine a0c ?_
   simp (disch := omega) [go_sem, h4, a0s]
   refine a0d (by decide) fun s2 hs2 hes2 => ?_
   simp (disch := omega) [go_sem, hs2, h4, a0s]
  rw [if_neg (by omega)] at hr
  simp (disch := omega) [go_sem, c1, c2]
  refine a0b (c29 i) rfl rfl ?_
  simp (disch := omega) [go_sem, hd]
  refine c7l hS hp hli (by simp (disch := omega) [go_sem]) (fun hb s h => ?_) (fun hb s h => ?_)
  ·rw [if_pos hb] at hr
   subst hr
   simp (disch := omega) [go_sem, h]
  rw [if_neg (by simp [hb])] at hr
  simp (disch := omega) [go_sem, h]
  refine a0b (c29 i) rfl rfl ?_
  simp (disch := omega) [go_sem, h, hd]
  refine a0e (e60 hS p i (by omega) (by omega) (by omega)) (a0m _) (by simp (disch := omega) [go_sem, h]) ?_
  cases he : (a6m p i).isNil
  ·rw [if_neg (by simp [he])] at hr
   subst hr
   simp (disch := omega) [go_sem, h, he]
  rw [if_pos he] at hr
  simp (disch := omega) [go_sem, h, he]
  by_cases d1 : i.dst = 0
  ·by_cases d2 : i.frm = 0
   ·by_cases d3 : i.to = 0
    ·rw [if_pos ⟨d1, d2, d3⟩] at hr
     subst hr
     simp (disch := omega) [go_sem, h, d1, d2, d3, a0s]
    ·rw [if_neg (fun h => d3 h.2.2)] at hr
     subst hr
     simp (disch := omega) [go_sem, h, d1, d2, d3]
     refine a0c ?_
     simp (disch := omega) [go_sem, h, h3, a0s]
     refine a0d (by decide) fun s2 hs2 hes2 => ?_
     simp (disch := omega) [go_sem, hs2, h, h3, a0s]
   ·rw [if_neg (fun h => d2 h.2.1)] at hr
    subst hr
    simp (disch := omega) [go_sem, h, d1, d2]
    refine a0c ?_
    simp (disch := omega) [go_sem, h, h3, a0s]
    refine a0d (by decide) fun s2 hs2 hes2 => ?_
    simp (disch := omega) [go_sem, hs2, h, h3, a0s]
  ·rw [if_neg (fun h => d1 h.1)] at hr
   subst hr
   simp (disch := omega) [go_sem, h, d1]
   refine a0c ?_
   simp (disch := omega) [go_sem, h, h3, a0s]
   refine a0d (by decide) fun s2 hs2 hes2 => ?_
   simp (disch := omega) [go_sem, hs2, h, h3, a0s]
 ·simp only [hd, Bool.true_eq_false, false_and, true_and, if_false] at hr
  simp (disch := omega) [go_sem]
  refine a0b (c29 i) rfl rfl ?_
  simp (disch := omega) [go_sem, hd]
  refine a0b (c79 p i.dst (by omega)) rfl rfl ?_
  cases hv : a14 p i.dst
  ·rw [if_pos hv] at hr
   subst hr
   simp (disch := omega) [go_sem, hv]
   refine a0c ?_
   simp (disch := omega) [go_sem, h0, a0s]
   refine a0d (by decide) fun s2 hs2 hes2 => ?_
   simp (disch := omega) [go_sem, hs2, h0, a0s]
  rw [if_neg (by simp [hv])] at hr
  simp (disch := omega) [go_sem, hv]
  refine c7l hS hp hli (by simp (disch := omega) [go_sem]) (fun hb s h => ?_) (fun hb s h => ?_)
  ·rw [if_pos hb] at hr
   subst hr
   simp (disch := omega) [go_sem, h]
  rw [if_neg (by simp [hb])] at hr
  simp (disch := omega) [go_sem, h]
  refine a0b (c29 i) rfl rfl ?_
  simp (disch := omega) [go_sem, h, hd]
  have hM := e7n hS hp hi hv (fun k hk => List.all_eq_true.1 hb k hk)
  have hMr := c1s (p := p) (i := i)
  obtain ⟨m, hm, hml⟩ := a97 hv
  have hdv : c3a p i = p.views[m] := by simp [c3a, hm, hml]
  have hvs := hp.v _ (List.getElem_mem hml)
  have hel := a7c p.views[m].shape
  rw [c28, hdv] at hr
  generalize a3f p i = M at *
  refine a0e hM (by simp [go_sem, a0k]) (by simp (disch := omega) [go_sem, h]) ?_
  cases he : M.2.isNil
  ·rw [if_neg (by simp [he])] at hr
   subst hr
   simp (disch := omega) [go_sem, h, he]
  rw [if_pos he] at hr
  obtain ⟨m1, m2⟩ := hMr he
  simp (disch := omega) [go_sem, h, he, hm, hml]
  refine a0b (b4o hS.five.three p.views[m].shape (by omega)) rfl rfl ?_
  by_cases e1 : i.frm < 0
  ·rw [if_neg (by omega)] at hr
   subst hr
   simp (disch := omega) [go_sem, h, e1]
   refine a0c ?_
   simp (disch := omega) [go_sem, h, h3, a0s]
   refine a0d (by decide) fun s2 hs2 hes2 => ?_
   simp (disch := omega) [go_sem, hs2, h, h3, a0s]
  by_cases e2 : i.to < i.frm
  ·rw [if_neg (by omega)] at hr
   subst hr
   simp (disch := omega) [go_sem, h, e1, e2]
   refine a0c ?_
   simp (disch := omega) [go_sem, h, h3, a0s]
   refine a0d (by decide) fun s2 hs2 hes2 => ?_
   simp (disch := omega) [go_sem, hs2, h, h3, a0s]
  by_cases e3 : a22 p.views[m].shape < i.to
  ·rw [if_neg (by omega)] at hr
   subst hr
   simp (disch := omega) [go_sem, h, e1, e2, e3]
   refine a0c ?_
   simp (disch := omega) [go_sem, h, h3, a0s]
   refine a0d (by decide) fun s2 hs2 hes2 => ?_
   simp (disch := omega) [go_sem, hs2, h, h3, a0s]
  rw [if_pos (by omega)] at hr
  have b1 : 0 <= (i.to - i.frm) * M.1 := Int.mul_nonneg (by omega) (by omega)
  have b2 : (i.to - i.frm) * M.1 <= 16384 * 16777216 := Int.mul_le_mul (by omega) m2 (by omega) (by omega)
  simp (disch := omega) [go_sem, h, e1, e2, e3]
  generalize (i.to - i.frm) * M.1 = C at *
  have hmx : (if C < 1 then 1 else C) = max C 1 := by split <;> omega
  rw [hmx]
  generalize hX : max C 1 = X at *
  by_cases e4 : X <= 1024
  ·rw [if_pos e4] at hr
   subst hr
   have e4' : ¬ 1024 < X := by omega
   simp (disch := omega) [go_sem, h, e4', a0s]
  ·rw [if_neg e4] at hr
   subst hr
   have e4' : 1024 < X := by omega
   simp (disch := omega) [go_sem, h, e4']
   refine a0c ?_
   simp (disch := omega) [go_sem, h, h5, a0s]
   refine a0d (by decide) fun s2 hs2 hes2 => ?_
   simp (disch := omega) [go_sem, hs2, h, h5, a0s]
theorem d0t (hS : Sent G bk) {p : Pl} (hp : PlB p) (hi : ∀ i ∈ p.code, InB p i) (k : Nat) (hk : k < p.code.length) : ACalls pg G b6f [.agg (eP p), li k] (e0z bk (a1v p p.code[k])) := by
 have hlc := hp.code
 have hI := d8m hS hp (hi _ (List.getElem_mem hk))
 refine b09 rfl ?_
 simp (disch := omega) [go_sem, a74, hk]
 refine a0c ?_
 simp (disch := omega) [go_sem, hk]
 refine a1j hI (by simp [go_sem, a0k]) (by simp (disch := omega) [go_sem]) (by simp (disch := omega) [go_sem, a0f, a1a]) [22] (by simp) (by simp (disch := omega) [go_sem]) ?_
 simp (disch := omega) [go_sem, a0f, a1a]
 refine a0d (by decide) fun s2 hs2 he2 => ?_
 simp (disch := omega) [go_sem, hs2]
theorem d7z (hS : Sent G bk) {p : Pl} (hp : PlB p) (k : Int) (hk : k < 0 \/ (p.code.length : Int) <= k) : ACalls pg G b6f [.agg (eP p), li k] (e0z bk (0, .s 0)) := by
 have h0 := hS.val 0 (by decide)
 have hlc := hp.code
 refine b09 rfl ?_
 by_cases c : k < 0
 ·simp (disch := omega) [go_sem, a74, c]
  refine a0c ?_
  simp (disch := omega) [go_sem, h0, a0s]
  refine a0d (by decide) fun s2 hs2 hes2 => ?_
  simp (disch := omega) [go_sem, hs2, h0, a0s]
 ·have c2 : (p.code.length : Int) <= k := by omega
  simp (disch := omega) [go_sem, a74, c, c2]
  refine a0c ?_
  simp (disch := omega) [go_sem, h0, a0s]
  refine a0d (by decide) fun s2 hs2 hes2 => ?_
  simp (disch := omega) [go_sem, hs2, h0, a0s]
theorem d1i (hS : Sent G bk) {p : Pl} (hp : PlB p) (hi : ∀ i ∈ p.code, InB p i) (k : Nat) (hk : k < p.code.length) : ACalls pg G b3u [.agg (eP p), li k] (a0s bk (a1v p p.code[k]).2) := by
 refine a99 rfl ?_
 simp (disch := omega) [go_sem, a9u]
 refine a0e (d0t hS hp hi k hk) (by simp [go_sem, a0k]) (by simp (disch := omega) [go_sem]) ?_
 simp (disch := omega) [go_sem]
theorem c7k (hS : Sent G bk) {p : Pl} (hp : PlB p) (k : Int) (hk : k < 0 \/ (p.code.length : Int) <= k) : ACalls pg G b3u [.agg (eP p), li k] (a0s bk (.s 0)) := by
 refine a99 rfl ?_
 simp (disch := omega) [go_sem, a9u]
 refine a0e (d7z hS hp k hk) (by simp [go_sem, a0k]) (by simp (disch := omega) [go_sem]) ?_
 simp (disch := omega) [go_sem]
end
end Go.Ideal.Tryz
end
