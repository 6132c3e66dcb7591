/- Part Pb of the proof: a machine with trees for values, its soundness, and walks on it. -/
import Derived.Test.YtfdhkijgolgnfaaDoorPa

section
set_option linter.unusedVariables false
set_option linter.unusedSimpArgs false
set_option maxRecDepth 10000
namespace Go.Ideal.Tryd
/-- An error of api: none, a sentinel (by its variable), a place with an error. -/
inductive Er where
  | nil
  | s (g : Nat)
  | at (p : Int) (e : Er)
def encE (bk : Nat → Nat × Nat) : Er → AV
  | .nil => .lit .nilIface
  | .s g => sv bk g
  | .at p e => .ifc T_At (.ip [li p, encE bk e] 0)
abbrev wr (n : Int) : Int := IntKind.i64.wrap n
/-! ### order.Sort, as it is written -/
def oFillRow (n i : Nat) : List Int → List (List Int) → List Int → Option (List (List Int) × List Int)
  | [], u, l => some (u, l)
  | k :: ks, u, l => if k < 0 ∨ (n : Int) ≤ k then none else oFillRow n i ks (u.set k.toNat (u[k.toNat]! ++ [(i : Int)])) (l.set i (wr (l[i]! + 1)))
def oFill (n : Nat) : List (List Int) → Nat → List (List Int) → List Int → Except Nat (List (List Int) × List Int)
  | [], _, u, l => .ok (u, l)
  | r :: rs, i, u, l => match oFillRow n i r u l with
    | none => .error i
    | some p => oFill n rs (i + 1) p.1 p.2
/-- Numbers that name places. -/
def inB (n : Nat) (u : List (List Int)) : Prop := ∀ r ∈ u, ∀ k ∈ r, 0 ≤ k ∧ k < (n : Int)
theorem inB_set {n : Nat} {u : List (List Int)} {k : Nat} {r : List Int} (h : inB n u) (hr : ∀ k ∈ r, 0 ≤ k ∧ k < (n : Int)) : inB n (u.set k r) := by
  intro x hx
  rcases List.mem_or_eq_of_mem_set hx with hx | rfl
  · exact h x hx
  · exact hr
section
variable {G : Nat → Option Value} {bk : Nat → Nat × Nat} {Q : Exit → St → Prop} {st : St}
theorem sort_l0 (hS : Sent G bk) {ins u0 : List (List Int)} {l0 row : List Int} {i c0 : Nat} (hn : ins.length < 2 ^ 40) (hi : i < ins.length) (hc : c0 + row.length < 2 ^ 40)
    (h0 : st.s 0 = slII ins) (h4 : st.s 4 = owI l0) (h5 : st.s 5 = owII u0) (h6 : st.s 6 = li i) (h22 : st.s 22 = slII ins) (h23 : st.s 23 = li ins.length) (h24 : st.s 24 = li i)
    (h29 : st.s 29 = slI row) (h30 : st.s 30 = li row.length) (h31 : st.s 31 = li 0) (hl : l0.length = ins.length) (hu : u0.length = ins.length) (hb : ∀ r ∈ u0, r.length ≤ c0) (hin : inB ins.length u0)
    (hex : ∀ u l s, oFillRow ins.length i row u0 l0 = some (u, l) → l.length = ins.length → u.length = ins.length → (∀ r ∈ u, r.length ≤ c0 + row.length) → inB ins.length u → s.s 0 = slII ins → s.s 4 = owI l → s.s 5 = owII u → s.s 22 = slII ins → s.s 23 = li ins.length → s.s 24 = li i → Q (.exit 2) s)
    (hret : oFillRow ins.length i row u0 l0 = none → ∀ s, s.s 2 = .own 1 0 [] → s.s 3 = encE bk (.at i (.s 0)) → Q .ret s) : AW pg G 119 (.loop order_Sort_l0) Q st := by
  refine aw_loop (Nat × List (List Int) × List Int) (fun p st => p.1 ≤ row.length ∧ oFillRow ins.length i (row.drop p.1) p.2.1 p.2.2 = oFillRow ins.length i row u0 l0 ∧ p.2.2.length = ins.length ∧ p.2.1.length = ins.length ∧ (∀ r ∈ p.2.1, r.length ≤ c0 + p.1) ∧ inB ins.length p.2.1 ∧
    st.s 0 = slII ins ∧ st.s 4 = owI p.2.2 ∧ st.s 5 = owII p.2.1 ∧ st.s 6 = li i ∧ st.s 22 = slII ins ∧ st.s 23 = li ins.length ∧ st.s 24 = li i ∧ st.s 29 = slI row ∧ st.s 30 = li row.length ∧ st.s 31 = li p.1) (fun p => row.length - p.1) (0, u0, l0) ?_ ?_
  · exact ⟨by simp, by simp, hl, hu, by simpa using hb, hin, h0, h4, h5, h6, h22, h23, h24, h29, h30, h31⟩
  · clear h0 h4 h5 h6 h22 h23 h24 h29 h30 h31 hl hu hb hin
    rintro ⟨j, u, l⟩ st K ⟨hj, ht, hl, hu, hb, hin, h0, h4, h5, h6, h22, h23, h24, h29, h30, h31⟩ hK
    simp only at hj ht hl hu hb hin h4 h5 h31
    by_cases hlt : j < row.length
    · rw [List.drop_eq_getElem_cons hlt, oFillRow] at ht
      by_cases hk : row[j] < 0 ∨ (ins.length : Int) ≤ row[j]
      · rw [if_pos hk] at ht
        have key : ∀ (s : St) (Q' Q2 : Exit → St → Prop), s.s 6 = li i → (∀ s, Q .ret s → Q' .ret s) → AW pg G 119 (.draw order_Sort_r10 [[], [], [0, 1], [2], [3], [], [4, 5, 0, 1, 2, 3, 4, 5]]) (thenA (AW pg G 119 .ret Q') Q2) s := by
          intro s Q' Q2 h6 hq
          refine aw_draw ?_
          simp (disch := omega) [go_sem, hS.val, h6]
          refine dFin_i (by decide) fun s2 hs he => ?_
          simp (disch := omega) [go_sem]
          exact hq _ (hret ht.symm _ (by simp (disch := omega) [go_sem, hs]) (by simp (disch := omega) [go_sem, hs, encE]))
        by_cases hk1 : row[j] < 0
        · simp (disch := omega) [go_sem, order_Sort_l0, h0, h6, h29, h30, h31, hlt, hk1]
          exact key _ _ _ (by simp (disch := omega) [go_sem, h6]) (fun s h => h)
        · have hk2 : (ins.length : Int) ≤ row[j] := by omega
          simp (disch := omega) [go_sem, order_Sort_l0, h0, h6, h29, h30, h31, hlt, hk1, hk2]
          exact key _ _ _ (by simp (disch := omega) [go_sem, h6]) (fun s h => h)
      · rw [if_neg hk] at ht
        have hk1 : 0 ≤ row[j] := by omega
        have hk2 : row[j] < ins.length := by omega
        have hk3 : row[j].toNat < u.length := by omega
        have hk4 : u[row[j].toNat].length ≤ c0 + j := hb _ (List.getElem_mem _)
        simp (disch := omega) [go_sem, order_Sort_l0, h0, h4, h5, h6, h22, h23, h24, h29, h30, h31, hlt, hk1, hk2]
        refine hK (j + 1, u.set row[j].toNat (u[row[j].toNat]! ++ [(i : Int)]), l.set i (wr (l[i]! + 1))) _ ⟨by simp only; omega, ht, by simpa using hl, by simpa using hu, fun r hr => ?_, inB_set hin fun k hk => ?_, ?_⟩ (by simp only; omega)
        · rcases List.mem_or_eq_of_mem_set hr with hr | rfl
          · have := hb r hr; simp only; omega
          · simp [hk3]; omega
        · simp [hk3] at hk
          rcases hk with hk | rfl
          · exact hin _ (List.getElem_mem _) k hk
          · omega
        · refine ⟨by simp (disch := omega) [go_sem, h0], ?_, ?_, by simp (disch := omega) [go_sem, h6], by simp (disch := omega) [go_sem, h22], by simp (disch := omega) [go_sem, h23], by simp (disch := omega) [go_sem, h24], by simp (disch := omega) [go_sem, h29], by simp (disch := omega) [go_sem, h30], by simp (disch := omega) [go_sem, h31]⟩
          · simp (disch := omega) [go_sem, h4]
          · simp (disch := omega) [go_sem, h5]
    · rw [List.drop_eq_nil_of_le (by omega)] at ht
      simp (disch := omega) [go_sem, order_Sort_l0, h30, h31, hlt]
      obtain rfl : j = row.length := by omega
      exact hex u l _ ht.symm hl hu hb hin (by simp (disch := omega) [go_sem, h0]) (by simp (disch := omega) [go_sem, h4]) (by simp (disch := omega) [go_sem, h5]) (by simp (disch := omega) [go_sem, h22]) (by simp (disch := omega) [go_sem, h23]) (by simp (disch := omega) [go_sem, h24])

def tot (ins : List (List Int)) : Nat := (ins.map List.length).sum
theorem tot_take {ins : List (List Int)} {i : Nat} (h : i < ins.length) : tot (ins.take (i + 1)) = tot (ins.take i) + ins[i].length ∧ tot (ins.take (i + 1)) ≤ tot ins := by
  constructor
  · simp only [tot]
    rw [List.take_succ_eq_append_getElem h, List.map_append, List.sum_append]
    simp
  · have : tot ins = tot (ins.take (i + 1)) + tot (ins.drop (i + 1)) := by
      simp only [tot]
      rw [← List.sum_append, ← List.map_append, List.take_append_drop]
    omega
theorem sort_l1 (hS : Sent G bk) {ins u0 : List (List Int)} {l0 : List Int} (hn : ins.length < 2 ^ 40) (hc : tot ins < 2 ^ 40)
    (h0 : st.s 0 = slII ins) (h4 : st.s 4 = owI l0) (h5 : st.s 5 = owII u0) (h22 : st.s 22 = slII ins) (h23 : st.s 23 = li ins.length) (h24 : st.s 24 = li 0) (hl : l0.length = ins.length) (hu : u0.length = ins.length) (hb : ∀ r ∈ u0, r.length ≤ 0) (hin : inB ins.length u0)
    (hex : ∀ u l s, oFill ins.length ins 0 u0 l0 = .ok (u, l) → l.length = ins.length → u.length = ins.length → inB ins.length u → (∀ r ∈ u, r.length < 2 ^ 40) → s.s 0 = slII ins → s.s 4 = owI l → s.s 5 = owII u → Q (.exit 0) s)
    (hret : ∀ i s, oFill ins.length ins 0 u0 l0 = .error i → i < ins.length → s.s 2 = .own 1 0 [] → s.s 3 = encE bk (.at i (.s 0)) → Q .ret s) : AW pg G 119 (.loop order_Sort_l1) Q st := by
  refine aw_loop (Nat × List (List Int) × List Int) (fun p st => p.1 ≤ ins.length ∧ oFill ins.length (ins.drop p.1) p.1 p.2.1 p.2.2 = oFill ins.length ins 0 u0 l0 ∧ p.2.2.length = ins.length ∧ p.2.1.length = ins.length ∧ (∀ r ∈ p.2.1, r.length ≤ tot (ins.take p.1)) ∧ inB ins.length p.2.1 ∧
    st.s 0 = slII ins ∧ st.s 4 = owI p.2.2 ∧ st.s 5 = owII p.2.1 ∧ st.s 22 = slII ins ∧ st.s 23 = li ins.length ∧ st.s 24 = li p.1) (fun p => ins.length - p.1) (0, u0, l0) ?_ ?_
  · exact ⟨by simp, by simp, hl, hu, by simpa [tot] using hb, hin, h0, h4, h5, h22, h23, h24⟩
  · clear h0 h4 h5 h22 h23 h24 hl hu hb hin
    rintro ⟨i, u, l⟩ st K ⟨hi, ht, hl, hu, hb, hin, h0, h4, h5, h22, h23, h24⟩ hK
    simp only at hi ht hl hu hb hin h4 h5 h24
    by_cases hlt : i < ins.length
    · rw [List.drop_eq_getElem_cons hlt, oFill] at ht
      obtain ⟨t1, t2⟩ := tot_take hlt
      simp (disch := omega) [go_sem, order_Sort_l1, h22, h23, h24, hlt]
      refine sort_l0 hS (ins := ins) (row := ins[i]) (i := i) (u0 := u) (l0 := l) (c0 := tot (ins.take i)) hn hlt (by omega) (by simp (disch := omega) [go_sem, h0]) (by simp (disch := omega) [go_sem, h4]) (by simp (disch := omega) [go_sem, h5]) (by simp (disch := omega) [go_sem]) (by simp (disch := omega) [go_sem, h22]) (by simp (disch := omega) [go_sem, h23]) (by simp (disch := omega) [go_sem, h24])
        (by simp (disch := omega) [go_sem]) (by simp (disch := omega) [go_sem]) (by simp (disch := omega) [go_sem]) hl hu hb hin ?_ ?_
      · intro u2 l2 s e1 e2 e3 e4 e5 h0 h4 h5 h22 h23 h24
        rw [e1] at ht
        simp (disch := omega) [go_sem, h24]
        exact hK (i + 1, u2, l2) _ ⟨by simp only; omega, ht, e2, e3, by simp only; rw [t1]; exact e4, e5, by simp (disch := omega) [go_sem, h0], by simp (disch := omega) [go_sem, h4], by simp (disch := omega) [go_sem, h5], by simp (disch := omega) [go_sem, h22], by simp (disch := omega) [go_sem, h23], by simp (disch := omega) [go_sem, h24]⟩ (by simp only; omega)
      · intro e1 s h2 h3
        rw [e1] at ht
        simp (disch := omega) [go_sem]
        exact hret i _ ht.symm hlt h2 h3
    · obtain rfl : i = ins.length := by omega
      rw [List.drop_length, oFill] at ht
      simp (disch := omega) [go_sem, order_Sort_l1, h23, h24]
      refine hex u l _ ht.symm hl hu hin (fun r hr => ?_) (by simp (disch := omega) [go_sem, h0]) (by simp (disch := omega) [go_sem, h4]) (by simp (disch := omega) [go_sem, h5])
      have := hb r hr
      rw [List.take_length] at this
      omega
end
/-! ### the second part -/
def oDec : List Int → List Int → List Int
  | [], l => l
  | k :: ks, l => oDec ks (l.set k.toNat (wr (l[k.toNat]! - 1)))
theorem oDec_len : ∀ (ks l : List Int), (oDec ks l).length = l.length
  | [], l => rfl
  | k :: ks, l => by rw [oDec, oDec_len]; simp
def oPick : List Bool → List Int → Nat → Option Nat
  | d :: ds, l :: ls, i => if d = true ∨ 0 < l then oPick ds ls (i + 1) else some i
  | _, _, _ => none
theorem oPick_drop {done : List Bool} {l : List Int} {i k : Nat} (h : i < done.length) (h2 : i < l.length) : oPick (done.drop i) (l.drop i) k = if done[i] = true ∨ 0 < l[i] then oPick (done.drop (i + 1)) (l.drop (i + 1)) (k + 1) else some k := by
  rw [List.drop_eq_getElem_cons h, List.drop_eq_getElem_cons h2, oPick]
section
variable {G : Nat → Option Value} {Q : Exit → St → Prop} {st : St}
theorem sort_l2 {ins u : List (List Int)} {l0 out : List Int} {done : List Bool} {i : Nat} (hi : i < u.length) (hl : l0.length = u.length) (hin : inB u.length u) (hb : u[i].length < 2 ^ 40)
    (h0 : st.s 0 = slII ins) (h4 : st.s 4 = owI l0) (h5 : st.s 5 = owII u) (h10 : st.s 10 = owI out) (h11 : st.s 11 = owB done) (h95 : st.s 95 = .bor 5 [i] 0 u[i].length (st.ep 5)) (h96 : st.s 96 = li u[i].length) (h97 : st.s 97 = li 0)
    (hex : ∀ s, s.s 0 = slII ins → s.s 4 = owI (oDec u[i] l0) → s.s 5 = owII u → s.s 10 = owI out → s.s 11 = owB done → Q (.exit 8) s) : AW pg G 119 (.loop order_Sort_l2) Q st := by
  refine aw_loop (Nat × List Int) (fun p st => p.1 ≤ u[i].length ∧ oDec (u[i].drop p.1) p.2 = oDec u[i] l0 ∧ p.2.length = u.length ∧ st.s 0 = slII ins ∧ st.s 4 = owI p.2 ∧ st.s 5 = owII u ∧ st.s 10 = owI out ∧ st.s 11 = owB done ∧ st.s 95 = .bor 5 [i] 0 u[i].length (st.ep 5) ∧ st.s 96 = li u[i].length ∧ st.s 97 = li p.1) (fun p => u[i].length - p.1) (0, l0) ?_ ?_
  · exact ⟨by simp, by simp, hl, h0, h4, h5, h10, h11, h95, h96, h97⟩
  · clear h0 h4 h5 h10 h11 h95 h96 h97 hl
    rintro ⟨j, l⟩ st K ⟨hj, ht, hl, h0, h4, h5, h10, h11, h95, h96, h97⟩ hK
    simp only at hj ht hl h4 h97
    by_cases hlt : j < u[i].length
    · rw [List.drop_eq_getElem_cons hlt, oDec] at ht
      obtain ⟨k1, k2⟩ := hin _ (List.getElem_mem hi) _ (List.getElem_mem hlt)
      have k3 : u[i][j].toNat < l.length := by omega
      simp (disch := omega) [go_sem, order_Sort_l2, h4, h5, h95, h96, h97, hlt, k1, k2]
      refine hK (j + 1, l.set u[i][j].toNat (wr (l[u[i][j].toNat]! - 1))) _ ⟨by simp only; omega, ht, by simpa using hl, by simp (disch := omega) [go_sem, h0], ?_, by simp (disch := omega) [go_sem, h5], by simp (disch := omega) [go_sem, h10], by simp (disch := omega) [go_sem, h11], by simp (disch := omega) [go_sem, h95], by simp (disch := omega) [go_sem, h96], by simp (disch := omega) [go_sem, h97]⟩ (by simp only; omega)
      simp (disch := omega) [go_sem, h4]
    · rw [List.drop_eq_nil_of_le (by omega), oDec] at ht
      subst ht
      simp (disch := omega) [go_sem, order_Sort_l2, h96, h97, hlt]
      exact hex _ (by simp (disch := omega) [go_sem, h0]) (by simp (disch := omega) [go_sem, h4]) (by simp (disch := omega) [go_sem, h5]) (by simp (disch := omega) [go_sem, h10]) (by simp (disch := omega) [go_sem, h11])
theorem sort_l3 {ins u : List (List Int)} {l out : List Int} {done : List Bool} {n : Nat} (hn : n < 2 ^ 40) (hl : l.length = n) (hu : u.length = n) (hd : done.length = n) (ho : out.length < 2 ^ 41) (hin : inB n u) (hb : ∀ r ∈ u, r.length < 2 ^ 40)
    (h0 : st.s 0 = slII ins) (h4 : st.s 4 = owI l) (h5 : st.s 5 = owII u) (h10 : st.s 10 = owI out) (h11 : st.s 11 = owB done) (h70 : st.s 70 = li n) (h71 : st.s 71 = li 0)
    (hex : oPick done l 0 = none → ∀ s, s.s 0 = slII ins → s.s 4 = owI l → s.s 5 = owII u → s.s 10 = owI out → s.s 11 = owB done → Q (.exit 6) s)
    (hf : ∀ k s, oPick done l 0 = some k → k < n → done[k]! = false → s.s 0 = slII ins → s.s 4 = owI (oDec u[k]! l) → s.s 5 = owII u → s.s 10 = owI (out ++ [(k : Int)]) → s.s 11 = owB (done.set k true) → Q (.exit 5) s) : AW pg G 119 (.loop order_Sort_l3) Q st := by
  refine aw_loop Nat (fun i st => i ≤ n ∧ oPick (done.drop i) (l.drop i) i = oPick done l 0 ∧ st.s 0 = slII ins ∧ st.s 4 = owI l ∧ st.s 5 = owII u ∧ st.s 10 = owI out ∧ st.s 11 = owB done ∧ st.s 70 = li n ∧ st.s 71 = li i) (fun i => n - i) 0 ?_ ?_
  · exact ⟨by simp, by simp, h0, h4, h5, h10, h11, h70, h71⟩
  · clear h0 h4 h5 h10 h11 h70 h71
    rintro i st K ⟨hi, ht, h0, h4, h5, h10, h11, h70, h71⟩ hK
    by_cases hlt : i < n
    · have hlt1 : i < done.length := by omega
      have hlt2 : i < l.length := by omega
      have hlt3 : i < u.length := by omega
      rw [oPick_drop hlt1 hlt2] at ht
      have next : (done[i] = true ∨ 0 < l[i]) → ∀ s, s.s 0 = slII ins → s.s 4 = owI l → s.s 5 = owII u → s.s 10 = owI out → s.s 11 = owB done → s.s 70 = li n → s.s 71 = li (i + 1) → K s := fun hc s h0 h4 h5 h10 h11 h70 h71 => by
        rw [if_pos hc] at ht
        exact hK (i + 1) s ⟨by omega, ht, h0, h4, h5, h10, h11, h70, h71⟩ (by omega)
      by_cases hd1 : done[i] = true
      · simp (disch := omega) [go_sem, order_Sort_l3, h4, h5, h10, h11, h70, h71, hlt, hd1]
        exact next (.inl hd1) _ (by simp (disch := omega) [go_sem, h0]) (by simp (disch := omega) [go_sem, h4]) (by simp (disch := omega) [go_sem, h5]) (by simp (disch := omega) [go_sem, h10]) (by simp (disch := omega) [go_sem, h11]) (by simp (disch := omega) [go_sem, h70]) (by simp (disch := omega) [go_sem])
      · by_cases hl1 : 0 < l[i]
        · simp (disch := omega) [go_sem, order_Sort_l3, h4, h5, h10, h11, h70, h71, hlt, hd1, hl1]
          exact next (.inr hl1) _ (by simp (disch := omega) [go_sem, h0]) (by simp (disch := omega) [go_sem, h4]) (by simp (disch := omega) [go_sem, h5]) (by simp (disch := omega) [go_sem, h10]) (by simp (disch := omega) [go_sem, h11]) (by simp (disch := omega) [go_sem, h70]) (by simp (disch := omega) [go_sem])
        · rw [if_neg (by simp [hd1, hl1])] at ht
          simp (disch := omega) [go_sem, order_Sort_l3, h4, h5, h10, h11, h70, h71, hlt, hd1, hl1]
          refine sort_l2 (ins := ins) (u := u) (l0 := l) (out := out ++ [(i : Int)]) (done := done.set i true) (i := i) hlt3 (by omega) (by rw [hu]; exact hin) (hb _ (List.getElem_mem _)) (by simp (disch := omega) [go_sem, h0]) (by simp (disch := omega) [go_sem, h4]) (by simp (disch := omega) [go_sem, h5]) (by simp (disch := omega) [go_sem, h10]) (by simp (disch := omega) [go_sem, h11]) (by simp (disch := omega) [go_sem]) (by simp (disch := omega) [go_sem]) (by simp (disch := omega) [go_sem]) ?_
          intro s h0 h4 h5 h10 h11
          simp (disch := omega) [go_sem]
          exact hf i _ ht.symm hlt (by simpa [hlt1] using hd1) h0 (by simpa [hlt3] using h4) h5 h10 h11
    · obtain rfl : i = n := by omega
      rw [List.drop_eq_nil_of_le (by omega), oPick] at ht
      · simp (disch := omega) [go_sem, order_Sort_l3, h70, h71]
        exact hex ht.symm _ (by simp (disch := omega) [go_sem, h0]) (by simp (disch := omega) [go_sem, h4]) (by simp (disch := omega) [go_sem, h5]) (by simp (disch := omega) [go_sem, h10]) (by simp (disch := omega) [go_sem, h11])
      · intros; simp_all
/-- Rounds: the next one that can come. -/
def oLoop (u : List (List Int)) : Nat → List Bool → List Int → List Int → List Bool × List Int
  | 0, done, _, out => (done, out)
  | f + 1, done, l, out => match oPick done l 0 with
    | none => (done, out)
    | some i => oLoop u f (done.set i true) (oDec u[i]! l) (out ++ [(i : Int)])
theorem oPick_lt : ∀ {done : List Bool} {l : List Int} {k i : Nat}, oPick done l k = some i → k ≤ i ∧ ∃ h : i - k < done.length, done[i - k] = false
  | [], l, k, i, h => by cases l <;> simp [oPick] at h
  | d :: ds, [], k, i, h => by simp [oPick] at h
  | d :: ds, l :: ls, k, i, h => by
    simp only [oPick] at h
    split at h
    · obtain ⟨h1, h2, h3⟩ := oPick_lt h
      refine ⟨by omega, ?_⟩
      have e : i - k = (i - (k + 1)) + 1 := by omega
      simp only [e, List.length_cons, List.getElem_cons_succ]
      exact ⟨by omega, h3⟩
    · rename_i hc
      injection h with h
      subst h
      simp at hc
      simp [hc.1]
theorem oPick_cnt {done : List Bool} {l : List Int} {i : Nat} (h : oPick done l 0 = some i) : (done.set i true).count false + 1 = done.count false := by
  obtain ⟨_, h2, h3⟩ := oPick_lt h
  simp only [Nat.sub_zero] at h2 h3
  have e : done = done.take i ++ false :: done.drop (i + 1) := by
    conv => lhs; rw [← List.take_append_drop i done, List.drop_eq_getElem_cons h2, h3]
  have e2 : done.set i true = done.take i ++ true :: done.drop (i + 1) := by
    rw [List.set_eq_take_append_cons_drop, if_pos h2]
  rw [e2]
  conv => rhs; rw [e]
  simp
  omega
theorem sort_l4 {ins u : List (List Int)} {l0 out0 : List Int} {done0 : List Bool} {n f0 : Nat} (hn : n < 2 ^ 40) (hu : u.length = n) (hin : inB n u) (hb : ∀ r ∈ u, r.length < 2 ^ 40) (hl : l0.length = n) (hd : done0.length = n) (hc : done0.count false + out0.length = n) (hf : done0.count false ≤ f0)
    (h0 : st.s 0 = slII ins) (h4 : st.s 4 = owI l0) (h5 : st.s 5 = owII u) (h10 : st.s 10 = owI out0) (h11 : st.s 11 = owB done0)
    (hex : ∀ s, (oLoop u f0 done0 l0 out0).1.length = n → (oLoop u f0 done0 l0 out0).2.length ≤ n → s.s 10 = owI (oLoop u f0 done0 l0 out0).2 → s.s 11 = owB (oLoop u f0 done0 l0 out0).1 → Q (.exit 4) s) : AW pg G 119 (.loop order_Sort_l4) Q st := by
  refine aw_loop (Nat × List Bool × List Int × List Int) (fun p st => p.2.1.count false ≤ p.1 ∧ oLoop u p.1 p.2.1 p.2.2.1 p.2.2.2 = oLoop u f0 done0 l0 out0 ∧ p.2.1.length = n ∧ p.2.2.1.length = n ∧ p.2.1.count false + p.2.2.2.length = n ∧
    st.s 0 = slII ins ∧ st.s 4 = owI p.2.2.1 ∧ st.s 5 = owII u ∧ st.s 10 = owI p.2.2.2 ∧ st.s 11 = owB p.2.1) (fun p => p.1) (f0, done0, l0, out0) ?_ ?_
  · exact ⟨hf, rfl, hd, hl, hc, h0, h4, h5, h10, h11⟩
  · clear h0 h4 h5 h10 h11 hf hd hl hc
    rintro ⟨f, done, l, out⟩ st K ⟨hf, ht, hd, hl, hc, h0, h4, h5, h10, h11⟩ hK
    simp only at hf ht hd hl hc h4 h10 h11
    simp (disch := omega) [go_sem, order_Sort_l4, h4]
    refine sort_l3 (ins := ins) (u := u) (l := l) (out := out) (done := done) (n := n) hn hl hu hd (by omega) hin hb (by simp (disch := omega) [go_sem, h0]) (by simp (disch := omega) [go_sem, h4]) (by simp (disch := omega) [go_sem, h5]) (by simp (disch := omega) [go_sem, h10]) (by simp (disch := omega) [go_sem, h11]) (by simp (disch := omega) [go_sem, hl]) (by simp (disch := omega) [go_sem]) ?_ ?_
    · intro hp s h0 h4 h5 h10 h11
      have e : oLoop u f0 done0 l0 out0 = (done, out) := by
        rw [← ht]; cases f <;> simp [oLoop, hp]
      simp (disch := omega) [go_sem]
      exact hex _ (by rw [e]; exact hd) (by rw [e]; simp only; omega) (by rw [e]; exact h10) (by rw [e]; exact h11)
    · intro k s hp hk hdk h0 h4 h5 h10 h11
      have hcnt := oPick_cnt hp
      obtain ⟨f', rfl⟩ : ∃ f', f = f' + 1 := ⟨f - 1, by omega⟩
      rw [oLoop, hp] at ht
      simp (disch := omega) [go_sem]
      exact hK (f', done.set k true, oDec u[k]! l, out ++ [(k : Int)]) _ ⟨by simp only; omega, ht, by simpa using hd, by simp only [oDec_len]; exact hl, by simp only [List.length_append, List.length_cons, List.length_nil]; omega, h0, h4, h5, h10, h11⟩ (by simp only; omega)
end
/-- order.Sort, whole: the order; or a place and an error's variable. -/
def oSort (ins : List (List Int)) : Except (Int × Nat) (List Int) :=
  match oFill ins.length ins 0 (List.replicate ins.length []) (List.replicate ins.length 0) with
  | .error i => .error (i, 0)
  | .ok p =>
    if 0 ≤ indexB false (oLoop p.1 ins.length (List.replicate ins.length false) p.2 []).1 0 then .error (indexB false (oLoop p.1 ins.length (List.replicate ins.length false) p.2 []).1 0, 1)
    else .ok (oLoop p.1 ins.length (List.replicate ins.length false) p.2 []).2
def encS (bk : Nat → Nat × Nat) : Except (Int × Nat) (List Int) → AV
  | .error e => .tup [.own 1 0 [], encE bk (.at e.1 (.s e.2))]
  | .ok out => .tup [owI out, .lit .nilIface]
theorem sort15 {G : Nat → Option Value} {bk : Nat → Nat × Nat} (hS : Sent G bk) (ins : List (List Int)) (hn : ins.length < 2 ^ 40) (hc : tot ins < 2 ^ 40) : ACalls pg G F_order_Sort [slII ins] (encS bk (oSort ins)) := by
  refine order_Sort_call rfl ?_
  simp (disch := omega) [go_sem, order_Sort_c]
  refine sort_l1 hS (ins := ins) (u0 := List.replicate ins.length []) (l0 := List.replicate ins.length 0) hn hc (by simp (disch := omega) [go_sem]) (by simp (disch := omega) [go_sem]) (by simp (disch := omega) [go_sem]) (by simp (disch := omega) [go_sem]) (by simp (disch := omega) [go_sem]) (by simp (disch := omega) [go_sem]) (by simp) (by simp)
    (fun r hr => by rw [List.eq_of_mem_replicate hr]; simp) (fun r hr => by rw [List.eq_of_mem_replicate hr]; simp) ?_ ?_
  · intro u l s hfill hl hu hin hb h0 h4 h5
    simp (disch := omega) [go_sem, h0]
    refine sort_l4 (ins := ins) (u := u) (l0 := l) (out0 := []) (done0 := List.replicate ins.length false) (n := ins.length) (f0 := ins.length) hn hu hin hb hl (by simp) (by simp) (by simp) (by simp (disch := omega) [go_sem, h0]) (by simp (disch := omega) [go_sem, h4]) (by simp (disch := omega) [go_sem, h5]) (by simp (disch := omega) [go_sem]) (by simp (disch := omega) [go_sem]) ?_
    generalize hp : oLoop u ins.length (List.replicate ins.length false) l [] = p
    intro s hd ho h10 h11
    simp (disch := omega) [go_sem, h11]
    refine cal_pure (index46 G p.1 false (by omega)) rfl rfl ?_
    have hres : oSort ins = if 0 ≤ indexB false p.1 0 then .error (indexB false p.1 0, 1) else .ok p.2 := by
      simp only [oSort, hfill, hp]
    by_cases hk : 0 ≤ indexB false p.1 0
    · rw [if_pos hk] at hres
      simp (disch := omega) [go_sem, hk]
      refine aw_draw ?_
      simp (disch := omega) [go_sem, hS.val]
      refine dFin_i (by decide) fun s2 hs he => ?_
      simp (disch := omega) [go_sem, hs, hres, encS, encE]
    · rw [if_neg hk] at hres
      simp (disch := omega) [go_sem, hk, h10, hres, encS]
  · intro i s hfill hi h2 h3
    have hres : oSort ins = .error (i, 0) := by simp only [oSort, hfill]
    simp (disch := omega) [go_sem, h2, h3, hres, encS, encE]
end Go.Ideal.Tryd
end

section
set_option linter.unusedVariables false
set_option linter.unusedSimpArgs false
set_option maxRecDepth 10000
namespace Go.Ideal.Tryd
section
variable {G : Nat → Option Value} {bk : Nat → Nat × Nat}
theorem bare57 (n : Int) : ACalls pg G F_lodgeref_Bare [li n] (fault n false 0) := by
  refine lodgeref_Bare_call rfl ?_
  simp (disch := omega) [go_sem, lodgeref_Bare_c]
theorem alike140 (hS : Sent G bk) {g h : Nat} (hg : g < 21) (hh : h < 21) : ACalls pg G F_lodgesee_Alike [sv bk g, sv bk h] (lb (decide (g = h))) := by
  refine lodgesee_Alike_call rfl ?_
  simp (disch := omega) [go_sem, lodgesee_Alike_c, hS.blk]
  by_cases h2 : g = h
  · simp [h2]
  · simp [h2]; intro h3 h4; exact h2 (hS.inj _ _ hg hh (Prod.ext h3 h4))
theorem sentOrder_len : sentOrder.length = 21 := rfl
theorem sentOrder_lt : ∀ g ∈ sentOrder, g < 21 := by decide
def codeFrom (g : Nat) : List Nat → Nat → Int
  | [], _ => -1
  | h :: hs, i => if g = h then 101 + i else codeFrom g hs (i + 1)
/-- A sentinel's number. -/
def codeOf (g : Nat) : Int := codeFrom g sentOrder 0
theorem codeFrom_drop {g i k : Nat} (h : i < sentOrder.length) : codeFrom g (sentOrder.drop i) k = if g = sentOrder[i] then 101 + (k : Int) else codeFrom g (sentOrder.drop (i + 1)) (k + 1) := by
  rw [List.drop_eq_getElem_cons h]; rfl
theorem sentinel99 (hS : Sent G bk) {g : Nat} (hg : g < 21) : ACalls pg G F_lodgesee_sentinel [sv bk g] (li (codeOf g)) := by
  refine lodgesee_sentinel_call rfl ?_
  simp (disch := omega) [go_sem, lodgesee_sentinel_c]
  refine cal_pure (sentinels139 G bk hS) rfl rfl ?_
  simp (disch := omega) [go_sem]
  refine aw_loop Nat (fun i st => st.s 0 = sv bk g ∧ st.s 3 = .own 1 21 (sentOrder.map (sv bk)) ∧ st.s 4 = li i ∧ i ≤ 21 ∧ codeFrom g (sentOrder.drop i) i = codeOf g) (fun i => 21 - i) 0 ?_ ?_
  · exact ⟨by simp (disch := omega) [go_sem], by simp (disch := omega) [go_sem], by simp (disch := omega) [go_sem], by simp, rfl⟩
  · rintro i st K ⟨h0, h3, h4, hi, hc⟩ hK
    by_cases hlt : i < 21
    · have hlt' : i < sentOrder.length := hlt
      rw [codeFrom_drop hlt'] at hc
      have hlt2 : sentOrder[i] < 21 := sentOrder_lt _ (List.getElem_mem hlt')
      simp (disch := omega) [go_sem, lodgesee_sentinel_l0, h0, h3, h4, sentOrder_len, hlt]
      refine cal_pure (alike140 hS hg hlt2) rfl rfl ?_
      by_cases hgi : g = sentOrder[i]
      · rw [if_pos hgi] at hc
        simp (disch := omega) [go_sem, h4, ← hgi, ← hc]
      · rw [if_neg hgi] at hc
        simp (disch := omega) [go_sem, h0, h3, h4, hgi]
        exact hK (i + 1) _ ⟨by simp (disch := omega) [go_sem, h0], by simp (disch := omega) [go_sem, h3], by simp (disch := omega) [go_sem, h4], by omega, hc⟩ (by omega)
    · obtain rfl : i = 21 := by omega
      have : codeOf g = -1 := by rw [← hc]; rfl
      simp (disch := omega) [go_sem, lodgesee_sentinel_l0, h3, h4, this]
abbrev fl (x : Int × Bool × Int) : AV := fault x.1 x.2.1 x.2.2
/-- What lodgesee.Fault says. -/
def Er.flt : Er → Int × Bool × Int
  | .nil => (0, false, 0)
  | .s g => (codeOf g, false, 0)
  | .at p (.s g) => (codeOf g, true, p)
  | _ => (-1, false, 0)
inductive Er.ok : Er → Prop
  | nil : Er.ok .nil
  | s {g : Nat} (h : g < 21) : Er.ok (.s g)
  | at {p : Int} {g : Nat} (h : g < 21) : Er.ok (.at p (.s g))
theorem codeOf_ne : ∀ g, g < 21 → codeOf g ≠ 0 := by decide
theorem fault49 (hS : Sent G bk) {e : Er} (he : e.ok) : ACalls pg G F_lodgesee_Fault [encE bk e] (fl e.flt) := by
  refine lodgesee_Fault_call rfl ?_
  cases he with
  | nil =>
    simp (disch := omega) [go_sem, lodgesee_Fault_c, encE]
    refine cal_pure (none47 G) rfl rfl ?_
    simp (disch := omega) [go_sem, Er.flt]
  | s h =>
    simp (disch := omega) [go_sem, lodgesee_Fault_c, encE]
    refine cal_pure (sentinel99 hS h) rfl rfl ?_
    simp (disch := omega) [go_sem]
    refine cal_pure (bare57 _) rfl rfl ?_
    simp (disch := omega) [go_sem, Er.flt]
  | @«at» p g h =>
    simp (disch := omega) [go_sem, lodgesee_Fault_c, encE]
    refine aw_draw ?_
    simp (disch := omega) [go_sem]
    refine dCal_pure (sentinel99 hS h) rfl rfl (by simp) [32] (by simp) (by simp (disch := omega) [go_sem]) ?_
    simp (disch := omega) [go_sem]
    refine dCal_pure (placed20 G _ _) (by split <;> rfl) (by split <;> rfl) (by simp) [37] (by simp) (by simp (disch := omega) [go_sem]) ?_
    rw [if_neg (codeOf_ne g h)]
    simp (disch := omega) [go_sem]
    refine dFin_i (by decide) fun s2 hs he => ?_
    simp (disch := omega) [go_sem, hs, Er.flt]
theorem encE_nr (e : Er) : noRef (encE bk e) = true ∧ noOwn (encE bk e) = true := by
  cases e <;> simp [encE, noRef, noOwn]
theorem same18 (hS : Sent G bk) {e : Er} (he : e.ok) (f : Int × Bool × Int) : ACalls pg G F_lodgesee_Same [encE bk e, fl f] (lb (decide (e.flt = f))) := by
  refine lodgesee_Same_call rfl ?_
  have hf := fault49 (G := G) (bk := bk) hS he
  have goal : ∀ x : Int × Bool × Int, (decide (x.1 = f.1) && (decide (x.2.1 = f.2.1) && decide (x.2.2 = f.2.2))) = decide (x = f) := by
    rintro ⟨a, b, c⟩; obtain ⟨d, e, f⟩ := f; simp
  cases he with
  | _ =>
    simp (disch := omega) [go_sem, lodgesee_Same_c, encE] at hf ⊢
    refine aw_draw ?_
    simp (disch := omega) [go_sem]
    refine dCal_pure hf rfl rfl (by simp) [6] (by simp) (by simp (disch := omega) [go_sem]) ?_
    simp (disch := omega) [go_sem]
    refine dCal_pure (same48 G _ _ _ _ _ _) rfl rfl (by simp) [8] (by simp) (by simp (disch := omega) [go_sem]) ?_
    simp (disch := omega) [go_sem]
    refine dFin_i (by decide) fun s2 hs he => ?_
    simp (disch := omega) [go_sem, hs]
    exact goal _
end
end Go.Ideal.Tryd
end

section
set_option linter.unusedVariables false
set_option linter.unusedSimpArgs false
set_option maxRecDepth 10000
namespace Go.Ideal.Tryd
section
variable {G : Nat → Option Value} {bk : Nat → Nat}
theorem list_eq_get {α : Type} [Inhabited α] {xs ys : List α} (hl : xs.length = ys.length) (h : ∀ i, i < xs.length → xs[i]! = ys[i]!) : xs = ys := by
  apply List.ext_getElem hl
  intro i h1 h2
  have := h i h1
  simpa [h1, h2] using this
theorem sameInts17 {a b : List Int} (ha : a.length < 2 ^ 62) : ACalls pg G F_lodgeref_SameInts [slI a, slI b] (lb (decide (a = b))) := by
  refine lodgeref_SameInts_call rfl ?_
  by_cases hl : a.length = b.length
  · have hl' : (a.length : Int) = b.length := by omega
    simp (disch := omega) [go_sem, lodgeref_SameInts_c, hl']
    refine aw_loop Nat (fun i st => st.s 0 = slI a ∧ st.s 1 = slI b ∧ st.s 5 = li i ∧ i ≤ a.length ∧ ∀ j, j < i → a[j]! = b[j]!) (fun i => a.length - i) 0 ?_ ?_
    · exact ⟨by simp (disch := omega) [go_sem, hl], by simp (disch := omega) [go_sem], by simp (disch := omega) [go_sem], by simp, fun j hj => by omega⟩
    · rintro i st K ⟨h0, h1, h5, hi, hc⟩ hK
      by_cases hlt : i < a.length
      · have hlt2 : i < b.length := by omega
        simp (disch := omega) [go_sem, lodgeref_SameInts_l0, h0, h1, h5, hlt]
        refine aw_draw ?_
        simp (disch := omega) [go_sem, h0, h1, h5]
        refine dFin_i (by decide) fun s2 hs he => ?_
        by_cases he2 : a[i] = b[i]
        · simp (disch := omega) [go_sem, hs, he2, h5]
          exact hK (i + 1) _ ⟨by simp (disch := omega) [go_sem, hs, h0], by simp (disch := omega) [go_sem, hs, h1], by simp (disch := omega) [go_sem], by omega, fun j hj => by
            by_cases hji : j = i
            · subst hji; simpa [hlt, hlt2] using he2
            · exact hc j (by omega)⟩ (by omega)
        · have : a ≠ b := by rintro rfl; exact he2 rfl
          simp (disch := omega) [go_sem, hs, he2, h5, this]
      · have : a = b := list_eq_get hl fun j hj => hc j (by omega)
        simp (disch := omega) [go_sem, lodgeref_SameInts_l0, h0, h5, hlt, this]
  · have hl' : ¬ (a.length : Int) = b.length := by omega
    have : a ≠ b := by rintro rfl; exact hl rfl
    simp (disch := omega) [go_sem, lodgeref_SameInts_c, hl', this]
end
end Go.Ideal.Tryd
end

section
set_option linter.unusedVariables false
set_option linter.unusedSimpArgs false
set_option maxRecDepth 10000
namespace Go.Ideal.Tryd
/-! ### lodgeref17.Sort, as it is written -/
def badN (n : Nat) (k : Int) : Bool := decide (k < 0) || decide ((n : Int) ≤ k)
def rBad (n : Nat) : List (List Int) → Nat → Option Nat
  | [], _ => none
  | r :: rs, k => if r.any (badN n) then some k else rBad n rs (k + 1)
def rScan (done : List Bool) : List (List Int) → Nat → Int → Int × Int
  | [], _, f => (-1, f)
  | r :: rs, k, f => if done[k]! then rScan done rs (k + 1) f else
    if r.all (fun x => done[x.toNat]!) then (k, if f < 0 then k else f) else rScan done rs (k + 1) (if f < 0 then k else f)
def rLoop (ins : List (List Int)) : Nat → List Bool → List Int → Except Int (List Int)
  | 0, _, out => .ok out
  | f + 1, done, out => if (rScan done ins 0 (-1)).1 < 0 then .error (rScan done ins 0 (-1)).2 else rLoop ins f (done.set (rScan done ins 0 (-1)).1.toNat true) (out ++ [(rScan done ins 0 (-1)).1])
def rSort (ins : List (List Int)) : List Int × (Int × Bool × Int) := match rBad ins.length ins 0 with
  | some k => ([], (107, true, k))
  | none => match rLoop ins ins.length (List.replicate ins.length false) [] with
    | .error f => ([], (111, true, f))
    | .ok out => (out, (0, false, 0))
section
variable {G : Nat → Option Value} {bk : Nat → Nat × Nat} {Q : Exit → St → Prop} {st : St}
theorem rsort_l0 {ins : List (List Int)} {i : Nat} (hi : i < ins.length) (hn : ins.length < 2 ^ 40) (hr : ins[i].length < 2 ^ 40) {ks : List AV} (h0 : st.s 0 = slII ins) (h3 : st.s 3 = .var [li 0, lb false, li 0]) (h4 : st.s 4 = li i) (h5 : st.s 5 = li 0)
    (hex : ins[i].any (badN ins.length) = false → ∀ s, s.s 0 = slII ins → s.s 3 = .var [li 0, lb false, li 0] → s.s 4 = li i → Q (.exit 2) s)
    (hret : ins[i].any (badN ins.length) = true → ∀ s, s.s 2 = .own 1 0 [] → s.s 3 = .var [li 107, lb true, li i] → Q .ret s) : AW pg G 112 (.loop lodgeref17_Sort_l0) Q st := by
  refine aw_loop Nat (fun j st => j ≤ ins[i].length ∧ (ins[i].drop j).any (badN ins.length) = ins[i].any (badN ins.length) ∧ st.s 0 = slII ins ∧ st.s 3 = .var [li 0, lb false, li 0] ∧ st.s 4 = li i ∧ st.s 5 = li j) (fun j => ins[i].length - j) 0 ?_ ?_
  · exact ⟨by simp, rfl, h0, h3, h4, h5⟩
  · clear h0 h3 h4 h5
    rintro j st K ⟨hj, ht, h0, h3, h4, h5⟩ hK
    by_cases hlt : j < ins[i].length
    · rw [List.drop_eq_getElem_cons hlt, List.any_cons] at ht
      by_cases hk1 : ins[i][j] < 0
      · simp (disch := omega) [go_sem, lodgeref17_Sort_l0, h0, h4, h5, hlt, hk1]
        rw [show badN ins.length ins[i][j] = true by simp [badN, hk1]] at ht
        refine cal_pure (placed20 G _ _) (by split <;> rfl) (by split <;> rfl) ?_
        simp (disch := omega) [go_sem, h3]
        exact hret (by simpa using ht.symm) _ (by simp (disch := omega) [go_sem]) (by simp (disch := omega) [go_sem])
      · by_cases hk2 : (ins.length : Int) ≤ ins[i][j]
        · simp (disch := omega) [go_sem, lodgeref17_Sort_l0, h0, h4, h5, hlt, hk1, hk2]
          rw [show badN ins.length ins[i][j] = true by simp [badN, hk2]] at ht
          refine cal_pure (placed20 G _ _) (by split <;> rfl) (by split <;> rfl) ?_
          simp (disch := omega) [go_sem, h3]
          exact hret (by simpa using ht.symm) _ (by simp (disch := omega) [go_sem]) (by simp (disch := omega) [go_sem])
        · have hb : badN ins.length ins[i][j] = false := by simp [badN]; omega
          rw [hb, Bool.false_or] at ht
          simp (disch := omega) [go_sem, lodgeref17_Sort_l0, h0, h4, h5, hlt, hk1, hk2]
          exact hK (j + 1) _ ⟨by omega, ht, by simp (disch := omega) [go_sem, h0], by simp (disch := omega) [go_sem, h3], by simp (disch := omega) [go_sem, h4], by simp (disch := omega) [go_sem, h5]⟩ (by omega)
    · rw [List.drop_eq_nil_of_le (by omega)] at ht
      simp (disch := omega) [go_sem, lodgeref17_Sort_l0, h0, h4, h5, hlt]
      exact hex (by simpa using ht.symm) _ (by simp (disch := omega) [go_sem, h0]) (by simp (disch := omega) [go_sem, h3]) (by simp (disch := omega) [go_sem, h4])
theorem rsort_l1 {ins : List (List Int)} (hn : ins.length < 2 ^ 40) (hr : ∀ r ∈ ins, r.length < 2 ^ 40) (h0 : st.s 0 = slII ins) (h3 : st.s 3 = .var [li 0, lb false, li 0]) (h4 : st.s 4 = li 0)
    (hex : rBad ins.length ins 0 = none → ∀ s, s.s 0 = slII ins → s.s 3 = .var [li 0, lb false, li 0] → Q (.exit 0) s)
    (hret : ∀ k s, rBad ins.length ins 0 = some k → s.s 2 = .own 1 0 [] → s.s 3 = .var [li 107, lb true, li k] → Q .ret s) : AW pg G 112 (.loop lodgeref17_Sort_l1) Q st := by
  refine aw_loop Nat (fun i st => i ≤ ins.length ∧ rBad ins.length (ins.drop i) i = rBad ins.length ins 0 ∧ st.s 0 = slII ins ∧ st.s 3 = .var [li 0, lb false, li 0] ∧ st.s 4 = li i) (fun j => ins.length - j) 0 ?_ ?_
  · exact ⟨by simp, rfl, h0, h3, h4⟩
  · clear h0 h3 h4
    rintro i st K ⟨hi, ht, h0, h3, h4⟩ hK
    by_cases hlt : i < ins.length
    · rw [List.drop_eq_getElem_cons hlt, rBad] at ht
      simp (disch := omega) [go_sem, lodgeref17_Sort_l1, h0, h4, hlt]
      refine rsort_l0 hlt hn (hr _ (List.getElem_mem hlt)) (ks := []) (by simp (disch := omega) [go_sem, h0]) (by simp (disch := omega) [go_sem, h3]) (by simp (disch := omega) [go_sem, h4]) (by simp (disch := omega) [go_sem]) ?_ ?_
      · intro hb s h0 h3 h4
        rw [if_neg (by simp [hb])] at ht
        simp (disch := omega) [go_sem, h4]
        exact hK (i + 1) _ ⟨by omega, ht, by simp (disch := omega) [go_sem, h0], by simp (disch := omega) [go_sem, h3], by simp (disch := omega) [go_sem, h4]⟩ (by omega)
      · intro hb s h2 h3
        rw [if_pos hb] at ht
        simp (disch := omega) [go_sem]
        exact hret i s ht.symm h2 h3
    · rw [List.drop_eq_nil_of_le (by omega), rBad] at ht
      simp (disch := omega) [go_sem, lodgeref17_Sort_l1, h0, h4, hlt]
      exact hex ht.symm _ (by simp (disch := omega) [go_sem, h0]) (by simp (disch := omega) [go_sem, h3])
theorem rsort_l2 {ins : List (List Int)} {done : List Bool} {out : List Int} {k : Nat} {nx f : Int} (hk : k < ins.length) (hn : ins.length < 2 ^ 40) (hr : ins[k].length < 2 ^ 40) (hd : done.length = ins.length) (hin : inB ins.length ins)
    (h0 : st.s 0 = slII ins) (h3 : st.s 3 = .var [li 0, lb false, li 0]) (h6 : st.s 6 = owB done) (h7 : st.s 7 = owI out) (h8 : st.s 8 = li nx) (h9 : st.s 9 = li f) (h10 : st.s 10 = li k) (h11 : st.s 11 = lb true) (h12 : st.s 12 = li 0)
    (hex : ∀ s, s.s 0 = slII ins → s.s 3 = .var [li 0, lb false, li 0] → s.s 6 = owB done → s.s 7 = owI out → s.s 8 = li nx → s.s 9 = li f → s.s 10 = li k → s.s 11 = lb (ins[k].all fun x => done[x.toNat]!) → Q (.exit 8) s) : AW pg G 112 (.loop lodgeref17_Sort_l2) Q st := by
  refine aw_loop (Nat × Bool) (fun p st => p.1 ≤ ins[k].length ∧ (p.2 && (ins[k].drop p.1).all fun x => done[x.toNat]!) = (ins[k].all fun x => done[x.toNat]!) ∧ st.s 0 = slII ins ∧ st.s 3 = .var [li 0, lb false, li 0] ∧ st.s 6 = owB done ∧ st.s 7 = owI out ∧ st.s 8 = li nx ∧ st.s 9 = li f ∧ st.s 10 = li k ∧ st.s 11 = lb p.2 ∧ st.s 12 = li p.1) (fun p => ins[k].length - p.1) (0, true) ?_ ?_
  · exact ⟨by simp, by simp, h0, h3, h6, h7, h8, h9, h10, h11, h12⟩
  · clear h0 h3 h6 h7 h8 h9 h10 h11 h12
    rintro ⟨j, b⟩ st K ⟨hj, ht, h0, h3, h6, h7, h8, h9, h10, h11, h12⟩ hK
    simp only at hj ht h11 h12
    by_cases hlt : j < ins[k].length
    · rw [List.drop_eq_getElem_cons hlt, List.all_cons] at ht
      obtain ⟨k1, k2⟩ := hin _ (List.getElem_mem hk) _ (List.getElem_mem hlt)
      have k3 : ins[k][j].toNat < done.length := by omega
      cases b with
      | true =>
        simp (disch := omega) [go_sem, lodgeref17_Sort_l2, h0, h6, h10, h11, h12, hlt, k1, k2]
        exact hK (j + 1, done[ins[k][j].toNat]!) _ ⟨by simp only; omega, by rw [← ht]; simp, by simp (disch := omega) [go_sem, h0], by simp (disch := omega) [go_sem, h3], by simp (disch := omega) [go_sem, h6], by simp (disch := omega) [go_sem, h7], by simp (disch := omega) [go_sem, h8], by simp (disch := omega) [go_sem, h9], by simp (disch := omega) [go_sem, h10], by simp (disch := omega) [go_sem, k3], by simp (disch := omega) [go_sem, h12]⟩ (by simp only; omega)
      | false =>
        simp (disch := omega) [go_sem, lodgeref17_Sort_l2, h0, h6, h10, h11, h12, hlt, k1, k2]
        exact hK (j + 1, false) _ ⟨by simp only; omega, by rw [← ht]; simp, by simp (disch := omega) [go_sem, h0], by simp (disch := omega) [go_sem, h3], by simp (disch := omega) [go_sem, h6], by simp (disch := omega) [go_sem, h7], by simp (disch := omega) [go_sem, h8], by simp (disch := omega) [go_sem, h9], by simp (disch := omega) [go_sem, h10], by simp (disch := omega) [go_sem], by simp (disch := omega) [go_sem, h12]⟩ (by simp only; omega)
    · rw [List.drop_eq_nil_of_le (by omega), List.all_nil, Bool.and_true] at ht
      simp (disch := omega) [go_sem, lodgeref17_Sort_l2, h0, h10, h12, hlt]
      exact hex _ (by simp (disch := omega) [go_sem, h0]) (by simp (disch := omega) [go_sem, h3]) (by simp (disch := omega) [go_sem, h6]) (by simp (disch := omega) [go_sem, h7]) (by simp (disch := omega) [go_sem, h8]) (by simp (disch := omega) [go_sem, h9]) (by simp (disch := omega) [go_sem, h10]) (by simp (disch := omega) [go_sem, h11, ht])
theorem rsort_l3 {ins : List (List Int)} {done : List Bool} {out : List Int} (hn : ins.length < 2 ^ 40) (hr : ∀ r ∈ ins, r.length < 2 ^ 40) (hd : done.length = ins.length) (hin : inB ins.length ins)
    (h0 : st.s 0 = slII ins) (h3 : st.s 3 = .var [li 0, lb false, li 0]) (h6 : st.s 6 = owB done) (h7 : st.s 7 = owI out) (h8 : st.s 8 = li (-1)) (h9 : st.s 9 = li (-1)) (h10 : st.s 10 = li 0)
    (hex : ∀ s, s.s 0 = slII ins → s.s 3 = .var [li 0, lb false, li 0] → s.s 6 = owB done → s.s 7 = owI out → s.s 8 = li (rScan done ins 0 (-1)).1 → s.s 9 = li (rScan done ins 0 (-1)).2 → Q (.exit 6) s) : AW pg G 112 (.loop lodgeref17_Sort_l3) Q st := by
  refine aw_loop (Nat × Int × Int) (fun p st => p.1 ≤ ins.length ∧ (if p.2.1 < 0 then p.2.1 = -1 ∧ rScan done (ins.drop p.1) p.1 p.2.2 = rScan done ins 0 (-1) else rScan done ins 0 (-1) = (p.2.1, p.2.2)) ∧ st.s 0 = slII ins ∧ st.s 3 = .var [li 0, lb false, li 0] ∧ st.s 6 = owB done ∧ st.s 7 = owI out ∧ st.s 8 = li p.2.1 ∧ st.s 9 = li p.2.2 ∧ st.s 10 = li p.1) (fun p => ins.length - p.1) (0, -1, -1) ?_ ?_
  · exact ⟨by simp, by simp, h0, h3, h6, h7, h8, h9, h10⟩
  · clear h0 h3 h6 h7 h8 h9 h10
    rintro ⟨k, nx, f⟩ st K ⟨hk, ht, h0, h3, h6, h7, h8, h9, h10⟩ hK
    simp only at hk ht h8 h9 h10
    by_cases hlt : k < ins.length
    · by_cases hnx : nx < 0
      · rw [if_pos hnx] at ht
        obtain ⟨rfl, ht⟩ := ht
        have hlt2 : k < done.length := by omega
        rw [List.drop_eq_getElem_cons hlt, rScan] at ht
        by_cases hdk : done[k] = true
        · rw [if_pos (by simpa [hlt2] using hdk)] at ht
          simp (disch := omega) [go_sem, lodgeref17_Sort_l3, h0, h6, h8, h9, h10, hlt, hdk]
          exact hK (k + 1, -1, f) _ ⟨by simp only; omega, by simpa using ht, by simp (disch := omega) [go_sem, h0], by simp (disch := omega) [go_sem, h3], by simp (disch := omega) [go_sem, h6], by simp (disch := omega) [go_sem, h7], by simp (disch := omega) [go_sem, h8], by simp (disch := omega) [go_sem, h9], by simp (disch := omega) [go_sem, h10]⟩ (by simp only; omega)
        · rw [if_neg (by simpa [hlt2] using hdk)] at ht
          have step : ∀ (f' : Int) (s : St) (Q' : Exit → St → Prop), f' = (if f < 0 then (k : Int) else f) → s.s 0 = slII ins → s.s 3 = .var [li 0, lb false, li 0] → s.s 6 = owB done → s.s 7 = owI out → s.s 8 = li (-1) → s.s 9 = li f' → s.s 10 = li k → s.s 11 = lb true → s.s 12 = li 0 →
              AW pg G 112 (.loop lodgeref17_Sort_l2) (blockA 8 (thenA (AW pg G 112 (.seq (.reg lodgeref17_Sort_r25) (.cond (.t 97) (.reg lodgeref17_Sort_r26) .skip)) (blockA 7 (thenA (AW pg G 112 (.reg lodgeref17_Sort_r16) (thenA K Q)) Q'))) (blockA 7 (thenA (AW pg G 112 (.reg lodgeref17_Sort_r16) (thenA K Q)) Q')))) s := by
            intro f' s Q' hf' h0 h3 h6 h7 h8 h9 h10 h11 h12
            refine rsort_l2 (ins := ins) (done := done) (out := out) (k := k) (nx := -1) (f := f') hlt hn (hr _ (List.getElem_mem _)) hd hin h0 h3 h6 h7 h8 h9 h10 h11 h12 ?_
            intro s h0 h3 h6 h7 h8 h9 h10 h11
            by_cases hfr : (ins[k].all fun x => done[x.toNat]!) = true
            · rw [if_pos hfr] at ht
              simp (disch := omega) only [hfr] at h11
              simp (disch := omega) [go_sem, h10, h11]
              exact hK (k + 1, k, f') _ ⟨by simp only; omega, by rw [if_neg (by simp only; omega)]; simp only; rw [hf', ← ht], by simp (disch := omega) [go_sem, h0], by simp (disch := omega) [go_sem, h3], by simp (disch := omega) [go_sem, h6], by simp (disch := omega) [go_sem, h7], by simp (disch := omega) [go_sem, h8], by simp (disch := omega) [go_sem, h9], by simp (disch := omega) [go_sem, h10]⟩ (by simp only; omega)
            · rw [if_neg hfr] at ht
              rw [show (ins[k].all fun x => done[x.toNat]!) = false by simpa using hfr] at h11
              simp (disch := omega) [go_sem, h10, h11]
              exact hK (k + 1, -1, f') _ ⟨by simp only; omega, by simp only; rw [if_pos (by omega)]; exact ⟨trivial, by rw [hf']; exact ht⟩, by simp (disch := omega) [go_sem, h0], by simp (disch := omega) [go_sem, h3], by simp (disch := omega) [go_sem, h6], by simp (disch := omega) [go_sem, h7], by simp (disch := omega) [go_sem, h8], by simp (disch := omega) [go_sem, h9], by simp (disch := omega) [go_sem, h10]⟩ (by simp only; omega)
          by_cases hf : f < 0
          · simp (disch := omega) [go_sem, lodgeref17_Sort_l3, h0, h6, h8, h9, h10, hlt, hdk, hf]
            exact step k _ _ (by rw [if_pos hf]) (by simp (disch := omega) [go_sem, h0]) (by simp (disch := omega) [go_sem, h3]) (by simp (disch := omega) [go_sem, h6]) (by simp (disch := omega) [go_sem, h7]) (by simp (disch := omega) [go_sem, h8]) (by simp (disch := omega) [go_sem, h9]) (by simp (disch := omega) [go_sem, h10]) (by simp (disch := omega) [go_sem]) (by simp (disch := omega) [go_sem])
          · simp (disch := omega) [go_sem, lodgeref17_Sort_l3, h0, h6, h8, h9, h10, hlt, hdk, hf]
            exact step f _ _ (by rw [if_neg hf]) (by simp (disch := omega) [go_sem, h0]) (by simp (disch := omega) [go_sem, h3]) (by simp (disch := omega) [go_sem, h6]) (by simp (disch := omega) [go_sem, h7]) (by simp (disch := omega) [go_sem, h8]) (by simp (disch := omega) [go_sem, h9]) (by simp (disch := omega) [go_sem, h10]) (by simp (disch := omega) [go_sem]) (by simp (disch := omega) [go_sem])
      · rw [if_neg hnx] at ht
        simp (disch := omega) [go_sem, lodgeref17_Sort_l3, h0, h8, h10, hlt, hnx]
        exact hex _ (by simp (disch := omega) [go_sem, h0]) (by simp (disch := omega) [go_sem, h3]) (by simp (disch := omega) [go_sem, h6]) (by simp (disch := omega) [go_sem, h7]) (by simp (disch := omega) [go_sem, h8, ht]) (by simp (disch := omega) [go_sem, h9, ht])
    · have hres : rScan done ins 0 (-1) = (nx, f) := by
        split at ht
        · obtain ⟨rfl, ht⟩ := ht
          rw [List.drop_eq_nil_of_le (by omega), rScan] at ht
          exact ht.symm
        · exact ht
      simp (disch := omega) [go_sem, lodgeref17_Sort_l3, h0, h10, hlt]
      exact hex _ (by simp (disch := omega) [go_sem, h0]) (by simp (disch := omega) [go_sem, h3]) (by simp (disch := omega) [go_sem, h6]) (by simp (disch := omega) [go_sem, h7]) (by simp (disch := omega) [go_sem, h8, hres]) (by simp (disch := omega) [go_sem, h9, hres])
theorem rScan_rng {done : List Bool} : ∀ {rs : List (List Int)} {k : Nat} {f : Int}, (rScan done rs k f).1 = -1 ∨ ((k : Int) ≤ (rScan done rs k f).1 ∧ (rScan done rs k f).1 < k + rs.length)
  | [], k, f => by simp [rScan]
  | r :: rs, k, f => by
    simp only [rScan, List.length_cons]
    split
    · rcases rScan_rng (done := done) (rs := rs) (k := k + 1) (f := f) with h | h
      · exact .inl h
      · exact .inr (by omega)
    · split
      · exact .inr (by simp only; omega)
      · rcases rScan_rng (done := done) (rs := rs) (k := k + 1) (f := if f < 0 then k else f) with h | h
        · exact .inl h
        · exact .inr (by omega)
theorem rsort_l4 {ins : List (List Int)} {done0 : List Bool} {f0 : Nat} {out0 : List Int} (hn : ins.length < 2 ^ 40) (hr : ∀ r ∈ ins, r.length < 2 ^ 40) (hd : done0.length = ins.length) (ho : out0.length + f0 = ins.length) (hin : inB ins.length ins)
    (h0 : st.s 0 = slII ins) (h3 : st.s 3 = .var [li 0, lb false, li 0]) (h6 : st.s 6 = owB done0) (h7 : st.s 7 = owI out0)
    (hex : ∀ out s, rLoop ins f0 done0 out0 = .ok out → s.s 3 = .var [li 0, lb false, li 0] → s.s 7 = owI out → Q (.exit 4) s)
    (hret : ∀ f s, rLoop ins f0 done0 out0 = .error f → s.s 2 = .own 1 0 [] → s.s 3 = .var [li 111, lb true, li f] → Q .ret s) : AW pg G 112 (.loop lodgeref17_Sort_l4) Q st := by
  refine aw_loop (Nat × List Bool × List Int) (fun p st => p.2.2.length + p.1 = ins.length ∧ p.2.1.length = ins.length ∧ rLoop ins p.1 p.2.1 p.2.2 = rLoop ins f0 done0 out0 ∧ st.s 0 = slII ins ∧ st.s 3 = .var [li 0, lb false, li 0] ∧ st.s 6 = owB p.2.1 ∧ st.s 7 = owI p.2.2) (fun p => p.1) (f0, done0, out0) ?_ ?_
  · exact ⟨ho, hd, rfl, h0, h3, h6, h7⟩
  · clear h0 h3 h6 h7 hd ho
    rintro ⟨f, done, out⟩ st K ⟨ho, hd, ht, h0, h3, h6, h7⟩ hK
    simp only at ho hd ht h6 h7
    cases f with
    | zero =>
      rw [rLoop] at ht
      simp (disch := omega) [go_sem, lodgeref17_Sort_l4, h0, h7]
      exact hex out _ ht.symm (by simp (disch := omega) [go_sem, h3]) (by simp (disch := omega) [go_sem, h7])
    | succ f =>
      have hlt : (out.length : Int) < ins.length := by omega
      simp (disch := omega) [go_sem, lodgeref17_Sort_l4, h0, h7, hlt]
      refine rsort_l3 (ins := ins) (done := done) (out := out) hn hr hd hin (by simp (disch := omega) [go_sem, h0]) (by simp (disch := omega) [go_sem, h3]) (by simp (disch := omega) [go_sem, h6]) (by simp (disch := omega) [go_sem, h7]) (by simp (disch := omega) [go_sem]) (by simp (disch := omega) [go_sem]) (by simp (disch := omega) [go_sem]) ?_
      have hrng := rScan_rng (done := done) (rs := ins) (k := 0) (f := -1)
      simp only [rLoop] at ht
      generalize rScan done ins 0 (-1) = p at ht hrng
      obtain ⟨nx, fi⟩ := p
      simp only at ht hrng
      intro s h0 h3 h6 h7 h8 h9
      simp only at h8 h9
      by_cases hnx : nx < 0
      · rw [if_pos hnx] at ht
        simp (disch := omega) [go_sem, h8, h9, hnx]
        refine cal_pure (placed20 G _ _) (by split <;> rfl) (by split <;> rfl) ?_
        simp (disch := omega) [go_sem, h3]
        exact hret fi _ ht.symm (by simp (disch := omega) [go_sem]) (by simp (disch := omega) [go_sem])
      · rw [if_neg hnx] at ht
        have h1 : nx.toNat < done.length := by omega
        simp (disch := omega) [go_sem, h6, h7, h8, hnx]
        exact hK (f, done.set nx.toNat true, out ++ [nx]) _ ⟨by simp only [List.length_append, List.length_cons, List.length_nil]; omega, by simpa using hd, ht, by simp (disch := omega) [go_sem, h0], by simp (disch := omega) [go_sem, h3], by simp (disch := omega) [go_sem, h6], by simp (disch := omega) [go_sem]⟩ (by simp only; omega)
theorem rBad_none {n : Nat} : ∀ {rs : List (List Int)} {k : Nat}, rBad n rs k = none → inB n rs
  | [], k, h => fun r hr => by simp at hr
  | r :: rs, k, h => by
    simp only [rBad] at h
    split at h
    · cases h
    · rename_i hb
      intro x hx
      rcases List.mem_cons.1 hx with rfl | hx
      · intro y hy
        have : badN n y = false := by
          simp only [List.any_eq_true, not_exists, not_and, Bool.not_eq_true] at hb
          exact hb y hy
        simp [badN] at this
        omega
      · exact rBad_none h x hx
theorem rsort16 (ins : List (List Int)) (hn : ins.length < 2 ^ 40) (hr : ∀ r ∈ ins, r.length < 2 ^ 40) : ACalls pg G F_lodgeref17_Sort [slII ins] (.tup [owI (rSort ins).1, fl (rSort ins).2]) := by
  refine lodgeref17_Sort_call rfl ?_
  simp (disch := omega) [go_sem, lodgeref17_Sort_c]
  refine rsort_l1 (ins := ins) hn hr (by simp (disch := omega) [go_sem]) (by simp (disch := omega) [go_sem]) (by simp (disch := omega) [go_sem]) ?_ ?_
  · intro hb s h0 h3
    simp (disch := omega) [go_sem, h0]
    refine rsort_l4 (ins := ins) (done0 := List.replicate ins.length false) (f0 := ins.length) (out0 := []) hn hr (by simp) (by simp) (rBad_none hb) (by simp (disch := omega) [go_sem, h0]) (by simp (disch := omega) [go_sem, h3]) (by simp (disch := omega) [go_sem]) (by simp (disch := omega) [go_sem]) ?_ ?_
    · intro out s hl h3 h7
      have hres : rSort ins = (out, (0, false, 0)) := by simp only [rSort, hb, hl]
      simp (disch := omega) [go_sem, h7]
      refine cal_pure (none47 G) rfl rfl ?_
      simp (disch := omega) [go_sem, h3, h7, hres]
    · intro f s hl h2 h3
      have hres : rSort ins = ([], (111, true, f)) := by simp only [rSort, hb, hl]
      simp (disch := omega) [go_sem, h2, h3, hres]
  · intro k s hb h2 h3
    have hres : rSort ins = ([], (107, true, (k : Int))) := by simp only [rSort, hb]
    simp (disch := omega) [go_sem, h2, h3, hres]
end
end Go.Ideal.Tryd
end

section
set_option linter.unusedVariables false
set_option linter.unusedSimpArgs false
namespace Go.Ideal.Tryd
/-! ### The two orders are one (plain) -/
theorem get!_set {α : Type} [Inhabited α] {l : List α} {i k : Nat} {v : α} (hi : i < l.length) : (l.set i v)[k]! = if k = i then v else l[k]! := by
  by_cases h : k = i
  · subst h; simp [hi]
  · simp only [h, if_false]
    by_cases hk : k < l.length
    · simp [hk, Ne.symm h, List.getElem_set]
    · simp [hk]
theorem get!_rep {α : Type} [Inhabited α] {n k : Nat} {v : α} (h : k < n) : (List.replicate n v)[k]! = v := by simp [h]
theorem get!_drop {α : Type} [Inhabited α] {l : List α} {i : Nat} (h : i < l.length) : l.drop i = l[i]! :: l.drop (i + 1) := by
  rw [List.drop_eq_getElem_cons h]; simp [h]
theorem fillRow_none {n i : Nat} : ∀ {row : List Int} {u : List (List Int)} {l : List Int}, oFillRow n i row u l = none ↔ row.any (badN n) = true
  | [], u, l => by simp [oFillRow]
  | k :: ks, u, l => by
    rw [oFillRow, List.any_cons]
    by_cases hb : k < 0 ∨ (n : Int) ≤ k
    · rw [if_pos hb]
      have : badN n k = true := by simp only [badN, Bool.or_eq_true, decide_eq_true_eq]; exact hb
      simp [this]
    · rw [if_neg hb, fillRow_none]
      have : badN n k = false := by simp only [badN, Bool.or_eq_false_iff, decide_eq_false_iff_not]; omega
      simp [this]
theorem fill_bad {n : Nat} : ∀ {rs : List (List Int)} {i : Nat} {u : List (List Int)} {l : List Int}, (∀ k, rBad n rs i = some k → oFill n rs i u l = .error k) ∧ (rBad n rs i = none → ∃ p, oFill n rs i u l = .ok p)
  | [], i, u, l => ⟨fun k h => by simp [rBad] at h, fun _ => ⟨_, rfl⟩⟩
  | r :: rs, i, u, l => by
    rw [rBad, oFill]
    by_cases hb : r.any (badN n) = true
    · rw [if_pos hb, fillRow_none.2 hb]
      exact ⟨fun k h => by injection h with h; rw [h], fun h => by cases h⟩
    · rw [if_neg hb]
      cases hf : oFillRow n i r u l with
      | none => exact absurd (fillRow_none.1 hf) hb
      | some p => exact fill_bad
theorem fillRow_cnt {n i : Nat} (hi : i < n) : ∀ {row : List Int} {u u' : List (List Int)} {l l' : List Int}, oFillRow n i row u l = some (u', l') → u.length = n → l.length = n → 0 ≤ l[i]! → l[i]! + row.length < 2 ^ 62 →
    u'.length = n ∧ l'.length = n ∧ (∀ k, k < n → ∀ j : Int, (u'[k]!).count j = (u[k]!).count j + if j = i then row.count (k : Int) else 0) ∧ ∀ k, k < n → l'[k]! = l[k]! + if k = i then (row.length : Int) else 0
  | [], u, u', l, l', h, hu, hl, h0, h1 => by
    simp only [oFillRow, Option.some.injEq, Prod.mk.injEq] at h
    obtain ⟨rfl, rfl⟩ := h
    exact ⟨hu, hl, fun k hk j => by simp, fun k hk => by simp⟩
  | x :: xs, u, u', l, l', h, hu, hl, h0, h1 => by
    rw [oFillRow] at h
    split at h
    · cases h
    · rename_i hb
      simp only [List.length_cons] at h1
      have hw : wr (l[i]! + 1) = l[i]! + 1 := wrap_i64' (by omega)
      rw [hw] at h
      have hx : x.toNat < u.length := by omega
      have hli : (l.set i (l[i]! + 1))[i]! = l[i]! + 1 := by rw [get!_set (by omega)]; simp
      obtain ⟨g1, g2, g3, g4⟩ := fillRow_cnt hi h (by simpa using hu) (by simpa using hl) (by rw [hli]; omega) (by rw [hli]; omega)
      refine ⟨g1, g2, fun k hk j => ?_, fun k hk => ?_⟩
      · rw [g3 k hk j, get!_set hx]
        by_cases hkx : k = x.toNat
        · subst hkx
          have : (x.toNat : Int) = x := by omega
          simp only [if_true, List.count_append, this, List.count_cons, List.count_nil]
          by_cases hj : j = i
          · subst hj; simp; omega
          · have : ¬ ((i : Int) = j) := fun h => hj h.symm
            simp [hj, this]
        · have : ¬ (x = (k : Int)) := by omega
          simp only [hkx, if_false, List.count_cons, beq_iff_eq, this, Nat.add_zero]
      · rw [g4 k hk, get!_set (by omega)]
        by_cases hki : k = i
        · subst hki; simp; omega
        · simp [hki]
theorem fill_cnt {n : Nat} : ∀ {rs : List (List Int)} {i : Nat} {u u' : List (List Int)} {l l' : List Int}, oFill n rs i u l = .ok (u', l') → i + rs.length = n → u.length = n → l.length = n → (∀ k, k < n → 0 ≤ l[k]!) → (∀ k, k < n → i ≤ k → l[k]! = 0) → (∀ r ∈ rs, r.length < 2 ^ 61) →
    (∀ k, k < n → ∀ j : Nat, j < n → (u'[k]!).count (j : Int) = (u[k]!).count (j : Int) + if i ≤ j then (rs[j - i]!).count (k : Int) else 0) ∧ ∀ k, k < n → l'[k]! = l[k]! + if i ≤ k then ((rs[k - i]!).length : Int) else 0
  | [], i, u, u', l, l', h, hi, hu, hl, h0, h1, hr => by
    simp only [oFill, Except.ok.injEq, Prod.mk.injEq] at h
    obtain ⟨rfl, rfl⟩ := h
    simp only [List.length_nil, Nat.add_zero] at hi
    subst hi
    exact ⟨fun k hk j hj => by rw [if_neg (by omega)]; rfl, fun k hk => by rw [if_neg (by omega)]; simp⟩
  | r :: rs, i, u, u', l, l', h, hi, hu, hl, h0, h1, hr => by
    rw [oFill] at h
    simp only [List.length_cons] at hi
    have hin : i < n := by omega
    cases hf : oFillRow n i r u l with
    | none => rw [hf] at h; cases h
    | some p =>
      obtain ⟨u1, l1⟩ := p
      rw [hf] at h
      simp only at h
      have hrl := hr r (by simp)
      obtain ⟨g1, g2, g3, g4⟩ := fillRow_cnt hin hf hu hl (h0 i hin) (by rw [h1 i hin (Nat.le_refl _)]; omega)
      obtain ⟨k1, k2⟩ := fill_cnt h (by omega) g1 g2 (fun k hk => by rw [g4 k hk]; have := h0 k hk; split <;> omega) (fun k hk hik => by rw [g4 k hk, if_neg (by omega), h1 k hk (by omega)]; rfl) (fun x hx => hr x (by simp [hx]))
      refine ⟨fun k hk j hj => ?_, fun k hk => ?_⟩
      · rw [k1 k hk j hj, g3 k hk]
        rcases Nat.lt_trichotomy j i with hji | hji | hji
        · rw [if_neg (by omega), if_neg (by omega), if_neg (by omega)]
        · subst hji; rw [if_pos rfl, if_neg (by omega), if_pos (Nat.le_refl _)]; simp
        · have e : j - i = (j - (i + 1)) + 1 := by omega
          rw [if_neg (by omega), if_pos (by omega), if_pos (by omega), e]
          simp
      · rw [k2 k hk, g4 k hk]
        rcases Nat.lt_trichotomy k i with hji | hji | hji
        · rw [if_neg (by omega), if_neg (by omega), if_neg (by omega)]; omega
        · subst hji; rw [if_pos rfl, if_neg (by omega), if_pos (Nat.le_refl _)]; simp
        · have e : k - i = (k - (i + 1)) + 1 := by omega
          rw [if_neg (by omega), if_pos (by omega), if_pos (by omega), e]
          simp
theorem dec_get {n : Nat} : ∀ {ks l : List Int}, l.length = n → (∀ k ∈ ks, 0 ≤ k ∧ k < (n : Int)) → (∀ k, k < n → (ks.count (k : Int) : Int) ≤ l[k]! ∧ l[k]! < 2 ^ 62) → ∀ k, k < n → (oDec ks l)[k]! = l[k]! - ks.count (k : Int)
  | [], l, hl, hk, hb, k, hkn => by simp [oDec]
  | x :: xs, l, hl, hk, hb, k, hkn => by
    obtain ⟨h1, h2⟩ := hk x (by simp)
    have hx : x.toNat < l.length := by omega
    have e : (x.toNat : Int) = x := by omega
    have hbx := hb x.toNat (by omega)
    rw [e] at hbx
    simp only [List.count_cons_self] at hbx
    have hw : wr (l[x.toNat]! - 1) = l[x.toNat]! - 1 := wrap_i64' (by omega)
    rw [oDec, hw, dec_get (n := n) (by simpa using hl) (fun k hk' => hk k (by simp [hk'])) (fun k hkn => ?_) k hkn, get!_set hx]
    · by_cases hkx : k = x.toNat
      · subst hkx; rw [if_pos rfl, e, List.count_cons_self]; omega
      · have : ¬ (x = (k : Int)) := by omega
        simp only [hkx, if_false, List.count_cons, beq_iff_eq, this, Nat.add_zero]
    · rw [get!_set hx]
      have := hb k hkn
      by_cases hkx : k = x.toNat
      · subst hkx; rw [e] at this ⊢; rw [if_pos rfl]; simp only [List.count_cons_self] at this; omega
      · have hne : ¬ (x = (k : Int)) := by omega
        simp only [hkx, if_false]
        simp only [List.count_cons, beq_iff_eq, hne, if_false, Nat.add_zero] at this
        exact this
/-- How many of a row's places have not come. -/
def cnt (done : List Bool) (row : List Int) : Nat := row.countP fun x => !done[x.toNat]!
theorem cnt_set {done : List Bool} {i : Nat} (hi : i < done.length) (hd : done[i]! = false) : ∀ {row : List Int}, (∀ x ∈ row, 0 ≤ x ∧ x < (done.length : Int)) → cnt (done.set i true) row + row.count (i : Int) = cnt done row
  | [], _ => by simp [cnt]
  | x :: xs, h => by
    have ih := cnt_set hi hd (row := xs) (fun y hy => h y (by simp [hy]))
    simp only [cnt] at ih ⊢
    rw [List.countP_cons, List.countP_cons, List.count_cons, get!_set hi]
    have := (h x (by simp)).1
    by_cases hx : x.toNat = i
    · have : x = (i : Int) := by omega
      subst this
      simp [hd] at ih ⊢
      omega
    · have : ¬ (x = (i : Int)) := by omega
      simp only [hx, if_false, beq_iff_eq, this, Nat.add_zero]
      omega
theorem cnt_zero {done : List Bool} {row : List Int} : cnt done row = 0 ↔ row.all (fun x => done[x.toNat]!) = true := by
  simp only [cnt, List.countP_eq_zero, List.all_eq_true, Bool.not_eq_true', Bool.not_eq_false]
structure J (ins u : List (List Int)) (done : List Bool) (left : List Int) : Prop where
  hd : done.length = ins.length
  hl : left.length = ins.length
  left : ∀ k, k < ins.length → left[k]! = cnt done ins[k]!
structure U (ins u : List (List Int)) : Prop where
  inb : inB ins.length ins
  len : ∀ r ∈ ins, r.length < 2 ^ 61
  cnt : ∀ k, k < ins.length → ∀ j, j < ins.length → (u[k]!).count (j : Int) = (ins[j]!).count (k : Int)
  ub : ∀ k, k < ins.length → ∀ x ∈ u[k]!, 0 ≤ x ∧ x < (ins.length : Int)
theorem cnt_le {done : List Bool} {row : List Int} : cnt done row ≤ row.length := List.countP_le_length
theorem J.step {ins u : List (List Int)} {done : List Bool} {left : List Int} (hU : U ins u) (h : J ins u done left) {i : Nat} (hi : i < ins.length) (hdi : done[i]! = false) : J ins u (done.set i true) (oDec u[i]! left) where
  hd := by simpa using h.hd
  hl := by rw [oDec_len]; exact h.hl
  left k hk := by
    have hrow : ∀ k, k < ins.length → ins[k]! ∈ ins := fun k hk => by simp [hk]
    have hset : ∀ k, k < ins.length → cnt (done.set i true) ins[k]! + (ins[k]!).count (i : Int) = cnt done ins[k]! := fun k hk => cnt_set (by rw [h.hd]; exact hi) hdi (fun x hx => by rw [h.hd]; exact hU.inb _ (hrow k hk) x hx)
    rw [dec_get h.hl (hU.ub i hi) (fun k hk => ?_) k hk, h.left k hk, hU.cnt i hi k hk]
    · have := hset k hk
      omega
    · rw [h.left k hk, hU.cnt i hi k hk]
      have := hset k hk
      have h2 := cnt_le (done := done) (row := ins[k]!)
      have h3 := hU.len _ (hrow k hk)
      omega
theorem pick_scan {ins u : List (List Int)} {done : List Bool} {left : List Int} (hJ : J ins u done left) : ∀ (m i : Nat) (f : Int), i + m = ins.length →
    (∀ k, oPick (done.drop i) (left.drop i) i = some k → (rScan done (ins.drop i) i f).1 = k) ∧ (oPick (done.drop i) (left.drop i) i = none → rScan done (ins.drop i) i f = (-1, if f < 0 ∧ 0 ≤ indexB false (done.drop i) i then indexB false (done.drop i) i else f))
  | 0, i, f, h => by
    have h1 := hJ.hd
    have h2 := hJ.hl
    have d1 : done.drop i = [] := List.drop_eq_nil_of_le (by omega)
    have d2 : left.drop i = [] := List.drop_eq_nil_of_le (by omega)
    have d3 : ins.drop i = [] := List.drop_eq_nil_of_le (by omega)
    rw [d1, d2, d3]
    simp [oPick, rScan, indexB]
  | m + 1, i, f, h => by
    have h1 := hJ.hd
    have h2 := hJ.hl
    have hi : i < ins.length := by omega
    have e1 : done.drop i = done[i]! :: done.drop (i + 1) := get!_drop (by omega)
    have e2 : left.drop i = left[i]! :: left.drop (i + 1) := get!_drop (by omega)
    have e3 : ins.drop i = ins[i]! :: ins.drop (i + 1) := get!_drop hi
    have e4 : indexB false (done[i]! :: done.drop (i + 1)) i = if false = done[i]! then (i : Int) else indexB false (done.drop (i + 1)) (i + 1) := rfl
    rw [e1, e2, e3, e4, oPick, rScan]
    by_cases hd : done[i]! = true
    · rw [if_pos (.inl hd), if_pos hd, if_neg (show ¬ false = done[i]! by rw [hd]; simp)]
      exact pick_scan hJ m (i + 1) f (by omega)
    · have hd' : done[i]! = false := by simpa using hd
      have hdi : false = done[i]! := hd'.symm
      rw [if_neg hd, if_pos hdi]
      have hl := hJ.left i hi
      by_cases hc : cnt done ins[i]! = 0
      · rw [if_neg (by rintro (h | h); exact hd h; rw [hl, hc] at h; simp at h), if_pos (cnt_zero.1 hc)]
        exact ⟨fun k hk => by injection hk with hk; subst hk; rfl, fun hk => by cases hk⟩
      · rw [if_pos (.inr (by rw [hl]; omega)), if_neg (fun h => hc (cnt_zero.2 h))]
        obtain ⟨g1, g2⟩ := pick_scan hJ m (i + 1) (if f < 0 then (i : Int) else f) (by omega)
        refine ⟨g1, fun hk => ?_⟩
        rw [g2 hk]
        congr 1
        by_cases hf : f < 0
        · rw [if_pos hf, if_neg (by omega), if_pos ⟨hf, by omega⟩]
        · rw [if_neg hf, if_neg (by omega), if_neg (by omega)]
theorem count_index : ∀ {l : List Bool} {i : Nat}, (l.count false = 0 ↔ indexB false l i = -1) ∧ (l.count false ≠ 0 → 0 ≤ indexB false l i)
  | [], i => by simp [indexB]
  | b :: l, i => by
    rw [indexB]
    cases b with
    | false => rw [if_pos rfl]; simp
    | true => rw [if_neg (by simp)]; simpa using count_index (l := l) (i := i + 1)
theorem loop_loop {ins u : List (List Int)} (hU : U ins u) : ∀ (f : Nat) {done : List Bool} {left out : List Int}, J ins u done left → done.count false = f →
    rLoop ins f done out = if 0 ≤ indexB false (oLoop u f done left out).1 0 then .error (indexB false (oLoop u f done left out).1 0) else .ok (oLoop u f done left out).2
  | 0, done, left, out, hJ, hc => by
    rw [rLoop, oLoop]
    simp only
    rw [(count_index (l := done) (i := 0)).1.1 hc]
    simp
  | f + 1, done, left, out, hJ, hc => by
    obtain ⟨g1, g2⟩ := pick_scan hJ ins.length 0 (-1) (by omega)
    simp only [List.drop_zero] at g1 g2
    have hidx := (count_index (l := done) (i := 0)).2 (by omega)
    rw [rLoop, oLoop]
    cases hp : oPick done left 0 with
    | none =>
      rw [g2 hp]
      simp [hidx]
    | some i =>
      obtain ⟨_, hi, hdi⟩ := oPick_lt hp
      simp only [Nat.sub_zero] at hi hdi
      have hcnt := oPick_cnt hp
      rw [g1 i hp, if_neg (by omega)]
      simp only [Int.toNat_natCast]
      have hin : i < ins.length := by rw [← hJ.hd]; exact hi
      exact loop_loop hU f (hJ.step hU hin (by simpa [hi] using hdi)) (by omega)
theorem fillRow_len {n i : Nat} : ∀ {row : List Int} {u u' : List (List Int)} {l l' : List Int}, oFillRow n i row u l = some (u', l') → u'.length = u.length ∧ l'.length = l.length
  | [], u, u', l, l', h => by
    simp only [oFillRow, Option.some.injEq, Prod.mk.injEq] at h
    obtain ⟨rfl, rfl⟩ := h
    exact ⟨rfl, rfl⟩
  | x :: xs, u, u', l, l', h => by
    rw [oFillRow] at h
    split at h
    · cases h
    · obtain ⟨h1, h2⟩ := fillRow_len h
      exact ⟨by simpa using h1, by simpa using h2⟩
theorem fill_len {n : Nat} : ∀ {rs : List (List Int)} {i : Nat} {u u' : List (List Int)} {l l' : List Int}, oFill n rs i u l = .ok (u', l') → u.length = n → l.length = n → u'.length = n ∧ l'.length = n
  | [], i, u, u', l, l', h, hu, hl => by
    simp only [oFill, Except.ok.injEq, Prod.mk.injEq] at h
    obtain ⟨rfl, rfl⟩ := h
    exact ⟨hu, hl⟩
  | r :: rs, i, u, u', l, l', h, hu, hl => by
    rw [oFill] at h
    cases hf : oFillRow n i r u l with
    | none => rw [hf] at h; cases h
    | some p =>
      rw [hf] at h
      obtain ⟨h1, h2⟩ := fillRow_len hf
      exact fill_len h (h1.trans hu) (h2.trans hl)
theorem fillRow_ub {n i : Nat} (hi : i < n) : ∀ {row : List Int} {u u' : List (List Int)} {l l' : List Int}, oFillRow n i row u l = some (u', l') → inB n u → inB n u'
  | [], u, u', l, l', h, hu => by
    simp only [oFillRow, Option.some.injEq, Prod.mk.injEq] at h
    obtain ⟨rfl, rfl⟩ := h
    exact hu
  | x :: xs, u, u', l, l', h, hu => by
    rw [oFillRow] at h
    split at h
    · cases h
    · refine fillRow_ub hi h (inB_set hu fun k hk => ?_)
      rcases List.mem_append.1 hk with hk | hk
      · by_cases hx : x.toNat < u.length
        · simp [hx] at hk; exact hu _ (List.getElem_mem hx) k hk
        · simp [hx] at hk
          have e : (default : List Int) = [] := rfl
          rw [e] at hk
          simp at hk
      · simp at hk; omega
theorem fill_ub {n : Nat} : ∀ {rs : List (List Int)} {i : Nat} {u u' : List (List Int)} {l l' : List Int}, oFill n rs i u l = .ok (u', l') → i + rs.length = n → u.length = n → l.length = n → inB n u → inB n u'
  | [], i, u, u', l, l', h, hi, hu, hl, hin => by
    simp only [oFill, Except.ok.injEq, Prod.mk.injEq] at h
    obtain ⟨rfl, rfl⟩ := h
    exact hin
  | r :: rs, i, u, u', l, l', h, hi, hu, hl, hin => by
    rw [oFill] at h
    simp only [List.length_cons] at hi
    cases hf : oFillRow n i r u l with
    | none => rw [hf] at h; cases h
    | some p =>
      rw [hf] at h
      obtain ⟨h1, h2⟩ := fillRow_len hf
      exact fill_ub h (by omega) (h1.trans hu) (h2.trans hl) (fillRow_ub (by omega) hf hin)
/-- The two Sorts agree. -/
theorem sort_agree {ins : List (List Int)} (hr : ∀ r ∈ ins, r.length < 2 ^ 61) : (∀ i g, oSort ins = .error (i, g) → rSort ins = ([], (codeOf g, true, i)) ∧ g < 21) ∧ (∀ out, oSort ins = .ok out → rSort ins = (out, (0, false, 0))) := by
  unfold oSort rSort
  obtain ⟨b1, b2⟩ := fill_bad (n := ins.length) (rs := ins) (i := 0) (u := List.replicate ins.length []) (l := List.replicate ins.length 0)
  cases hb : rBad ins.length ins 0 with
  | some k =>
    rw [b1 k hb]
    refine ⟨fun i g h => ?_, fun out h => by cases h⟩
    simp only [Except.error.injEq, Prod.mk.injEq] at h
    obtain ⟨rfl, rfl⟩ := h
    exact ⟨rfl, by omega⟩
  | none =>
    obtain ⟨⟨u, l⟩, hp⟩ := b2 hb
    rw [hp]
    have hin := rBad_none hb
    obtain ⟨c1, c2⟩ := fill_cnt hp (by simp) (by simp) (by simp) (fun k hk => by rw [get!_rep hk]; omega) (fun k hk _ => get!_rep hk) hr
    have hU : U ins u := {
      inb := hin, len := hr
      cnt := fun k hk j hj => by rw [c1 k hk j hj, get!_rep hk]; simp
      ub := fun k hk x hx => fill_ub hp (by simp) (by simp) (by simp) (fun r hr => by rw [List.eq_of_mem_replicate hr]; simp) _ (by
        have := (fill_len hp (by simp) (by simp)).1
        simp [this, hk]) x hx }
    have hJ : J ins u (List.replicate ins.length false) l := {
      hd := by simp, hl := (fill_len hp (by simp) (by simp)).2
      left := fun k hk => by
        rw [c2 k hk, get!_rep hk]
        simp only [Nat.zero_le, if_true, Nat.sub_zero, Int.zero_add, cnt]
        congr 1
        symm
        rw [List.countP_eq_length]
        intro x hx
        have := hin _ (show ins[k]! ∈ ins by simp [hk]) x hx
        rw [get!_rep (by omega)]; rfl }
    have := loop_loop hU ins.length (out := []) hJ (by simp)
    simp only at this ⊢
    rw [this]
    by_cases h0 : 0 ≤ indexB false (oLoop u ins.length (List.replicate ins.length false) l []).1 0
    · rw [if_pos h0, if_pos h0]
      refine ⟨fun i g h => ?_, fun out h => by cases h⟩
      simp only [Except.error.injEq, Prod.mk.injEq] at h
      obtain ⟨rfl, rfl⟩ := h
      exact ⟨rfl, by omega⟩
    · rw [if_neg h0, if_neg h0]
      refine ⟨fun i g h => (by cases h), fun out h => ?_⟩
      simp only [Except.ok.injEq] at h
      subst h
      rfl
end Go.Ideal.Tryd
end

section
set_option linter.unusedVariables false
set_option linter.unusedSimpArgs false
namespace Go.Ideal.Tryd
/-! ### Each stands behind its ins (plain) -/
/-- What is so at each round. -/
structure Ordered (ins : List (List Int)) (done : List Bool) (out : List Int) : Prop where
  hd : done.length = ins.length
  nd : out.Nodup
  mem : ∀ x, x < ins.length → (done[x]! = true ↔ (x : Int) ∈ out)
  rng : ∀ x ∈ out, 0 ≤ x ∧ x < (ins.length : Int)
  beh : ∀ p, p < out.length → ∀ y ∈ ins[(out[p]!).toNat]!, y ∈ out.take p
theorem scan_free {ins : List (List Int)} {done : List Bool} : ∀ {rs : List (List Int)} {k : Nat} {f : Int}, ins.drop k = rs → 0 ≤ (rScan done rs k f).1 → done[(rScan done rs k f).1.toNat]! = false ∧ ins[(rScan done rs k f).1.toNat]!.all (fun x => done[x.toNat]!) = true
  | [], k, f, h, h0 => by simp [rScan] at h0
  | r :: rs, k, f, h, h0 => by
    have hk : k < ins.length := by
      by_cases hk : k < ins.length
      · exact hk
      · rw [List.drop_eq_nil_of_le (by omega)] at h; cases h
    rw [get!_drop hk] at h
    injection h with h1 h2
    rw [rScan] at h0 ⊢
    split at h0
    · rename_i hd
      rw [if_pos hd]
      exact scan_free h2 h0
    · rename_i hd
      rw [if_neg hd]
      split at h0
      · rename_i ha
        rw [if_pos ha]
        simp only [Int.toNat_natCast]
        rw [h1]
        exact ⟨by simpa using hd, ha⟩
      · rename_i ha
        rw [if_neg ha]
        exact scan_free h2 h0
theorem rloop_ordered {ins : List (List Int)} (hin : inB ins.length ins) : ∀ (f : Nat) {done : List Bool} {out res : List Int}, Ordered ins done out → done.count false = f → rLoop ins f done out = .ok res →
    res.Nodup ∧ (∀ x, x < ins.length → (x : Int) ∈ res) ∧ (∀ x ∈ res, 0 ≤ x ∧ x < (ins.length : Int)) ∧ ∀ p, p < res.length → ∀ y ∈ ins[(res[p]!).toNat]!, y ∈ res.take p
  | 0, done, out, res, h, hc, hl => by
    simp only [rLoop, Except.ok.injEq] at hl
    subst hl
    refine ⟨h.nd, fun x hx => (h.mem x hx).1 ?_, h.rng, h.beh⟩
    rw [List.count_eq_zero] at hc
    have hxd : x < done.length := by rw [h.hd]; exact hx
    simp only [hxd, getElem!_pos]
    cases hv : done[x] with
    | true => rfl
    | false => exact absurd (by rw [← hv]; exact List.getElem_mem hxd) hc
  | f + 1, done, out, res, h, hc, hl => by
    rw [rLoop] at hl
    split at hl
    · cases hl
    · rename_i hnx
      obtain ⟨g1, g2⟩ := scan_free (ins := ins) (done := done) (rs := ins) (k := 0) (f := -1) rfl (by omega)
      have hrng := rScan_rng (done := done) (rs := ins) (k := 0) (f := -1)
      generalize (rScan done ins 0 (-1)).1 = nx at hl g1 g2 hnx hrng
      have hn : nx.toNat < ins.length := by omega
      have hnd : nx.toNat < done.length := by rw [h.hd]; exact hn
      have e : (nx.toNat : Int) = nx := by omega
      have hni : nx ∉ out := fun hm => by
        rw [← e] at hm
        rw [(h.mem _ hn).2 hm] at g1
        cases g1
      refine rloop_ordered hin f (done := done.set nx.toNat true) (out := out ++ [nx]) ?_ ?_ hl
      · refine ⟨by simpa using h.hd, ?_, fun x hx => ?_, fun x hx => ?_, fun p hp y hy => ?_⟩
        · rw [List.nodup_append]
          exact ⟨h.nd, by simp, fun a ha b hb hab => by simp at hb; subst hb; subst hab; exact hni ha⟩
        · rw [get!_set hnd]
          by_cases hxn : x = nx.toNat
          · subst hxn; simp [e]
          · rw [if_neg hxn, h.mem x hx]
            simp only [List.mem_append, List.mem_cons, List.not_mem_nil, or_false]
            exact ⟨.inl, fun hh => hh.elim id fun hh => absurd (by omega) hxn⟩
        · rcases List.mem_append.1 hx with hx | hx
          · exact h.rng x hx
          · simp at hx; omega
        · rw [List.length_append] at hp
          simp only [List.length_cons, List.length_nil] at hp
          by_cases hpo : p < out.length
          · have e1 : (out ++ [nx])[p]! = out[p]! := by simp [hpo, List.getElem?_append_left]
            rw [e1] at hy
            rw [List.take_append_of_le_length (by omega)]
            exact h.beh p hpo y hy
          · have hpe : p = out.length := by omega
            subst hpe
            have e1 : (out ++ [nx])[out.length]! = nx := by simp
            rw [e1] at hy
            rw [List.take_left]
            rw [List.all_eq_true] at g2
            have hy2 := g2 y hy
            have hyr := hin _ (show ins[nx.toNat]! ∈ ins by simp [hn]) y hy
            have := (h.mem y.toNat (by omega)).1 hy2
            rwa [show (y.toNat : Int) = y by omega] at this
      · have hc2 : (done.set nx.toNat true).count false + 1 = done.count false := by
          have e2 : done = done.take nx.toNat ++ false :: done.drop (nx.toNat + 1) := by
            conv => lhs; rw [← List.take_append_drop nx.toNat done, get!_drop hnd, g1]
          have e3 : done.set nx.toNat true = done.take nx.toNat ++ true :: done.drop (nx.toNat + 1) := by
            rw [List.set_eq_take_append_cons_drop, if_pos hnd]
          rw [e3]
          conv => rhs; rw [e2]
          simp
          omega
        omega
theorem osort_ordered {ins : List (List Int)} (hr : ∀ r ∈ ins, r.length < 2 ^ 61) {out : List Int} (h : oSort ins = .ok out) :
    out.Nodup ∧ (∀ x, x < ins.length → (x : Int) ∈ out) ∧ (∀ x ∈ out, 0 ≤ x ∧ x < (ins.length : Int)) ∧ (∀ p, p < out.length → ∀ y ∈ ins[(out[p]!).toNat]!, y ∈ out.take p) ∧ inB ins.length ins := by
  have h2 := (sort_agree hr).2 out h
  unfold rSort at h2
  cases hb : rBad ins.length ins 0 with
  | some k => rw [hb] at h2; simp at h2
  | none =>
    rw [hb] at h2
    simp only at h2
    have hin := rBad_none hb
    cases hl : rLoop ins ins.length (List.replicate ins.length false) [] with
    | error f => rw [hl] at h2; simp at h2
    | ok out2 =>
      rw [hl] at h2
      simp only [Prod.mk.injEq, and_true] at h2
      subst h2
      obtain ⟨a, b, c, d⟩ := rloop_ordered hin ins.length (done := List.replicate ins.length false) (out := []) ⟨by simp, by simp, fun x hx => by rw [get!_rep hx]; simp, fun x hx => by simp at hx, fun p hp => by simp at hp⟩ (by simp) hl
      exact ⟨a, b, c, d, hin⟩
theorem rloop_len {ins : List (List Int)} : ∀ (f : Nat) {done : List Bool} {out res : List Int}, rLoop ins f done out = .ok res → res.length = out.length + f
  | 0, done, out, res, h => by
    simp only [rLoop, Except.ok.injEq] at h
    rw [h]; rfl
  | f + 1, done, out, res, h => by
    rw [rLoop] at h
    split at h
    · cases h
    · have := rloop_len f h
      simp only [List.length_append, List.length_cons, List.length_nil] at this
      omega
theorem osort_len {ins : List (List Int)} (hr : ∀ r ∈ ins, r.length < 2 ^ 61) {out : List Int} (h : oSort ins = .ok out) : out.length = ins.length := by
  have h2 := (sort_agree hr).2 out h
  unfold rSort at h2
  cases hb : rBad ins.length ins 0 with
  | some k => rw [hb] at h2; simp at h2
  | none =>
    rw [hb] at h2
    simp only at h2
    cases hl : rLoop ins ins.length (List.replicate ins.length false) [] with
    | error f => rw [hl] at h2; simp at h2
    | ok out2 =>
      rw [hl] at h2
      simp only [Prod.mk.injEq, and_true] at h2
      subst h2
      have := rloop_len _ hl
      simpa using this
end Go.Ideal.Tryd
end

section
set_option linter.unusedVariables false
set_option linter.unusedSimpArgs false
set_option maxRecDepth 10000
namespace Go.Ideal.Tryd
section
variable {G : Nat → Option Value} {bk : Nat → Nat × Nat} {Q : Exit → St → Prop} {st : St}
theorem first14 (hS : Sent G bk) : ACalls pg G F_lodgelaw18_first [] (lb true) := by
  refine lodgelaw18_first_call rfl ?_
  simp (disch := omega) [go_sem, lodgelaw18_first_c]
  have h := sort15 hS [[1], [0]] (by simp) (by simp [tot])
  have he : oSort [[1], [0]] = .error (0, 1) := by rfl
  rw [he] at h
  refine cal_imm h rfl rfl ?_
  simp (disch := omega) [go_sem, encS, encE]
  refine cal_pure (placed20 G _ _) (by split <;> rfl) (by split <;> rfl) ?_
  simp (disch := omega) [go_sem]
  refine cal_pure (same18 hS (e := .at 0 (.s 1)) (.at (by omega)) (111, true, 0)) rfl rfl ?_
  simp (disch := omega) [go_sem]
  decide
theorem os_l0 {ins : List (List Int)} (hn : ins.length ≤ 70) (h0 : st.s 0 = slII ins) (h3 : st.s 3 = lb true) (h4 : st.s 4 = li 0)
    (hex : (∀ r ∈ ins, r.length ≤ 10) → ∀ s, s.s 0 = slII ins → Q (.exit 0) s) (hret : ∀ s, s.s 2 = lb true → Q .ret s) : AW pg G 102 (.loop lodgelaw18_OrderSorts_l0) Q st := by
  refine aw_loop Nat (fun i st => i ≤ ins.length ∧ (∀ j, j < i → (ins[j]!).length ≤ 10) ∧ st.s 0 = slII ins ∧ st.s 3 = lb true ∧ st.s 4 = li i) (fun i => ins.length - i) 0 ?_ ?_
  · exact ⟨by simp, fun j hj => by omega, h0, h3, h4⟩
  · clear h0 h3 h4
    rintro i st K ⟨hi, hb, h0, h3, h4⟩ hK
    by_cases hlt : i < ins.length
    · by_cases hl : 10 < ins[i].length
      · have hl' : (10 : Int) < ins[i].length := by omega
        simp (disch := omega) [go_sem, lodgelaw18_OrderSorts_l0, h0, h3, h4, hlt, hl']
        exact hret _ (by simp (disch := omega) [go_sem])
      · have hl' : ¬ (10 : Int) < ins[i].length := by omega
        simp (disch := omega) [go_sem, lodgelaw18_OrderSorts_l0, h0, h3, h4, hlt, hl']
        exact hK (i + 1) _ ⟨by omega, fun j hj => by
          by_cases hji : j = i
          · subst hji; simp [hlt]; omega
          · exact hb j (by omega), by simp (disch := omega) [go_sem, h0], by simp (disch := omega) [go_sem, h3], by simp (disch := omega) [go_sem, h4]⟩ (by omega)
    · simp (disch := omega) [go_sem, lodgelaw18_OrderSorts_l0, h0, h4, hlt]
      exact hex (fun r hr => by
        obtain ⟨j, hj, rfl⟩ := List.getElem_of_mem hr
        have := hb j (by omega)
        simpa [hj] using this) _ (by simp (disch := omega) [go_sem, h0])
theorem os_l1 {ins : List (List Int)} {out pl0 : List Int} (hn : ins.length < 2 ^ 40) (hlo : out.length ≤ ins.length) (hpl : pl0.length = ins.length) (hnd : out.Nodup) (hrng : ∀ x ∈ out, 0 ≤ x ∧ x < (ins.length : Int)) (h0 : st.s 0 = slII ins) (h5 : st.s 5 = owI out) (h9 : st.s 9 = owI pl0) (h10 : st.s 10 = li 0)
    (hex : ∀ pl s, pl.length = ins.length → (∀ j, j < out.length → pl[(out[j]!).toNat]! = (j : Int)) → s.s 0 = slII ins → s.s 5 = owI out → s.s 9 = owI pl → Q (.exit 2) s) : AW pg G 102 (.loop lodgelaw18_OrderSorts_l1) Q st := by
  refine aw_loop (Nat × List Int) (fun p st => p.1 ≤ out.length ∧ p.2.length = ins.length ∧ (∀ j, j < p.1 → p.2[(out[j]!).toNat]! = j) ∧ st.s 0 = slII ins ∧ st.s 5 = owI out ∧ st.s 9 = owI p.2 ∧ st.s 10 = li p.1) (fun p => out.length - p.1) (0, pl0) ?_ ?_
  · exact ⟨by simp, hpl, fun j hj => by simp at hj, h0, h5, h9, h10⟩
  · clear h0 h5 h9 h10 hpl
    rintro ⟨i, pl⟩ st K ⟨hi, hpl, hp, h0, h5, h9, h10⟩ hK
    simp only at hi hpl hp h9 h10
    by_cases hlt : i < out.length
    · obtain ⟨k1, k2⟩ := hrng _ (List.getElem_mem hlt)
      have k3 : out[i].toNat < pl.length := by omega
      simp (disch := omega) [go_sem, lodgelaw18_OrderSorts_l1, h5, h9, h10, hlt, k1, k2]
      refine hK (i + 1, pl.set out[i].toNat i) _ ⟨by simp only; omega, by simpa using hpl, fun j hj => ?_, by simp (disch := omega) [go_sem, h0], by simp (disch := omega) [go_sem, h5], by simp (disch := omega) [go_sem, h9], by simp (disch := omega) [go_sem, h10]⟩ (by simp only; omega)
      rw [get!_set k3]
      by_cases hji : j = i
      · subst hji; simp [hlt]
      · have hj' : j < out.length := by simp only at hj; omega
        rw [if_neg, hp j (by simp only at hj; omega)]
        intro hh
        have k4 := hrng _ (List.getElem_mem hj')
        have : out[j] = out[i] := by simp only [hj', getElem!_pos] at hh; omega
        exact hji ((List.getElem_inj hnd).1 this)
    · simp (disch := omega) [go_sem, lodgelaw18_OrderSorts_l1, h5, h10, hlt]
      obtain rfl : i = out.length := by omega
      exact hex pl _ hpl hp (by simp (disch := omega) [go_sem, h0]) (by simp (disch := omega) [go_sem, h5]) (by simp (disch := omega) [go_sem, h9])
theorem os_l2 {ins : List (List Int)} {out pl : List Int} {i : Nat} (hi : i < ins.length) (hpl : pl.length = ins.length) (hr : ins[i].length ≤ 10) (hH : ∀ y ∈ ins[i], 0 ≤ y ∧ y < (ins.length : Int) ∧ pl[y.toNat]! < pl[i]!)
    (h0 : st.s 0 = slII ins) (h5 : st.s 5 = owI out) (h9 : st.s 9 = owI pl) (h11 : st.s 11 = li i) (h12 : st.s 12 = li 0)
    (hex : ∀ s, s.s 0 = slII ins → s.s 5 = owI out → s.s 9 = owI pl → s.s 11 = li i → Q (.exit 6) s) : AW pg G 102 (.loop lodgelaw18_OrderSorts_l2) Q st := by
  refine aw_loop Nat (fun j st => j ≤ ins[i].length ∧ st.s 0 = slII ins ∧ st.s 5 = owI out ∧ st.s 9 = owI pl ∧ st.s 11 = li i ∧ st.s 12 = li j) (fun j => ins[i].length - j) 0 ?_ ?_
  · exact ⟨by simp, h0, h5, h9, h11, h12⟩
  · clear h0 h5 h9 h11 h12
    rintro j st K ⟨hj, h0, h5, h9, h11, h12⟩ hK
    by_cases hlt : j < ins[i].length
    · obtain ⟨k1, k2, k3⟩ := hH _ (List.getElem_mem hlt)
      have k4 : ins[i][j].toNat < pl.length := by omega
      have k5 : i < pl.length := by omega
      simp only [k4, k5, getElem!_pos] at k3
      have k6 : ¬ pl[i] ≤ pl[ins[i][j].toNat] := by omega
      simp (disch := omega) [go_sem, lodgelaw18_OrderSorts_l2, h0, h9, h11, h12, hlt]
      refine aw_draw ?_
      simp (disch := omega) [go_sem, h0, h9, h11, h12, hlt, k1, k2]
      refine dFin_i (by decide) fun s2 hs he => ?_
      simp (disch := omega) [go_sem, hs, h12, k6]
      exact hK (j + 1) _ ⟨by omega, by simp (disch := omega) [go_sem, hs, h0], by simp (disch := omega) [go_sem, hs, h5], by simp (disch := omega) [go_sem, hs, h9], by simp (disch := omega) [go_sem, hs, h11], by simp (disch := omega) [go_sem, h12]⟩ (by omega)
    · simp (disch := omega) [go_sem, lodgelaw18_OrderSorts_l2, h0, h11, h12, hlt]
      exact hex _ (by simp (disch := omega) [go_sem, h0]) (by simp (disch := omega) [go_sem, h5]) (by simp (disch := omega) [go_sem, h9]) (by simp (disch := omega) [go_sem, h11])
theorem os_l3 {ins : List (List Int)} {out pl : List Int} (hn : ins.length ≤ 70) (hlo : out.length ≤ ins.length) (hpl : pl.length = ins.length) (hr : ∀ r ∈ ins, r.length ≤ 10) (hH : out.length ≠ 0 → ∀ i, i < ins.length → ∀ y ∈ ins[i]!, 0 ≤ y ∧ y < (ins.length : Int) ∧ pl[y.toNat]! < pl[i]!)
    (h0 : st.s 0 = slII ins) (h5 : st.s 5 = owI out) (h9 : st.s 9 = owI pl) (h11 : st.s 11 = li 0)
    (hex : ∀ s, Q (.exit 4) s) : AW pg G 102 (.loop lodgelaw18_OrderSorts_l3) Q st := by
  refine aw_loop Nat (fun i st => i ≤ out.length ∧ st.s 0 = slII ins ∧ st.s 5 = owI out ∧ st.s 9 = owI pl ∧ st.s 11 = li i) (fun i => out.length - i) 0 ?_ ?_
  · exact ⟨by simp, h0, h5, h9, h11⟩
  · clear h0 h5 h9 h11
    rintro i st K ⟨hi, h0, h5, h9, h11⟩ hK
    by_cases hlt : i < out.length
    · have hlt2 : i < ins.length := by omega
      simp (disch := omega) [go_sem, lodgelaw18_OrderSorts_l3, h5, h11, hlt]
      refine os_l2 (ins := ins) (out := out) (pl := pl) (i := i) hlt2 hpl (hr _ (List.getElem_mem _)) (fun y hy => hH (by omega) i hlt2 y (by simpa [hlt2] using hy)) (by simp (disch := omega) [go_sem, h0]) (by simp (disch := omega) [go_sem, h5]) (by simp (disch := omega) [go_sem, h9]) (by simp (disch := omega) [go_sem, h11]) (by simp (disch := omega) [go_sem]) ?_
      intro s h0 h5 h9 h11
      simp (disch := omega) [go_sem, h11]
      exact hK (i + 1) _ ⟨by omega, by simp (disch := omega) [go_sem, h0], by simp (disch := omega) [go_sem, h5], by simp (disch := omega) [go_sem, h9], by simp (disch := omega) [go_sem, h11]⟩ (by omega)
    · simp (disch := omega) [go_sem, lodgelaw18_OrderSorts_l3, h5, h11, hlt]
      exact hex _
theorem orderSorts3 (hS : Sent G bk) (ins : List (List Int)) (hn : ins.length < 2 ^ 62) : ACalls pg G F_lodgelaw18_OrderSorts [slII ins] (lb true) := by
  refine lodgelaw18_OrderSorts_call rfl ?_
  simp (disch := omega) [go_sem, lodgelaw18_OrderSorts_c]
  refine cal_pure (first14 hS) rfl rfl ?_
  by_cases h70 : 70 < ins.length
  · have h70' : (70 : Int) < ins.length := by omega
    simp (disch := omega) [go_sem, h70']
  · have h70' : ¬ (70 : Int) < ins.length := by omega
    simp (disch := omega) [go_sem, h70']
    refine os_l0 (ins := ins) (by omega) (by simp (disch := omega) [go_sem]) (by simp (disch := omega) [go_sem]) (by simp (disch := omega) [go_sem]) ?_ (fun s h => by simp (disch := omega) [go_sem, h])
    intro hr s h0
    have hr1 : ∀ r ∈ ins, r.length < 2 ^ 40 := fun r h => by have := hr r h; omega
    have hr2 : ∀ r ∈ ins, r.length < 2 ^ 61 := fun r h => by have := hr r h; omega
    have htot : tot ins < 2 ^ 40 := by
      have : ∀ l : List (List Int), (∀ r ∈ l, r.length ≤ 10) → tot l ≤ 10 * l.length := by
        intro l
        induction l with
        | nil => intro _; simp [tot]
        | cons r l ih =>
          intro h
          have h1 := h r (by simp)
          have h2 := ih fun x hx => h x (by simp [hx])
          simp only [tot, List.map_cons, List.sum_cons, List.length_cons] at h2 ⊢
          omega
      have := this ins hr
      omega
    obtain ⟨a1, a2⟩ := sort_agree hr2
    have hsort := sort15 (G := G) (bk := bk) hS ins (by omega) htot
    have hrsort := rsort16 (G := G) ins (by omega) hr1
    simp (disch := omega) [go_sem, h0]
    cases ho : oSort ins with
    | error e =>
      obtain ⟨i, g⟩ := e
      obtain ⟨b1, b2⟩ := a1 i g ho
      rw [ho] at hsort
      rw [b1] at hrsort
      refine cal_imm hsort rfl (by simp [encS, noImm, noImmL, encE]) ?_
      simp (disch := omega) [go_sem, encS, encE, h0]
      refine cal_pure hrsort rfl rfl ?_
      simp (disch := omega) [go_sem]
      refine cal_pure (sameInts17 (a := []) (b := []) (by simp)) rfl rfl ?_
      simp (disch := omega) [go_sem]
      refine cal_pure (same18 hS (e := .at i (.s g)) (.at b2) (codeOf g, true, i)) rfl rfl ?_
      simp (disch := omega) [go_sem, Er.flt, h0]
      refine os_l1 (ins := ins) (out := []) (pl0 := List.replicate ins.length 0) (by omega) (by simp) (by simp) (by simp) (fun x hx => by simp at hx) (by simp (disch := omega) [go_sem, h0]) (by simp (disch := omega) [go_sem]) (by simp (disch := omega) [go_sem]) (by simp (disch := omega) [go_sem]) ?_
      intro pl s hpl _ h0 h5 h9
      simp (disch := omega) [go_sem]
      refine os_l3 (ins := ins) (out := []) (pl := pl) (by omega) (by simp) hpl hr (fun h => by simp at h) (by simp (disch := omega) [go_sem, h0]) (by simp (disch := omega) [go_sem, h5]) (by simp (disch := omega) [go_sem, h9]) (by simp (disch := omega) [go_sem]) ?_
      intro s
      simp (disch := omega) [go_sem]
    | ok out =>
      have b1 := a2 out ho
      obtain ⟨c1, c2, c3, c4, c5⟩ := osort_ordered hr2 ho
      rw [ho] at hsort
      rw [b1] at hrsort
      refine cal_pure hsort rfl (by simp [encS, noImm, noImmL, noImmL_li]) ?_
      simp (disch := omega) [go_sem, encS, encE, h0, noOwnL_map]
      refine cal_pure hrsort rfl (by simp [noImm, noImmL, noImmL_li]) ?_
      simp (disch := omega) [go_sem, noOwnL_map]
      have hol : out.length ≤ ins.length := by rw [osort_len hr2 ho]; exact Nat.le_refl _
      refine cal_pure (sameInts17 (a := out) (b := out) (by omega)) rfl rfl ?_
      simp (disch := omega) [go_sem]
      refine cal_pure (same18 hS (e := .nil) .nil (0, false, 0)) rfl rfl ?_
      simp (disch := omega) [go_sem, Er.flt, h0]
      refine os_l1 (ins := ins) (out := out) (pl0 := List.replicate ins.length 0) (by omega) hol (by simp) c1 c3 (by simp (disch := omega) [go_sem, h0]) (by simp (disch := omega) [go_sem]) (by simp (disch := omega) [go_sem]) (by simp (disch := omega) [go_sem]) ?_
      intro pl s hpl hpp h0 h5 h9
      simp (disch := omega) [go_sem]
      refine os_l3 (ins := ins) (out := out) (pl := pl) (by omega) hol hpl hr (fun _ i hi y hy => ?_) (by simp (disch := omega) [go_sem, h0]) (by simp (disch := omega) [go_sem, h5]) (by simp (disch := omega) [go_sem, h9]) (by simp (disch := omega) [go_sem]) ?_
      · obtain ⟨p, hp, hpi⟩ := List.getElem_of_mem (c2 i hi)
        have e1 : out[p]! = (i : Int) := by simp [hp, hpi]
        have hy1 := c5 _ (show ins[i]! ∈ ins by simp [hi]) y hy
        refine ⟨hy1.1, hy1.2, ?_⟩
        have hy2 := c4 p hp y (by rw [e1]; simpa using hy)
        obtain ⟨q, hq, hqy⟩ := List.getElem_of_mem hy2
        simp only [List.length_take] at hq
        have hq2 : q < out.length := by omega
        rw [List.getElem_take] at hqy
        have e2 := hpp q hq2
        have e3 := hpp p hp
        rw [show out[q]! = y by simp [hq2, hqy]] at e2
        rw [e1, Int.toNat_natCast] at e3
        rw [e2, e3]
        omega
      · intro s
        simp (disch := omega) [go_sem]
end
end Go.Ideal.Tryd
end
