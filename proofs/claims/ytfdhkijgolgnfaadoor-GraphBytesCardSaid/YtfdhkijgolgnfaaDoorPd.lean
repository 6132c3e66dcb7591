/- Part Pd of the proof: a machine with trees for values, its soundness, and walks on it. -/
import Derived.Test.YtfdhkijgolgnfaaDoorPc
import Derived.Test.YtfdhkijgolgnfaaDoorPa
import Derived.Test.YtfdhkijgolgnfaaDoorNy
import Derived.Test.YtfdhkijgolgnfaaDoorPb

section
set_option linter.unusedVariables false
set_option linter.unusedSimpArgs false
set_option maxRecDepth 10000
namespace Go.Ideal.Tryd
section
variable {G : Nat → Option Value} {Q : Exit → St → Prop} {st : St}
abbrev lu (n : Int) : AV := .lit (.int .u8 n)
abbrev owU (xs : List Int) : AV := .own 1 xs.length (xs.map lu)
abbrev slU (xs : List Int) : AV := .sl xs.length (xs.map lu)
abbrev u8 (n : Int) : Int := IntKind.u8.wrap n
theorem byte54 (xs : List Int) (n : Int) (h : xs.length < 2 ^ 40) : ACallsX pg G F_plan_Writer_Byte [.var [owU xs], li n] (.tup []) [(0, .var [owU (xs ++ [u8 n])])] := by
  refine plan_Writer_Byte_callX (pins := [0]) (by kernel_rfl) rfl rfl rfl rfl ?_
  simp (disch := omega) [go_sem, plan_Writer_Byte_c]
end
end Go.Ideal.Tryd
end

section
set_option linter.unusedVariables false
set_option linter.unusedSimpArgs false
set_option maxRecDepth 10000
namespace Go.Ideal
section
variable {k yk : IntKind} {a b : Int}
theorem bl_shr' (h : 0 ≤ b) : binLit .shr (.int k a) (.int yk b) = some (.int k (a.fdiv (2 ^ min b.toNat k.bits))) := by simp [binLit, Op.shift, show ¬ b < 0 by omega]; rfl
@[go_sem] theorem ba_shr (h : 0 ≤ b) : binAV .shr 0 (.lit (.int k a)) (.lit (.int yk b)) = some (.lit (.int k (a.fdiv (2 ^ min b.toNat k.bits)))) := by simp [binAV, litOp, bl_shr' h]
end
namespace Tryd
section
variable {G : Nat → Option Value} {Q : Exit → St → Prop} {st : St}
theorem count53 (xs : List Int) (n : Int) (h : xs.length < 2 ^ 40) : ACallsX pg G F_plan_Writer_Count [.var [owU xs], li n] (.tup []) [(0, .var [owU (xs ++ [u8 n, u8 (n.fdiv 256)])])] := by
  refine plan_Writer_Count_callX (pins := [0]) (by kernel_rfl) rfl rfl rfl rfl ?_
  simp (disch := omega) [go_sem, plan_Writer_Count_c]
theorem place104 (n : Int) : ACalls pg G F_graph_place [li n] (lb (decide (0 ≤ n ∧ n ≤ 65535))) := by
  refine graph_place_call rfl ?_
  by_cases h1 : 0 ≤ n <;> by_cases h2 : n ≤ 65535 <;> simp (disch := omega) [go_sem, graph_place_c, h1, h2]
theorem odd103 (n : Int) : ACalls pg G 103 [li n] (lb (!decide (0 ≤ n ∧ n ≤ 65535))) := by
  refine graph_fair_2_call rfl ?_
  simp (disch := omega) [go_sem, graph_fair_2_c]
  refine cal_pure (place104 n) rfl rfl ?_
  simp (disch := omega) [go_sem]
theorem index142e (f : FuncId) : ACallsX pg G F_slices_IndexFunc_Node [.sl 0 [], .fn f [] []] (li (-1)) [] := by
  refine slices_IndexFunc_Node_callX (pins := []) (by kernel_rfl) rfl rfl rfl rfl ?_
  simp (disch := omega) [go_sem, slices_IndexFunc_Node_c]
  refine aw_loop Unit (fun _ st => st.s 8 = li 0 ∧ st.s 7 = li 0) (fun _ => 0) () (by simp (disch := omega) [go_sem]) ?_
  rintro i st K ⟨h8, h7⟩ hK
  simp (disch := omega) [go_sem, slices_IndexFunc_Node_l0, h7, h8]
theorem contains101e (f : FuncId) : ACallsX pg G F_slices_ContainsFunc_Node [.sl 0 [], .fn f [] []] (lb false) [] := by
  refine slices_ContainsFunc_Node_callX (pins := []) (by kernel_rfl) rfl rfl rfl rfl ?_
  simp (disch := omega) [go_sem, slices_ContainsFunc_Node_c]
  refine clx_pure (index142e f) rfl rfl rfl rfl ?_
  simp (disch := omega) [go_sem]
theorem fair52e : ACalls pg G F_graph_fair [.agg [.sl 0 [], li 0]] (.lit .nilIface) := by
  refine graph_fair_call rfl ?_
  simp (disch := omega) [go_sem, graph_fair_c]
  refine clx_pure (contains101e 102) rfl rfl rfl rfl ?_
  simp (disch := omega) [go_sem]
  refine aw_loop Unit (fun _ st => st.s 21 = li 0 ∧ st.s 22 = li 0 ∧ st.s 1 = .var [.sl 0 [], li 0] ∧ st.s 3 = .fn 103 [] []) (fun _ => 0) () (by simp (disch := omega) [go_sem]) ?_
  rintro i st K ⟨h21, h22, h1, h3⟩ hK
  simp (disch := omega) [go_sem, graph_fair_l0, h21, h22, h1, h3]
  refine clx_pure ((odd103 0).toX (by simp [noRef])) rfl rfl rfl rfl ?_
  simp (disch := omega) [go_sem, h1]
  refine aw_loop Unit (fun _ st => st.s 54 = li 0 ∧ st.s 55 = li 0) (fun _ => 0) () (by simp (disch := omega) [go_sem]) ?_
  rintro i st K ⟨h54, h55⟩ hK
  simp (disch := omega) [go_sem, graph_fair_l1, h54, h55]
theorem bytes24e : ACalls pg G F_graph_Bytes [.agg [.sl 0 [], li 0]] (.tup [slU [76, 71, 0, 0, 0, 0], .lit .nilIface]) := by
  refine graph_Bytes_call rfl ?_
  simp (disch := omega) [go_sem, graph_Bytes_c]
  refine cal_pure fair52e rfl rfl ?_
  simp (disch := omega) [go_sem]
  refine clx_pure (count53 [76, 71] 0 (by simp)) rfl rfl rfl rfl ?_
  simp (disch := omega) [go_sem]
  refine aw_loop Unit (fun _ st => st.s 28 = li 0 ∧ st.s 29 = li 0 ∧ st.s 1 = .var [.sl 0 [], li 0] ∧ st.s 5 = .var [owU [76, 71, 0, 0]]) (fun _ => 0) () (by simp (disch := omega) [go_sem]; decide) ?_
  rintro i st K ⟨h28, h29, h1, h5⟩ hK
  simp (disch := omega) [go_sem, graph_Bytes_l2, h28, h29, h1, h5]
  refine clx_pure (count53 [76, 71, 0, 0] 0 (by simp)) rfl rfl rfl rfl ?_
  simp (disch := omega) [go_sem]
  decide
theorem first21 : ACalls pg G F_lodgelaw17_first [] (lb true) := by
  refine lodgelaw17_first_call rfl ?_
  simp (disch := omega) [go_sem, lodgelaw17_first_c]
  refine cal_imm bytes24e rfl rfl ?_
  simp (disch := omega) [go_sem]
end
end Tryd
end Go.Ideal
end

section
set_option linter.unusedVariables false
set_option linter.unusedSimpArgs false
set_option maxRecDepth 10000
namespace Go.Ideal.Tryd
section
variable {Q : Exit → St → Prop} {st : St}
/-- The first place of a number, from a place on; else -1. -/
def indexI (v : Int) : List Int → Nat → Int
  | [], _ => -1
  | x :: xs, i => if v = x then i else indexI v xs (i + 1)
theorem indexI_drop {v : Int} {bs : List Int} {i k : Nat} (h : i < bs.length) : indexI v (bs.drop i) k = if v = bs[i] then (k : Int) else indexI v (bs.drop (i + 1)) (k + 1) := by
  rw [List.drop_eq_getElem_cons h]; rfl
theorem index115 (G : Nat → Option Value) (bs : List Int) (v : Int) (hlen : bs.length < 2 ^ 62) : ACalls pg G F_slices_Index_int [slI bs, li v] (li (indexI v bs 0)) := by
  refine slices_Index_int_call rfl ?_
  simp (disch := omega) [go_sem, slices_Index_int_c]
  refine aw_loop Nat (fun i st => st.s 0 = slI bs ∧ st.s 1 = li v ∧ st.s 7 = li bs.length ∧ st.s 8 = li i ∧ i ≤ bs.length ∧ indexI v (bs.drop i) i = indexI v bs 0) (fun i => bs.length - i) 0 ?_ ?_
  · simp (disch := omega) [go_sem]
  · rintro i st K ⟨h0, h1, h7, h8, hi, hno⟩ hK
    by_cases hlt : i < bs.length
    · rw [indexI_drop hlt] at hno
      by_cases hv : v = bs[i]
      · rw [if_pos hv] at hno
        simp (disch := omega) [go_sem, slices_Index_int_l0, h0, h1, h7, h8, hlt, ← hno, hv]
        rw [← hv]; exact hno
      · rw [if_neg hv] at hno
        simp (disch := omega) [go_sem, slices_Index_int_l0, h0, h1, h7, h8, hlt, hv]
        exact hK (i + 1) _ ⟨by simp [h0], by simp [h1], by simp [h7], by simp, by omega, hno⟩ (by omega)
    · rw [List.drop_eq_nil_of_le (by omega)] at hno
      simp (disch := omega) [go_sem, slices_Index_int_l0, h0, h1, h7, h8, hlt, ← hno, indexI]
theorem indexI_in {v : Int} : ∀ {bs : List Int} {i : Nat}, 0 ≤ indexI v bs i ↔ v ∈ bs
  | [], i => by simp [indexI]
  | x :: xs, i => by
    simp only [indexI, List.mem_cons]
    split
    · rename_i h; simp [h]
    · rename_i h; rw [indexI_in]; simp [h]
theorem contains62 (G : Nat → Option Value) (bs : List Int) (v : Int) (hlen : bs.length < 2 ^ 62) : ACalls pg G F_slices_Contains_int [slI bs, li v] (lb (decide (v ∈ bs))) := by
  refine slices_Contains_int_call rfl ?_
  simp (disch := omega) [go_sem, slices_Contains_int_c]
  refine cal_pure (index115 G bs v hlen) rfl rfl ?_
  simp (disch := omega) [go_sem, indexI_in]
theorem among31 (G : Nat → Option Value) (bs : List Int) (v : Int) (hlen : bs.length < 2 ^ 62) : ACalls pg G F_lodgeref_Among [slI bs, li v] (lb (decide (v ∈ bs))) := by
  refine lodgeref_Among_call rfl ?_
  simp (disch := omega) [go_sem, lodgeref_Among_c]
  refine aw_loop Nat (fun i st => st.s 0 = slI bs ∧ st.s 1 = li v ∧ st.s 5 = li i ∧ i ≤ bs.length ∧ v ∉ bs.take i) (fun i => bs.length - i) 0 ?_ ?_
  · simp (disch := omega) [go_sem]
  · rintro i st K ⟨h0, h1, h5, hi, hno⟩ hK
    by_cases hlt : i < bs.length
    · by_cases hv : bs[i] = v
      · have hm : v ∈ bs := hv ▸ List.getElem_mem hlt
        simp (disch := omega) [go_sem, lodgeref_Among_l0, h0, h1, h5, hlt, hv, hm]
      · simp (disch := omega) [go_sem, lodgeref_Among_l0, h0, h1, h5, hlt, hv]
        refine hK (i + 1) _ ⟨by simp [h0], by simp [h1], by simp [h5], by omega, ?_⟩ (by omega)
        rw [List.take_succ_eq_append_getElem hlt]
        simp only [List.mem_append, List.mem_singleton, not_or]
        exact ⟨hno, fun h => hv h.symm⟩
    · have hm : v ∉ bs := by rw [List.take_of_length_le (by omega)] at hno; exact hno
      simp (disch := omega) [go_sem, lodgeref_Among_l0, h0, h1, h5, hlt, hm]
theorem ints30 (G : Nat → Option Value) (xs : List Int) (hlen : xs.length < 2 ^ 40) : ACalls pg G F_lodgeref_Ints [slI xs] (owI xs) := by
  refine lodgeref_Ints_call rfl ?_
  simp (disch := omega) [go_sem, lodgeref_Ints_c]
  refine aw_loop Nat (fun i st => st.s 0 = slI xs ∧ (∃ ys, ys = xs.take i ∧ st.s 3 = owI ys) ∧ st.s 4 = li i ∧ i ≤ xs.length) (fun i => xs.length - i) 0 ?_ ?_
  · exact ⟨by simp (disch := omega) [go_sem], ⟨[], by simp, by simp (disch := omega) [go_sem]⟩, by simp (disch := omega) [go_sem], by omega⟩
  · rintro i st K ⟨h0, ⟨ys, hys, h3⟩, h4, hi⟩ hK
    have hl : ys.length = i := by rw [hys]; simp; omega
    by_cases hlt : i < xs.length
    · simp (disch := omega) [go_sem, lodgeref_Ints_l0, h0, h3, h4, hlt]
      refine hK (i + 1) _ ⟨by simp (disch := omega) [go_sem, h0], ⟨ys ++ [xs[i]], by rw [List.take_succ_eq_append_getElem hlt, hys], ?_⟩, by simp (disch := omega) [go_sem, h4], by omega⟩ (by omega)
      simp (disch := omega) [go_sem]
    · obtain rfl : i = xs.length := by omega
      have : ys = xs := by rw [hys]; simp
      subst this
      simp (disch := omega) [go_sem, lodgeref_Ints_l0, h0, h3, h4]
end
end Go.Ideal.Tryd
end

section
set_option linter.unusedVariables false
set_option linter.unusedSimpArgs false
set_option maxRecDepth 10000
namespace Go.Ideal.Tryd
/-- A graph's node. -/
structure Nd where
  op : Int
  ins : List Int
  args : List Int
  shape : List Int
  wide : Bool
  data : List Int
def encN (n : Nd) : List AV := [li n.op, slI n.ins, slI n.args, slI n.shape, lb n.wide, slI n.data]
@[go_sem] theorem encN_len {xs : List Nd} : (fm encN xs).length = xs.length * 6 := fm_len fun _ => rfl
@[go_sem] theorem encN_get {xs : List Nd} {i : Nat} (h : i < xs.length) : ((fm encN xs).drop (i * 6)).take 6 = [li xs[i].op, slI xs[i].ins, slI xs[i].args, slI xs[i].shape, lb xs[i].wide, slI xs[i].data] := fm_get (f := encN) (k := 6) (fun _ => rfl) h
@[go_sem] theorem encN_take {xs : List Nd} : (fm encN xs).take (xs.length * 6) = fm encN xs := fm_take fun _ => rfl
@[go_sem] theorem encN_noOwn {xs : List Nd} : noOwnL (fm encN xs) = true := fm_noOwn fun _ => rfl
@[go_sem] theorem encN_frz {xs : List Nd} : frzL (fm encN xs) = fm encN xs := by
  rw [fm_frz]; congr 1
section
variable {G : Nat → Option Value} {Q : Exit → St → Prop} {st : St}
def uRow (i : Nat) : List Int → List (List Int) → List (List Int)
  | [], u => u
  | k :: ks, u => uRow i ks (if 0 ≤ k ∧ k < (u.length : Int) ∧ (i : Int) ∉ u[k.toNat]! then u.set k.toNat (u[k.toNat]! ++ [(i : Int)]) else u)
def uAll : List (List Int) → Nat → List (List Int) → List (List Int)
  | [], _, u => u
  | r :: rs, i, u => uAll rs (i + 1) (uRow i r u)
theorem uses_l0 {row : List Int} {u0 : List (List Int)} {i c : Nat} {v13 v14 v15 : AV} (hu : u0.length < 2 ^ 40) (hr : row.length < 2 ^ 40) (hc : c + row.length < 2 ^ 41) (hb : ∀ r ∈ u0, r.length ≤ c) (e13 : ∃ n ks, v13 = .sl n ks) (e14 : ∃ v, v14 = .lit v) (e15 : ∃ v, v15 = .lit v)
    (h21 : st.s 21 = slI row) (h22 : st.s 22 = li row.length) (h23 : st.s 23 = li 0) (h3 : st.s 3 = owII u0) (h4 : st.s 4 = li i) (h13 : st.s 13 = v13) (h14 : st.s 14 = v14) (h15 : st.s 15 = v15)
    (hex : ∀ s, s.s 3 = owII (uRow i row u0) → s.s 13 = v13 → s.s 14 = v14 → s.s 15 = v15 → (uRow i row u0).length = u0.length → (∀ r ∈ uRow i row u0, r.length ≤ c + row.length) → Q (.exit 2) s) : AW pg G 57 (.loop graph_Uses_l0) Q st := by
  obtain ⟨n13, k13, rfl⟩ := e13
  obtain ⟨w14, rfl⟩ := e14
  obtain ⟨w15, rfl⟩ := e15
  refine aw_loop (Nat × List (List Int)) (fun p st => p.1 ≤ row.length ∧ uRow i (row.drop p.1) p.2 = uRow i row u0 ∧ p.2.length = u0.length ∧ (∀ r ∈ p.2, r.length ≤ c + p.1) ∧ st.s 21 = slI row ∧ st.s 22 = li row.length ∧ st.s 23 = li p.1 ∧ st.s 3 = owII p.2 ∧ st.s 4 = li i ∧ st.s 13 = .sl n13 k13 ∧ st.s 14 = .lit w14 ∧ st.s 15 = .lit w15) (fun p => row.length - p.1) (0, u0) ?_ ?_
  · exact ⟨by simp, rfl, rfl, fun r hr => by have := hb r hr; omega, h21, h22, h23, h3, h4, h13, h14, h15⟩
  · clear h21 h22 h23 h3 h4 h13 h14 h15
    rintro ⟨j, u⟩ st K ⟨hj, ht, hl, hb2, h21, h22, h23, h3, h4, h13, h14, h15⟩ hK
    simp only at hj ht hl hb2 h23 h3
    by_cases hlt : j < row.length
    · rw [List.drop_eq_getElem_cons hlt, uRow] at ht
      by_cases k1 : 0 ≤ row[j]
      · by_cases k2 : row[j] < (u.length : Int)
        · have k3 : row[j].toNat < u.length := by omega
          have k4 : u[row[j].toNat].length < 2 ^ 62 := by have := hb2 _ (List.getElem_mem k3); omega
          simp (disch := omega) [go_sem, graph_Uses_l0, h21, h22, h23, h3, h4, hlt, k1, k2]
          refine cal_pure (contains62 G u[row[j].toNat] i k4) rfl rfl ?_
          by_cases k5 : (i : Int) ∈ u[row[j].toNat]
          · rw [if_neg (by simp [k3, k5])] at ht
            simp (disch := omega) [go_sem, h21, h22, h23, h3, h4, hlt, k1, k2, k5]
            exact hK (j + 1, u) _ ⟨by simp only; omega, ht, hl, fun r hr => by have := hb2 r hr; simp only; omega, by simp (disch := omega) [go_sem, h21], by simp (disch := omega) [go_sem, h22], by simp (disch := omega) [go_sem, h23], by simp (disch := omega) [go_sem, h3], by simp (disch := omega) [go_sem, h4], by simp (disch := omega) [go_sem, h13], by simp (disch := omega) [go_sem, h14], by simp (disch := omega) [go_sem, h15]⟩ (by simp only; omega)
          · rw [if_pos (by simp [k1, k2, k3, k5])] at ht
            have k6 : u[row[j].toNat].length ≤ c + j := hb2 _ (List.getElem_mem k3)
            simp (disch := omega) [go_sem, h21, h22, h23, h3, h4, hlt, k1, k2, k5]
            refine hK (j + 1, u.set row[j].toNat (u[row[j].toNat]! ++ [(i : Int)])) _ ⟨by simp only; omega, ht, by simpa using hl, fun r hr => ?_, by simp (disch := omega) [go_sem, h21], by simp (disch := omega) [go_sem, h22], by simp (disch := omega) [go_sem, h23], by simp (disch := omega) [go_sem, h3, k3], by simp (disch := omega) [go_sem, h4], by simp (disch := omega) [go_sem, h13], by simp (disch := omega) [go_sem, h14], by simp (disch := omega) [go_sem, h15]⟩ (by simp only; omega)
            simp only at hr ⊢
            rcases List.mem_or_eq_of_mem_set hr with hr | rfl
            · have := hb2 r hr; omega
            · simp [k3]; omega
        · rw [if_neg (by simp; omega)] at ht
          simp (disch := omega) [go_sem, graph_Uses_l0, h21, h22, h23, h3, h4, hlt, k1, k2]
          exact hK (j + 1, u) _ ⟨by simp only; omega, ht, hl, fun r hr => by have := hb2 r hr; simp only; omega, by simp (disch := omega) [go_sem, h21], by simp (disch := omega) [go_sem, h22], by simp (disch := omega) [go_sem, h23], by simp (disch := omega) [go_sem, h3], by simp (disch := omega) [go_sem, h4], by simp (disch := omega) [go_sem, h13], by simp (disch := omega) [go_sem, h14], by simp (disch := omega) [go_sem, h15]⟩ (by simp only; omega)
      · rw [if_neg (by simp; omega)] at ht
        simp (disch := omega) [go_sem, graph_Uses_l0, h21, h22, h23, h3, h4, hlt, k1]
        exact hK (j + 1, u) _ ⟨by simp only; omega, ht, hl, fun r hr => by have := hb2 r hr; simp only; omega, by simp (disch := omega) [go_sem, h21], by simp (disch := omega) [go_sem, h22], by simp (disch := omega) [go_sem, h23], by simp (disch := omega) [go_sem, h3], by simp (disch := omega) [go_sem, h4], by simp (disch := omega) [go_sem, h13], by simp (disch := omega) [go_sem, h14], by simp (disch := omega) [go_sem, h15]⟩ (by simp only; omega)
    · obtain rfl : j = row.length := by omega
      rw [List.drop_eq_nil_of_le (Nat.le_refl _), uRow] at ht
      subst ht
      simp (disch := omega) [go_sem, graph_Uses_l0, h21, h22, h23]
      exact hex _ (by simp (disch := omega) [go_sem, h3]) (by simp (disch := omega) [go_sem, h13]) (by simp (disch := omega) [go_sem, h14]) (by simp (disch := omega) [go_sem, h15]) hl hb2
theorem uRow_len {i : Nat} : ∀ {row : List Int} {u : List (List Int)}, (uRow i row u).length = u.length
  | [], u => rfl
  | k :: ks, u => by
    rw [uRow, uRow_len]
    split <;> simp
theorem uses26 (g : List Nd) (out : Int) (hg : g.length < 2 ^ 40) (hc : tot (g.map (·.ins)) < 2 ^ 40) : ACalls pg G F_graph_Uses [.agg [.sl g.length (fm encN g), li out]] (owII (uAll (g.map (·.ins)) 0 (List.replicate g.length []))) := by
  refine graph_Uses_call rfl ?_
  simp (disch := omega) [go_sem, graph_Uses_c]
  have hlm : (g.map (·.ins)).length = g.length := by simp
  refine aw_loop (Nat × List (List Int)) (fun p st => p.1 ≤ g.length ∧ uAll ((g.map (·.ins)).drop p.1) p.1 p.2 = uAll (g.map (·.ins)) 0 (List.replicate g.length []) ∧ p.2.length = g.length ∧ (∀ r ∈ p.2, r.length ≤ tot ((g.map (·.ins)).take p.1)) ∧ st.s 3 = owII p.2 ∧ st.s 13 = .sl g.length (fm encN g) ∧ st.s 14 = li g.length ∧ st.s 15 = li p.1) (fun p => g.length - p.1) (0, List.replicate g.length []) ?_ ?_
  · exact ⟨by simp, rfl, by simp, fun r hr => by rw [List.eq_of_mem_replicate hr]; simp, by simp (disch := omega) [go_sem], by simp (disch := omega) [go_sem], by simp (disch := omega) [go_sem], by simp (disch := omega) [go_sem]⟩
  · rintro ⟨i, u⟩ st K ⟨hi, ht, hl, hb, h3, h13, h14, h15⟩ hK
    simp only at hi ht hl hb h3 h15
    by_cases hlt : i < g.length
    · have hlt2 : i < (g.map (·.ins)).length := by omega
      obtain ⟨t1, t2⟩ := tot_take hlt2
      rw [List.getElem_map] at t1
      rw [List.drop_eq_getElem_cons hlt2, List.getElem_map, uAll] at ht
      simp (disch := omega) [go_sem, graph_Uses_l1, h3, h13, h14, h15, hlt]
      refine uses_l0 (row := g[i].ins) (u0 := u) (i := i) (c := tot ((g.map (·.ins)).take i)) (v13 := .sl g.length (fm encN g)) (v14 := li g.length) (v15 := li i) (by omega) (by omega) (by omega) hb ⟨_, _, rfl⟩ ⟨_, rfl⟩ ⟨_, rfl⟩ (by simp (disch := omega) [go_sem]) (by simp (disch := omega) [go_sem]) (by simp (disch := omega) [go_sem]) (by simp (disch := omega) [go_sem, h3]) (by simp (disch := omega) [go_sem]) (by simp (disch := omega) [go_sem, h13]) (by simp (disch := omega) [go_sem, h14]) (by simp (disch := omega) [go_sem, h15]) ?_
      intro s k3 k13 k14 k15 kl kb
      simp (disch := omega) [go_sem, k15]
      exact hK (i + 1, uRow i g[i].ins u) _ ⟨by simp only; omega, ht, by simp only; omega, fun r hr => by have := kb r hr; simp only; omega, by simp (disch := omega) [go_sem, k3], by simp (disch := omega) [go_sem, k13], by simp (disch := omega) [go_sem, k14], by simp (disch := omega) [go_sem, k15]⟩ (by simp only; omega)
    · obtain rfl : i = g.length := by omega
      rw [List.drop_eq_nil_of_le (by omega), uAll] at ht
      subst ht
      simp (disch := omega) [go_sem, graph_Uses_l1, h3, h13, h14, h15]
end
end Go.Ideal.Tryd
end

section
set_option linter.unusedVariables false
set_option linter.unusedSimpArgs false
set_option maxRecDepth 10000
namespace Go.Ideal.Tryd
section
variable {G : Nat → Option Value} {Q : Exit → St → Prop} {st : St}
def encO (r : List Int) : List AV := [li 4, owI r, .own 1 0 [], .own 1 0 [], lb false, .own 1 0 []]
def ndOf (r : List Int) : Nd := ⟨4, r, [], [], false, []⟩
@[go_sem] theorem encO_len {xs : List (List Int)} : (fm encO xs).length = xs.length * 6 := fm_len fun _ => rfl
@[go_sem] theorem encO_take {xs : List (List Int)} : (fm encO xs).take (xs.length * 6) = fm encO xs := fm_take fun _ => rfl
@[go_sem] theorem encO_frz {xs : List (List Int)} : frzL (fm encO xs) = fm encN (xs.map ndOf) := by
  rw [fm_frz]
  induction xs with
  | nil => rfl
  | cons x xs ih =>
    rw [fm_cons, List.map_cons, fm_cons, ih]
    congr 1
    simp [encO, encN, ndOf, go_sem]
theorem gu_l0 {l : List (List Int)} (hl : l.length ≤ 40) (h0 : st.s 0 = slII l) (h3 : st.s 3 = lb true) (h4 : st.s 4 = .var [.own 6 0 [], li 0]) (h5 : st.s 5 = li 0)
    (hex : (∀ r ∈ l, r.length ≤ 10) → ∀ s, s.s 0 = slII l → s.s 3 = lb true → s.s 4 = .var [.own 6 l.length (fm encO l), li 0] → Q (.exit 0) s) (hret : ∀ s, s.s 2 = lb true → Q .ret s) : AW pg G 123 (.loop lodgelaw17_GraphUses_l0) Q st := by
  refine aw_loop (Nat × List (List Int)) (fun p st => p.1 ≤ l.length ∧ p.2 = l.take p.1 ∧ (∀ r ∈ p.2, r.length ≤ 10) ∧ st.s 0 = slII l ∧ st.s 3 = lb true ∧ st.s 4 = .var [.own 6 p.2.length (fm encO p.2), li 0] ∧ st.s 5 = li p.1) (fun p => l.length - p.1) (0, []) ?_ ?_
  · exact ⟨by simp, by simp, fun r hr => by simp at hr, h0, h3, h4, h5⟩
  · clear h0 h3 h4 h5
    rintro ⟨i, ys⟩ st K ⟨hi, hys, hb, h0, h3, h4, h5⟩ hK
    simp only at hi hys hb h4 h5
    have hyl : ys.length = i := by rw [hys]; simp; omega
    by_cases hlt : i < l.length
    · by_cases hr : 10 < l[i].length
      · have hr' : (10 : Int) < l[i].length := by omega
        simp (disch := omega) [go_sem, lodgelaw17_GraphUses_l0, h0, h4, h5, hlt, hr']
        exact hret _ (by simp (disch := omega) [go_sem])
      · have hr' : ¬ (10 : Int) < l[i].length := by omega
        simp (disch := omega) [go_sem, lodgelaw17_GraphUses_l0, h0, h4, h5, hlt, hr']
        refine aw_draw ?_
        simp (disch := omega) [go_sem, h0, h4, h5, hlt]
        refine dCal_pure (ints30 G l[i] (by omega)) rfl (by simp [noImm, noImmL_li]) (by simp) [41] (by simp) (by simp (disch := omega) [go_sem]) ?_
        simp (disch := omega) [go_sem, h0, h4, h5, hlt]
        refine dFin_i (by decide) fun s2 hs he => ?_
        simp (disch := omega) [go_sem, hs, h5]
        refine hK (i + 1, ys ++ [l[i]]) _ ⟨by simp only; omega, by simp only; rw [List.take_succ_eq_append_getElem hlt, hys], fun r hr2 => ?_, by simp (disch := omega) [go_sem, hs, h0], by simp (disch := omega) [go_sem, hs, h3], ?_, by simp (disch := omega) [go_sem, hs]⟩ (by simp only; omega)
        · rcases List.mem_append.1 hr2 with h | h
          · exact hb r h
          · simp at h; subst h; omega
        · rw [fm_app]
          simp (disch := omega) [go_sem, hs, fm_one, encO]
    · obtain rfl : i = l.length := by omega
      have : ys = l := by rw [hys]; simp
      subst this
      simp (disch := omega) [go_sem, lodgelaw17_GraphUses_l0, h0, h4, h5]
      exact hex hb _ (by simp (disch := omega) [go_sem, h0]) (by simp (disch := omega) [go_sem, h3]) (by simp (disch := omega) [go_sem, h4])
end
end Go.Ideal.Tryd
end

section
set_option linter.unusedVariables false
set_option linter.unusedSimpArgs false
set_option maxRecDepth 10000
namespace Go.Ideal.Tryd
section
variable {G : Nat → Option Value} {Q : Exit → St → Prop} {st : St}
theorem gu_l1 {l u : List (List Int)} {i : Nat} {k : Int} (hi : i < u.length) (hb : u[i].length < 2 ^ 40) (h0 : st.s 0 = slII l) (h3 : st.s 3 = lb true) (h6 : st.s 6 = owII u) (h7 : st.s 7 = li i) (h8 : st.s 8 = li k) (h9 : st.s 9 = li 0) (h10 : st.s 10 = li 0)
    (hex : ∀ s, s.s 0 = slII l → s.s 3 = lb true → s.s 6 = owII u → s.s 7 = li i → s.s 8 = li k → s.s 9 = li (u[i].count k : Nat) → Q (.exit 6) s) : AW pg G 123 (.loop lodgelaw17_GraphUses_l1) Q st := by
  refine aw_loop (Nat × Nat) (fun p st => p.1 ≤ u[i].length ∧ p.2 = (u[i].take p.1).count k ∧ st.s 0 = slII l ∧ st.s 3 = lb true ∧ st.s 6 = owII u ∧ st.s 7 = li i ∧ st.s 8 = li k ∧ st.s 9 = li p.2 ∧ st.s 10 = li p.1) (fun p => u[i].length - p.1) (0, 0) ?_ ?_
  · exact ⟨by simp, by simp, h0, h3, h6, h7, h8, h9, h10⟩
  · clear h0 h3 h6 h7 h8 h9 h10
    rintro ⟨j, n⟩ st K ⟨hj, hn, h0, h3, h6, h7, h8, h9, h10⟩ hK
    simp only at hj hn h9 h10
    have hnj : n ≤ j := by rw [hn]; exact Nat.le_trans List.count_le_length (by simp; omega)
    by_cases hlt : j < u[i].length
    · have ht : (u[i].take (j + 1)).count k = n + if u[i][j] = k then 1 else 0 := by
        rw [List.take_succ_eq_append_getElem hlt, List.count_append, ← hn]
        simp [List.count_singleton]
      by_cases hk : u[i][j] = k
      · rw [if_pos hk] at ht
        simp (disch := omega) [go_sem, lodgelaw17_GraphUses_l1, h6, h7, h8, h9, h10, hlt, hk]
        exact hK (j + 1, n + 1) _ ⟨by simp only; omega, ht.symm, by simp (disch := omega) [go_sem, h0], by simp (disch := omega) [go_sem, h3], by simp (disch := omega) [go_sem, h6], by simp (disch := omega) [go_sem, h7], by simp (disch := omega) [go_sem, h8], by simp (disch := omega) [go_sem, h9], by simp (disch := omega) [go_sem, h10]⟩ (by simp only; omega)
      · rw [if_neg hk] at ht
        simp (disch := omega) [go_sem, lodgelaw17_GraphUses_l1, h6, h7, h8, h9, h10, hlt, hk]
        exact hK (j + 1, n) _ ⟨by simp only; omega, ht.symm, by simp (disch := omega) [go_sem, h0], by simp (disch := omega) [go_sem, h3], by simp (disch := omega) [go_sem, h6], by simp (disch := omega) [go_sem, h7], by simp (disch := omega) [go_sem, h8], by simp (disch := omega) [go_sem, h9], by simp (disch := omega) [go_sem, h10]⟩ (by simp only; omega)
    · obtain rfl : j = u[i].length := by omega
      rw [List.take_length] at hn
      simp (disch := omega) [go_sem, lodgelaw17_GraphUses_l1, h6, h7, h10]
      exact hex _ (by simp (disch := omega) [go_sem, h0]) (by simp (disch := omega) [go_sem, h3]) (by simp (disch := omega) [go_sem, h6]) (by simp (disch := omega) [go_sem, h7]) (by simp (disch := omega) [go_sem, h8]) (by simp (disch := omega) [go_sem, h9, hn])
theorem gu_l2 {l u : List (List Int)} {i : Nat} (hl : l.length ≤ 40) (hr : ∀ r ∈ l, r.length ≤ 10) (hi : i < u.length) (hb : u[i].length < 2 ^ 40) (hH : ∀ (k : Nat) (h : k < l.length), u[i].count (k : Int) = if (i : Int) ∈ l[k] then 1 else 0)
    (h0 : st.s 0 = slII l) (h3 : st.s 3 = lb true) (h6 : st.s 6 = owII u) (h7 : st.s 7 = li i) (h8 : st.s 8 = li 0)
    (hex : ∀ s, s.s 0 = slII l → s.s 3 = lb true → s.s 6 = owII u → s.s 7 = li i → Q (.exit 4) s) : AW pg G 123 (.loop lodgelaw17_GraphUses_l2) Q st := by
  refine aw_loop Nat (fun k st => k ≤ l.length ∧ st.s 0 = slII l ∧ st.s 3 = lb true ∧ st.s 6 = owII u ∧ st.s 7 = li i ∧ st.s 8 = li k) (fun k => l.length - k) 0 ?_ ?_
  · exact ⟨by simp, h0, h3, h6, h7, h8⟩
  · clear h0 h3 h6 h7 h8
    rintro k st K ⟨hk, h0, h3, h6, h7, h8⟩ hK
    by_cases hlt : k < l.length
    · simp (disch := omega) [go_sem, lodgelaw17_GraphUses_l2, h0, h3, h6, h7, h8, hlt]
      refine gu_l1 (l := l) (u := u) (i := i) (k := k) hi hb (by simp (disch := omega) [go_sem, h0]) (by simp (disch := omega) [go_sem, h3]) (by simp (disch := omega) [go_sem, h6]) (by simp (disch := omega) [go_sem, h7]) (by simp (disch := omega) [go_sem, h8]) (by simp (disch := omega) [go_sem]) (by simp (disch := omega) [go_sem]) ?_
      intro s h0 h3 h6 h7 h8 h9
      rw [hH k hlt] at h9
      have hrk := hr _ (List.getElem_mem hlt)
      by_cases hm : (i : Int) ∈ l[k]
      · rw [if_pos hm] at h9
        simp (disch := omega) [go_sem, h0, h3, h6, h7, h8, h9, hlt]
        refine cal_pure (among31 G l[k] i (by omega)) rfl rfl ?_
        simp (disch := omega) [go_sem, hm, h0, h3, h6, h7, h8]
        exact hK (k + 1) _ ⟨by omega, by simp (disch := omega) [go_sem, h0], by simp (disch := omega) [go_sem, h3], by simp (disch := omega) [go_sem, h6], by simp (disch := omega) [go_sem, h7], by simp (disch := omega) [go_sem, h8]⟩ (by omega)
      · rw [if_neg hm] at h9
        simp (disch := omega) [go_sem, h0, h3, h6, h7, h8, h9, hlt]
        refine cal_pure (among31 G l[k] i (by omega)) rfl rfl ?_
        simp (disch := omega) [go_sem, hm, h0, h3, h6, h7, h8]
        exact hK (k + 1) _ ⟨by omega, by simp (disch := omega) [go_sem, h0], by simp (disch := omega) [go_sem, h3], by simp (disch := omega) [go_sem, h6], by simp (disch := omega) [go_sem, h7], by simp (disch := omega) [go_sem, h8]⟩ (by omega)
    · obtain rfl : k = l.length := by omega
      simp (disch := omega) [go_sem, lodgelaw17_GraphUses_l2, h0, h8]
      exact hex _ (by simp (disch := omega) [go_sem, h0]) (by simp (disch := omega) [go_sem, h3]) (by simp (disch := omega) [go_sem, h6]) (by simp (disch := omega) [go_sem, h7])
theorem gu_l3 {l u : List (List Int)} {i : Nat} (hi : i < u.length) (hb : u[i].length < 2 ^ 40) (hH : ∀ (j : Nat) (h : j + 1 < u[i].length), u[i][j] < u[i][j + 1])
    (h0 : st.s 0 = slII l) (h3 : st.s 3 = lb true) (h6 : st.s 6 = owII u) (h7 : st.s 7 = li i) (h11 : st.s 11 = li 1)
    (hex : ∀ s, s.s 0 = slII l → s.s 3 = lb true → s.s 6 = owII u → s.s 7 = li i → Q (.exit 8) s) : AW pg G 123 (.loop lodgelaw17_GraphUses_l3) Q st := by
  refine aw_loop Nat (fun j st => st.s 0 = slII l ∧ st.s 3 = lb true ∧ st.s 6 = owII u ∧ st.s 7 = li i ∧ st.s 11 = li ((j + 1 : Nat) : Int)) (fun j => u[i].length - j) 0 ?_ ?_
  · exact ⟨h0, h3, h6, h7, by simpa using h11⟩
  · clear h0 h3 h6 h7 h11
    rintro j st K ⟨h0, h3, h6, h7, h11⟩ hK
    by_cases hlt : j + 1 < u[i].length
    · have hlt' : (j : Int) + 1 < u[i].length := by omega
      have hh := hH j hlt
      have hno : ¬ u[i][j + 1] ≤ u[i][j] := by omega
      have hj1 : ((j : Int) + 1).toNat = j + 1 := by omega
      simp (disch := omega) [go_sem, lodgelaw17_GraphUses_l3, h6, h7, h11, hlt']
      refine aw_draw ?_
      simp (disch := omega) [go_sem, h6, h7, h11, hlt', hj1]
      refine dFin_i (by decide) fun s2 hs he => ?_
      simp (disch := omega) [go_sem, hs, h11]
      exact hK (j + 1) _ ⟨by simp (disch := omega) [go_sem, hs, h0], by simp (disch := omega) [go_sem, hs, h3], by simp (disch := omega) [go_sem, hs, h6], by simp (disch := omega) [go_sem, hs, h7], by simp (disch := omega) [go_sem, hs, h11]⟩ (by omega)
    · have hlt' : ¬ (j : Int) + 1 < u[i].length := by omega
      simp (disch := omega) [go_sem, lodgelaw17_GraphUses_l3, h6, h7, h11, hlt']
      exact hex _ (by simp (disch := omega) [go_sem, h0]) (by simp (disch := omega) [go_sem, h3]) (by simp (disch := omega) [go_sem, h6]) (by simp (disch := omega) [go_sem, h7])
theorem gu_l4 {l u : List (List Int)} (hl : l.length ≤ 40) (hr : ∀ r ∈ l, r.length ≤ 10) (hu : u.length = l.length) (hb : ∀ r ∈ u, r.length < 2 ^ 40) (hH : ∀ (i : Nat) (hi : i < u.length) (k : Nat) (h : k < l.length), u[i].count (k : Int) = if (i : Int) ∈ l[k] then 1 else 0)
    (hS : ∀ (i : Nat) (hi : i < u.length) (j : Nat) (h : j + 1 < u[i].length), u[i][j] < u[i][j + 1]) (h0 : st.s 0 = slII l) (h3 : st.s 3 = lb true) (h6 : st.s 6 = owII u) (h7 : st.s 7 = li 0)
    (hex : ∀ s, Q (.exit 2) s) : AW pg G 123 (.loop lodgelaw17_GraphUses_l4) Q st := by
  refine aw_loop Nat (fun i st => i ≤ l.length ∧ st.s 0 = slII l ∧ st.s 3 = lb true ∧ st.s 6 = owII u ∧ st.s 7 = li i) (fun i => l.length - i) 0 ?_ ?_
  · exact ⟨by simp, h0, h3, h6, h7⟩
  · clear h0 h3 h6 h7
    rintro i st K ⟨hi, h0, h3, h6, h7⟩ hK
    by_cases hlt : i < l.length
    · have hlu : i < u.length := by omega
      simp (disch := omega) [go_sem, lodgelaw17_GraphUses_l4, h0, h7, hlt]
      refine gu_l2 (l := l) (u := u) (i := i) hl hr hlu (hb _ (List.getElem_mem hlu)) (hH i hlu) (by simp (disch := omega) [go_sem, h0]) (by simp (disch := omega) [go_sem, h3]) (by simp (disch := omega) [go_sem, h6]) (by simp (disch := omega) [go_sem, h7]) (by simp (disch := omega) [go_sem]) ?_
      intro s h0 h3 h6 h7
      simp (disch := omega) [go_sem]
      refine gu_l3 (l := l) (u := u) (i := i) hlu (hb _ (List.getElem_mem hlu)) (hS i hlu) (by simp (disch := omega) [go_sem, h0]) (by simp (disch := omega) [go_sem, h3]) (by simp (disch := omega) [go_sem, h6]) (by simp (disch := omega) [go_sem, h7]) (by simp (disch := omega) [go_sem]) ?_
      intro s h0 h3 h6 h7
      simp (disch := omega) [go_sem, h7]
      exact hK (i + 1) _ ⟨by omega, by simp (disch := omega) [go_sem, h0], by simp (disch := omega) [go_sem, h3], by simp (disch := omega) [go_sem, h6], by simp (disch := omega) [go_sem, h7]⟩ (by omega)
    · obtain rfl : i = l.length := by omega
      simp (disch := omega) [go_sem, lodgelaw17_GraphUses_l4, h0, h7]
      exact hex _
end
end Go.Ideal.Tryd
end

section
set_option linter.unusedVariables false
set_option linter.unusedSimpArgs false
namespace Go.Ideal.Tryd
theorem uRow_get {i : Nat} : ∀ {row : List Int} {u : List (List Int)} {t : Nat}, t < u.length → (uRow i row u)[t]! = if (t : Int) ∈ row ∧ (i : Int) ∉ u[t]! then u[t]! ++ [(i : Int)] else u[t]!
  | [], u, t, ht => by simp [uRow]
  | k :: ks, u, t, ht => by
    rw [uRow]
    by_cases hc : 0 ≤ k ∧ k < (u.length : Int) ∧ (i : Int) ∉ u[k.toNat]!
    · rw [if_pos hc]
      have hk : k.toNat < u.length := by omega
      rw [uRow_get (by simpa using ht), get!_set hk]
      by_cases htk : t = k.toNat
      · subst htk
        have : ((k.toNat : Nat) : Int) = k := by omega
        rw [if_pos rfl, if_neg (by simp), if_pos ⟨by rw [this]; simp, hc.2.2⟩]
      · have : (t : Int) ≠ k := by omega
        simp only [htk, if_false, List.mem_cons, this, false_or]
    · rw [if_neg hc, uRow_get ht]
      by_cases htk : (t : Int) = k
      · have h1 : k.toNat = t := by omega
        rw [h1] at hc
        have h2 : (i : Int) ∈ u[t]! := by
          by_cases h : (i : Int) ∈ u[t]!
          · exact h
          · exact absurd ⟨by omega, by omega, h⟩ hc
        rw [if_neg (fun h => h.2 h2), if_neg (fun h => h.2 h2)]
      · simp only [List.mem_cons, htk, false_or]
def sp (t : Nat) : List (List Int) → Nat → List Int
  | [], _ => []
  | r :: rs, i => (if (t : Int) ∈ r then [(i : Int)] else []) ++ sp t rs (i + 1)
theorem uAll_get {t : Nat} : ∀ {rs : List (List Int)} {i : Nat} {u : List (List Int)}, t < u.length → (∀ x ∈ u[t]!, x < (i : Int)) → (uAll rs i u)[t]! = u[t]! ++ sp t rs i ∧ (uAll rs i u).length = u.length
  | [], i, u, ht, hx => by simp [uAll, sp]
  | r :: rs, i, u, ht, hx => by
    rw [uAll]
    have hl : (uRow i r u).length = u.length := uRow_len
    have hn : (i : Int) ∉ u[t]! := fun h => by have := hx _ h; omega
    have hg := uRow_get (i := i) (row := r) ht
    by_cases hr : (t : Int) ∈ r
    · rw [if_pos ⟨hr, hn⟩] at hg
      obtain ⟨h1, h2⟩ := uAll_get (t := t) (rs := rs) (i := i + 1) (u := uRow i r u) (by omega) (fun x hxx => by
        rw [hg] at hxx
        rcases List.mem_append.1 hxx with h | h
        · have := hx x h; omega
        · simp at h; omega)
      rw [h1, h2, hg, sp, if_pos hr, hl]
      simp
    · rw [if_neg (fun h => hr h.1)] at hg
      obtain ⟨h1, h2⟩ := uAll_get (t := t) (rs := rs) (i := i + 1) (u := uRow i r u) (by omega) (fun x hxx => by
        rw [hg] at hxx
        have := hx x hxx; omega)
      rw [h1, h2, hg, sp, if_neg hr, hl]
      simp
theorem sp_ge {t : Nat} : ∀ {rs : List (List Int)} {i : Nat}, ∀ x ∈ sp t rs i, (i : Int) ≤ x
  | [], i, x, h => by simp [sp] at h
  | r :: rs, i, x, h => by
    rw [sp] at h
    rcases List.mem_append.1 h with h | h
    · split at h <;> simp at h; omega
    · have := sp_ge x h; omega
theorem sp_len {t : Nat} : ∀ {rs : List (List Int)} {i : Nat}, (sp t rs i).length ≤ rs.length
  | [], i => by simp [sp]
  | r :: rs, i => by
    rw [sp, List.length_append]
    have := sp_len (t := t) (rs := rs) (i := i + 1)
    split <;> simp <;> omega
theorem sp_sorted {t : Nat} : ∀ {rs : List (List Int)} {i : Nat}, (sp t rs i).Pairwise (· < ·)
  | [], i => by simp [sp]
  | r :: rs, i => by
    rw [sp, List.pairwise_append]
    refine ⟨by split <;> simp, sp_sorted, fun a ha b hb => ?_⟩
    have := sp_ge b hb
    split at ha <;> simp at ha
    omega
theorem sp_count {t : Nat} : ∀ {rs : List (List Int)} {i m : Nat} (h : m < rs.length), (sp t rs i).count ((i + m : Nat) : Int) = if (t : Int) ∈ rs[m] then 1 else 0
  | r :: rs, i, 0, h => by
    rw [sp, List.count_append]
    have : (sp t rs (i + 1)).count ((i + 0 : Nat) : Int) = 0 := List.count_eq_zero.2 fun hm => by have := sp_ge _ hm; omega
    rw [this]
    simp only [Nat.add_zero, List.getElem_cons_zero]
    split <;> simp
  | r :: rs, i, m + 1, h => by
    rw [sp, List.count_append]
    have h1 := sp_count (t := t) (rs := rs) (i := i + 1) (m := m) (by simpa using h)
    rw [show i + (m + 1) = i + 1 + m by omega, h1]
    have : (if (t : Int) ∈ r then [(i : Int)] else []).count ((i + 1 + m : Nat) : Int) = 0 := List.count_eq_zero.2 fun hm => by
      split at hm <;> simp at hm
      omega
    rw [this]
    simp
theorem uses_law {l : List (List Int)} {u : List (List Int)} (hu : u = uAll l 0 (List.replicate l.length [])) : u.length = l.length ∧ (∀ r ∈ u, r.length ≤ l.length) ∧ (∀ (i : Nat) (hi : i < u.length) (k : Nat) (h : k < l.length), u[i].count (k : Int) = if (i : Int) ∈ l[k] then 1 else 0) ∧
    (∀ (i : Nat) (hi : i < u.length) (j : Nat) (h : j + 1 < u[i].length), u[i][j] < u[i][j + 1]) := by
  have hlen : u.length = l.length := by
    cases hl : l with
    | nil => subst hu; subst hl; rfl
    | cons a b =>
      rw [hu, (uAll_get (t := 0) (by rw [hl]; simp) (by rw [hl]; simp)).2, ← hl]
      simp
  have key : ∀ i, i < u.length → u[i]! = sp i l 0 := fun i hi => by
    rw [hu, (uAll_get (t := i) (by simp; omega) (by simp [show i < l.length by omega])).1]
    simp [show i < l.length by omega]
  have key2 : ∀ (i : Nat) (hi : i < u.length), u[i] = sp i l 0 := fun i hi => by rw [← key i hi]; simp [hi]
  refine ⟨hlen, fun r hr => ?_, fun i hi k h => ?_, fun i hi j h => ?_⟩
  · obtain ⟨i, hi, rfl⟩ := List.getElem_of_mem hr
    rw [key2 i hi]; exact sp_len
  · rw [key2 i hi]
    have := sp_count (t := i) (rs := l) (i := 0) h
    simpa using this
  · have hs : u[i].Pairwise (· < ·) := by rw [key2 i hi]; exact sp_sorted
    exact List.pairwise_iff_getElem.1 hs j (j + 1) (by omega) h (by omega)
end Go.Ideal.Tryd
end

section
set_option linter.unusedVariables false
set_option linter.unusedSimpArgs false
set_option maxRecDepth 10000
namespace Go.Ideal.Tryd
theorem graphUses6 (G : Nat → Option Value) (l : List (List Int)) (hn : l.length < 2 ^ 62) : ACalls pg G F_lodgelaw17_GraphUses [slII l] (lb true) := by
  refine lodgelaw17_GraphUses_call rfl ?_
  simp (disch := omega) [go_sem, lodgelaw17_GraphUses_c]
  refine cal_pure first21 rfl rfl ?_
  by_cases h40 : 40 < l.length
  · have h40' : (40 : Int) < l.length := by omega
    simp (disch := omega) [go_sem, h40']
  · have h40' : ¬ (40 : Int) < l.length := by omega
    simp (disch := omega) [go_sem, h40']
    refine gu_l0 (l := l) (by omega) (by simp (disch := omega) [go_sem]) (by simp (disch := omega) [go_sem]) (by simp (disch := omega) [go_sem]) (by simp (disch := omega) [go_sem]) ?_ (fun s h => by simp (disch := omega) [go_sem, h])
    intro hr s h0 h3 h4
    have hmap : (l.map ndOf).map (·.ins) = l := by rw [List.map_map]; exact List.map_id'' (fun _ => rfl) l
    have htot : tot l < 2 ^ 40 := by
      have : ∀ l : List (List Int), (∀ r ∈ l, r.length ≤ 10) → tot l ≤ 10 * l.length := by
        intro l
        induction l with
        | nil => intro _; simp [tot]
        | cons r l ih =>
          intro h
          have h1 := h r (by simp)
          have h2 := ih fun x hx => h x (by simp [hx])
          simp only [tot, List.map_cons, List.sum_cons, List.length_cons] at h2 ⊢
          omega
      have := this l hr
      omega
    have hU := uses26 (G := G) (l.map ndOf) 0 (by simp; omega) (by rw [hmap]; exact htot)
    rw [hmap] at hU
    simp only [List.length_map] at hU
    obtain ⟨u, hu⟩ : ∃ u, u = uAll l 0 (List.replicate l.length []) := ⟨_, rfl⟩
    rw [← hu] at hU
    obtain ⟨u1, u2, u3, u4⟩ := uses_law hu
    simp (disch := omega) [go_sem, h0, h3, h4]
    refine cal_pure hU rfl (by simp only [noImm]; exact noImmL_map fun x => by simp only [noImm]; exact noImmL_li x) ?_
    simp (disch := omega) [go_sem, h0, h3, h4, u1]
    refine gu_l4 (l := l) (u := u) (by omega) hr u1 (fun r hr => by have := u2 r hr; omega) u3 u4 (by simp (disch := omega) [go_sem, h0]) (by simp (disch := omega) [go_sem, h3]) (by simp (disch := omega) [go_sem, u1]) (by simp (disch := omega) [go_sem]) ?_
    intro s
    simp (disch := omega) [go_sem]
end Go.Ideal.Tryd
end
