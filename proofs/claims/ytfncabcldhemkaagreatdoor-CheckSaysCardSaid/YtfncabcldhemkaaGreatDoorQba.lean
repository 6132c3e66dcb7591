/- Part Qba of the proof: a machine with trees for values, its soundness, and walks on it. -/
import Derived.Test.YtfncabcldhemkaaGreatDoorQak
import Derived.Test.YtfncabcldhemkaaGreatDoorQan
set_option linter.unusedVariables false
set_option linter.unusedSimpArgs false
set_option maxRecDepth 200000
section
namespace Go.Ideal.Tryz
attribute [local go_sem] eD eT eV eI eP
section
variable {G : GG} {bk : Nat -> Nat × Nat} {Q : Exit -> St -> Prop} {st : St}
abbrev dsO (l : List Ds) : AV := .own 2 l.length (fm eD l)
theorem d4a {p : Pl} {i : In} (hn : i.ins.length < 2 ^ 30) (hv : p.views.length < 2 ^ 40) (hk : ∀ k ∈ i.ins, 0 <= k /\ k < (p.views.length : Int))
  (h : st.s 2 = .var (eP p) /\ st.s 5 = .own 2 0 [] /\ st.s 9 = slI i.ins /\ st.s 10 = li i.ins.length /\ st.s 11 = li 0)
  (hex : ∀ s, s.s 5 = dsO (a83 p i) -> Q (.exit 0) s) : AW pg G 26 (.loop a53) Q st := by
 refine a08 (Nat × List Ds) (fun q st => q.1 <= i.ins.length /\ q.2.length = q.1 /\ q.2 ++ (i.ins.drop q.1).map (fun k => (p.views[k.toNat]!).ds) = a83 p i /\ st.s 2 = .var (eP p) /\ st.s 5 = dsO q.2 /\ st.s 9 = slI i.ins /\ st.s 10 = li i.ins.length /\ st.s 11 = li q.1) (fun q => i.ins.length - q.1) (0, []) ⟨by simp, rfl, rfl, h⟩ ?_
 clear h
 rintro ⟨n, l⟩ st K ⟨hi, hlen, hm, h⟩ hK
 simp only at hi hlen hm h
 by_cases hlt : n < i.ins.length
 ·rw [List.drop_eq_getElem_cons hlt, List.map_cons, List.append_cons] at hm
  obtain ⟨k1, k2⟩ := hk _ (List.getElem_mem hlt)
  obtain ⟨m, hkm⟩ := Int.eq_ofNat_of_zero_le k1
  rw [hkm] at hm k2
  have hm2 : m < p.views.length := by omega
  simp (disch := omega) [go_sem, a53, h, hlt, hkm, hm2]
  refine hK (n + 1, l ++ [(p.views[m]).ds]) _ ⟨by simp only; omega, by simp [hlen], by simpa [hm2] using hm, by simp (disch := omega) [go_sem, h, b95, Vw.ds, hlen, fm]⟩ (by simp only; omega)
 ·obtain rfl : n = i.ins.length := by omega
  rw [List.drop_length, List.map_nil, List.append_nil] at hm
  subst hm
  simp (disch := omega) [go_sem, a53, h]
  exact hex _ (by simp (disch := omega) [go_sem, h])
theorem d71 (p : Pl) (i : In) (hn : i.ins.length < 2 ^ 30) (hv : p.views.length < 2 ^ 40) (hk : ∀ k ∈ i.ins, 0 <= k /\ k < (p.views.length : Int)) : ACalls pg G c0w [.agg (eP p), .agg (eI i)] (dsO (a83 p i)) := by
 refine b7d rfl ?_
 simp (disch := omega) [go_sem, b4g]
 refine d4a (p := p) (i := i) hn hv hk (by simp (disch := omega) [go_sem]) (fun s h => ?_)
 simp (disch := omega) [go_sem, h]
end
end Go.Ideal.Tryz
end
