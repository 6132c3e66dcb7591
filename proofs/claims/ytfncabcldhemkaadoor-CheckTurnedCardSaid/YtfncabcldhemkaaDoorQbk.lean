/- Part Qbk of the proof: a machine with trees for values, its soundness, and walks on it. -/
import Derived.Test.YtfncabcldhemkaaDoorQbj
import Derived.Test.YtfncabcldhemkaaDoorQbe
import Derived.Test.YtfncabcldhemkaaDoorQaj
import Derived.Test.YtfncabcldhemkaaDoorQbg
import Derived.Test.YtfncabcldhemkaaDoorQaq
import Derived.Test.YtfncabcldhemkaaDoorQag
section
set_option linter.unusedVariables false
set_option linter.unusedSimpArgs false
set_option maxRecDepth 100000
namespace Go.Ideal.Tryd
open Go.RowKit Go.Extern.Stop Go.Stop Go.Extern Go.Proofs
abbrev hnd : Value := .iface 170 (.agg #[.pointer (some ⟨22, 45, none⟩)])
theorem d8i {w : World} {a : Addr} {v : Value} (h : w.cell? a = some v) : a.block < w.heap.size := by
  rcases Nat.lt_or_ge a.block w.heap.size with h1 | h1
  · exact h1
  · simp [World.cell?, Array.getElem?_eq_none h1] at h
theorem a1h {w : World} {o : Obj} : (w.alloc o).heap.size = w.heap.size + 1 := Array.size_push _
set_option maxHeartbeats 4000000 in
theorem d75 (k : Int) (a : Addr) (w : World) (hg : w.cell? ⟨8, 0, none⟩ = some hnd) :
    Calls Go.Proofs.Tryd.prog 39 #[.int .i64 k, .iface 186 (.pointer (some a))] w fun ev w' => ∃ b o1 o2 o3 t, w' = ((((w.alloc (.cells #[.pointer none] 110)).alloc o1).alloc o2).alloc o3).alloc (.cells #[.int .i64 k, .iface 186 (.pointer (some a))] t) ∧ b = w.heap.size + 1 + 1 + 1 + 1 ∧ ev = .returned (.iface 110 (.pointer (some ⟨b, 0, none⟩))) := by
  have hlt : 8 < w.heap.size := d8i hg
  have hgA : (w.alloc (.cells #[.pointer none] 110)).cell? ⟨8, 0, none⟩ = some hnd := by
    rw [World.cell?_alloc_lt _ _ ⟨8, 0, none⟩ hlt]; exact hg
  have htA : (w.alloc (.cells #[.pointer none] 110)).cell? ⟨w.heap.size, 0, none⟩ = some (.pointer none) := by simp
  have hfA : (w.alloc (.cells #[.pointer none] 110)).frozen? ⟨w.heap.size, 0, none⟩ = false := by simp
  go_enter Go.Proofs.Tryd.func39, Go.Proofs.Tryd.ntmps39
  go_wp2_with (go_at_call 61; refine (e1p _ _ (.pointer none) _ hgA htA hfA).mono ?_; rintro e w' ⟨rfl, rfl⟩)
  go_ret
  exact ⟨_, _, _, _, _, rfl, rfl, rfl⟩
set_option maxHeartbeats 4000000 in
theorem e13 (k : Int) (eb eo : Nat) (xa : Addr) (w : World) (hg : w.cell? ⟨8, 0, none⟩ = some hnd) (he : w.cell? ⟨eb, eo + 1, none⟩ = some (.iface 186 (.pointer (some xa)))) :
    Calls Go.Proofs.Tryd.prog 39 #[.int .i64 k, .iface 110 (.pointer (some ⟨eb, eo, none⟩))] w fun ev w' => ∃ b o0 o1 o2 o3 o4 t, w' = (((((w.alloc o0).alloc o1).alloc o2).alloc o3).alloc o4).alloc (.cells #[.int .i64 k, .iface 186 (.pointer (some xa))] t) ∧ b = w.heap.size + 1 + 1 + 1 + 1 + 1 ∧ ev = .returned (.iface 110 (.pointer (some ⟨b, 0, none⟩))) := by
  have hlt : 8 < w.heap.size := d8i hg
  have hle : eb < w.heap.size := d8i he
  have hgA : (w.alloc (.cells #[.pointer none] 110)).cell? ⟨8, 0, none⟩ = some hnd := by
    rw [World.cell?_alloc_lt _ _ ⟨8, 0, none⟩ hlt]; exact hg
  have htA : (w.alloc (.cells #[.pointer none] 110)).cell? ⟨w.heap.size, 0, none⟩ = some (.pointer none) := by simp
  have hfA : (w.alloc (.cells #[.pointer none] 110)).frozen? ⟨w.heap.size, 0, none⟩ = false := by simp
  have hx : ∀ o0 o1 o2 o3 o4, (((((w.alloc o0).alloc o1).alloc o2).alloc o3).alloc o4).cell? ⟨eb, eo + 1, none⟩ = some (.iface 186 (.pointer (some xa))) := fun o0 o1 o2 o3 o4 => by
    rw [World.cell?_alloc_lt _ _ ⟨eb, eo + 1, none⟩ (by simp only [a1h]; omega), World.cell?_alloc_lt _ _ ⟨eb, eo + 1, none⟩ (by simp only [a1h]; omega), World.cell?_alloc_lt _ _ ⟨eb, eo + 1, none⟩ (by simp only [a1h]; omega), World.cell?_alloc_lt _ _ ⟨eb, eo + 1, none⟩ (by simp only [a1h]; omega), World.cell?_alloc_lt _ _ ⟨eb, eo + 1, none⟩ hle]; exact he
  go_enter Go.Proofs.Tryd.func39, Go.Proofs.Tryd.ntmps39
  go_wp2_with (go_at_call 61; refine (e3k _ _ (.pointer none) _ hgA htA hfA).mono ?_; rintro e w' ⟨rfl, rfl⟩)
  go_ret
  exact ⟨_, _, _, _, _, _, _, rfl, rfl, rfl⟩
theorem a2h {w : World} {o : Obj} {b : Nat} (h : b < w.heap.size) : (w.alloc o).heap[b]? = w.heap[b]? := by
  show (w.heap.push o)[b]? = _
  rw [Array.getElem?_push, if_neg (Nat.ne_of_lt h)]
theorem c95 {G : GG} {bk : Nat → Nat × Nat} {w w' W : World} {A Fa : BS} {k : Int} {g t : Nat} (hw : w' = W.alloc (.cells #[.int .i64 k, .iface e4x (.pointer (some ⟨(bk g).1, (bk g).2, none⟩))] t)) (h1 : w.heap.size ≤ W.heap.size) (h2 : W.os = w.os) (h3 : W.tape = w.tape) (h4 : W.output = w.output) (h5 : ∀ b, b < w.heap.size → W.heap[b]? = w.heap[b]?) :
    Ret w A Fa w' (a0m bk (.at k (.s g))) (.iface h5k (.pointer (some ⟨W.heap.size, 0, none⟩))) := by
  subst hw
  refine ⟨by rw [a1h]; omega, h2, h3, h4, fun b hb _ => by rw [a2h (by omega)]; exact h5 b hb, noB, fun _ h => h.elim, ?_⟩
  simp only [a0m, R]
  refine ⟨_, rfl, W.heap.size, 0, [.int .i64 k, .iface e4x (.pointer (some ⟨(bk g).1, (bk g).2, none⟩))], rfl, ⟨by rw [a1h]; omega, fun h => h, .inr (.inr h1)⟩, fun u hu => ?_, ?_, fun i u hu => ?_⟩
  · simp at hu
    rcases hu with rfl | rfl <;> rfl
  · simp only [RL, R]
    exact ⟨_, _, rfl, noB, noB, fun _ h => h, fun _ h => h, fun _ h => h.elim, rfl, _, _, rfl, noB, noB, fun _ h => h, fun _ h => h, fun _ h => h.elim, rfl, rfl⟩
  · rw [Nat.zero_add]
    have e : ∀ j, (W.alloc (.cells #[.int .i64 k, .iface e4x (.pointer (some ⟨(bk g).1, (bk g).2, none⟩))] t)).cell? ⟨W.heap.size, j, none⟩ = #[.int .i64 k, .iface e4x (.pointer (some ⟨(bk g).1, (bk g).2, none⟩))][j]? := fun j => by
      have : (W.alloc (.cells #[.int .i64 k, .iface e4x (.pointer (some ⟨(bk g).1, (bk g).2, none⟩))] t)).heap[W.heap.size]? = some (.cells #[.int .i64 k, .iface e4x (.pointer (some ⟨(bk g).1, (bk g).2, none⟩))] t) := by
        show (W.heap.push _)[W.heap.size]? = _
        rw [Array.getElem?_push, if_pos rfl]
      simp only [World.cell?, this, Option.isSome_none, Bool.false_eq_true, if_false]
    rw [e]
    rcases i with _ | _ | i
    · exact hu
    · exact hu
    · simp at hu
theorem b5d {G : GG} {bk : Nat → Nat × Nat} (hh : G.hs = [(8, hnd)]) : Around G bk := by
  have key : ∀ {w : World}, (∀ g v, G.at g v → GC G w g v ∧ g < w.heap.size) → w.cell? ⟨8, 0, none⟩ = some hnd := fun h => by
    obtain ⟨⟨c, t, fz, h1, h2, _⟩, _⟩ := h 8 hnd (.inr (by rw [hh]; simp))
    simpa [World.cell?, h1] using h2
  constructor
  · intro k g hg w args A ow hsz hA how hG hpre
    obtain ⟨l⟩ := args
    match l, hsz with
    | [x, y], _ =>
      have h0 := hpre 0 _ rfl
      have h1 := hpre 1 _ rfl
      rw [show (Array.mk [x, y]).getD 0 undef = x from rfl] at h0
      rw [show (Array.mk [x, y]).getD 1 undef = y from rfl] at h1
      simp only [a0m, R] at h0 h1
      subst h0 h1
      refine (d75 k _ w (key fun g v h => ⟨(hG g v h).1, (hG g v h).2.1⟩)).mono ?_
      rintro e w' ⟨b, o1, o2, o3, t, hw, rfl, rfl⟩
      refine ⟨_, rfl, ?_⟩
      have := c95 (G := G) (bk := bk) (w := w) (A := A) (Fa := fun b => ow b ≠ none) (k := k) (g := g) hw (by simp only [a1h]; omega) rfl rfl rfl (fun b hb => by
        rw [a2h (by simp only [a1h]; omega), a2h (by simp only [a1h]; omega), a2h (by simp only [a1h]; omega), a2h (by omega)])
      simpa only [a1h] using this
  · intro k q g hg w args A ow hsz hA how hG hpre
    obtain ⟨l⟩ := args
    match l, hsz with
    | [x, y], _ =>
      have h0 := hpre 0 _ rfl
      have h1 := hpre 1 _ rfl
      rw [show (Array.mk [x, y]).getD 0 undef = x from rfl] at h0
      rw [show (Array.mk [x, y]).getD 1 undef = y from rfl] at h1
      simp only [a0m, R, RL] at h0 h1
      obtain ⟨u, rfl, b, o, vs, rfl, hb, hc, ⟨v1, vs1, rfl, _, _, _, _, _, rfl, v2, vs2, rfl, _, _, _, _, _, rfl, rfl⟩, hcell⟩ := h1
      subst h0
      refine (e13 k b (o + 0) _ w (key fun g v h => ⟨(hG g v h).1, (hG g v h).2.1⟩) (hcell 1 _ rfl)).mono ?_
      rintro e w' ⟨b', o0, o1, o2, o3, o4, t, hw, rfl, rfl⟩
      refine ⟨_, rfl, ?_⟩
      have := c95 (G := G) (bk := bk) (w := w) (A := A) (Fa := fun b => ow b ≠ none) (k := k) (g := g) hw (by simp only [a1h]; omega) rfl rfl rfl (fun b hb => by
        rw [a2h (by simp only [a1h]; omega), a2h (by simp only [a1h]; omega), a2h (by simp only [a1h]; omega), a2h (by simp only [a1h]; omega), a2h (by omega)])
      simpa only [a1h] using this
end Go.Ideal.Tryd
end
section
set_option linter.unusedVariables false
set_option linter.unusedSimpArgs false
set_option maxRecDepth 200000
namespace Go.Ideal.Tryd
theorem e4v {p : Pl} {i : In} (h : (c0k p i).isNil = true) : i.args.length = b6v i.op ∧ i.ins.length = f50 i.op ∧ (i.op ≠ 24 → 0 ≤ i.args[0]! ∧ i.args[0]! ≤ (p.code.length : Int)) := by
  unfold c0k at h
  split at h
  · rename_i h1
    split at h
    · cases h
    · rename_i h2
      refine ⟨h1.1, h1.2, fun hn => ?_⟩
      have : 0 < b6v i.op := by simp [b6v, hn]
      simp only [this, true_and] at h2
      omega
  · cases h
theorem e3s {p : Pl} {i : In} (h : (a8m p i).2.isNil = true) : ∀ k ∈ i.ins, a3j (c9o p i) (p.views[k.toNat]!) = true := by
  unfold a8m at h
  split at h
  · split at h
    · split at h
      · split at h
        · rename_i h4
          intro k hk
          exact List.all_eq_true.1 h4 k hk
        · cases h
      · cases h
    · rename_i h2; exact absurd h h2
  · split at h
    · rename_i h2
      intro k hk
      rw [List.eq_nil_of_length_eq_zero h2.2] at hk
      cases hk
    · cases h
theorem e0i {p : Pl} {i : In} (h : (a1i p i).2.isNil = true) : (1 ≤ (a1i p i).1 ∧ (a1i p i).1 ≤ 1024) ∧ (i.ins.all (a1x p)) = true ∧
    ((i.op = 22 ∨ i.op = 23) → i.args.length = 1 ∧ 0 ≤ i.args[0]! ∧ i.args[0]! ≤ (p.code.length : Int)) ∧
    (i.op ≠ 22 → i.op ≠ 23 → i.ins ≠ [] → a1x p i.dst = true ∧ ∀ k ∈ i.ins, a3j (c9o p i) (p.views[k.toNat]!) = true) := by
  unfold a1i at h ⊢
  split at h
  · cases h
  rename_i c1
  split at h
  · cases h
  rename_i c2
  split at h
  · cases h
  rename_i c3
  rw [if_neg c1, if_neg c2, if_neg c3]
  have c3' : i.ins.all (a1x p) = true := by simpa using c3
  split at h
  · rename_i c4
    rw [if_pos c4]
    split at h
    · rename_i c5
      rw [if_pos c5]
      split at h
      · rename_i c6
        rw [if_pos c6]
        obtain ⟨j1, j2, j3⟩ := e4v c5
        refine ⟨by simp, c3', fun ho => ⟨?_, j3 (by omega)⟩, fun h2 h3 hn => absurd ?_ hn⟩
        · rw [j1, b6v, if_neg (by omega)]
        · refine List.eq_nil_of_length_eq_zero ?_
          rw [j2, f50, if_neg h3]
      · cases h
    · rename_i c5; exact absurd h c5
  · rename_i c4
    rw [if_neg c4]
    have c4' : b84 i = true := by simpa using c4
    split at h
    · rename_i c5
      rw [if_pos c5]
      unfold e6p at h ⊢
      split at h
      · rename_i c6
        rw [if_pos c6]
        split at h
        · rename_i c7
          rw [if_pos c7]
          refine ⟨⟨Int.le_max_right _ _, c7⟩, c3', fun ho => ?_, fun _ _ _ => ⟨?_, e3s c5⟩⟩
          · exfalso
            simp [b84, a2b] at c4'
            omega
          · have := c2
            simp only [c4', true_and] at this
            simpa using this
        · cases h
      · cases h
    · rename_i c5; exact absurd h c5
theorem f1n {p : Pl} (h : b87 p = true) : PlL p ∧ ∀ i ∈ p.code, InB p i := by
  simp only [b87, d55, Bool.and_eq_true, decide_eq_true_eq, List.all_eq_true] at h
  obtain ⟨⟨⟨⟨⟨⟨h1, h2⟩, h3⟩, h4, h5⟩, h6⟩, h7⟩, h8⟩ := h
  refine ⟨⟨by omega, by omega, by omega, by omega, fun v hv => ?_, fun v hv => ?_, fun v hv => ?_⟩, fun i hi => ?_⟩
  · have := h6 v hv; simp [b17] at this; omega
  · have := h5 v hv; simp [b8j] at this; omega
  · have := h7 v hv; simp [b1t] at this; omega
  · have := h8 i hi; simp [a52] at this; exact ⟨by omega, by omega⟩
end Go.Ideal.Tryd
end
section
set_option linter.unusedVariables false
set_option linter.unusedSimpArgs false
set_option maxRecDepth 200000
namespace Go.Ideal.Tryd
attribute [local go_sem] eD eT eV eI eP
section
variable {G : GG} {bk : Nat → Nat × Nat} {Q : Exit → St → Prop} {st : St}
theorem ix1 {l : List Int} (h : l.length = 1) : ∃ a, l = [a] := by
  match l, h with
  | [a], _ => exact ⟨a, rfl⟩
set_option maxHeartbeats 8000000 in
theorem h22 {p : Pl} (hp : PlB p) (hz : 0 ≤ p.size ∧ p.size ≤ 65536) (hv : ∀ v ∈ p.views, 0 ≤ v.off ∧ v.off + a05 v.shape v.wide ≤ p.size)
    (h : st.s 1 = .var (eP p) ∧ st.s 3 = lb true ∧ st.s 4 = li 0)
    (hex : ∀ s, s.s 1 = .var (eP p) → Q (.exit 0) s) : AW pg G 156 (.loop a1r) Q st := by
  have hlv := hp.views
  refine a1g Nat (fun j st => j ≤ p.views.length ∧ st.s 1 = .var (eP p) ∧ st.s 3 = lb true ∧ st.s 4 = li j) (fun j => p.views.length - j) 0 ⟨by omega, h⟩ ?_
  clear h
  rintro j st K ⟨hj, h⟩ hK
  by_cases hlt : j < p.views.length
  · have hb := hp.v _ (List.getElem_mem hlt)
    have hv1 := hv _ (List.getElem_mem hlt)
    have rb := a9x p.views[j].shape p.views[j].wide
    have c1 : ¬ p.views[j].off < 0 := by omega
    have c2 : ¬ p.size < p.views[j].off + a05 p.views[j].shape p.views[j].wide := by omega
    simp (disch := omega) [go_sem, a1r, h, hlt]
    refine a0b ?_
    simp (disch := omega) [go_sem, h, c1, c2]
    refine a0p (a9u p.views[j].shape p.views[j].wide (by omega)) rfl rfl (by simp (disch := omega) [go_sem, a0k, a19]) [50] (by simp) (by simp (disch := omega) [go_sem, h, c1]) ?_
    simp (disch := omega) [go_sem, h, c1, c2, a0k, a19]
    refine a0c (by decide) fun s2 hs2 he2 => ?_
    simp (disch := omega) [go_sem, hs2, h, c1, c2]
    exact hK (j + 1) _ ⟨by omega, by simp (disch := omega) [go_sem, hs2, h]⟩ (by omega)
  · obtain rfl : j = p.views.length := by omega
    simp (disch := omega) [go_sem, a1r, h]
    exact hex _ (by simp (disch := omega) [go_sem, h])
set_option maxHeartbeats 8000000 in
theorem h2f (hS : Sent G bk) {p : Pl} (hp : PlB p) {i : In} {k : Nat} {u : Int} (hi : InB p i) (hins : ∀ k ∈ i.ins, a1x p k = true) (hd : i.ins ≠ [] → a1x p i.dst = true ∧ ∀ k ∈ i.ins, a3j (c9o p i) (p.views[k.toNat]!) = true)
    (h : st.s 1 = .var (eP p) ∧ st.s 6 = li u ∧ st.s 7 = li k ∧ st.s 8 = .var (eI i) ∧ st.s 11 = li 0)
    (hex : ∀ s, s.s 1 = .var (eP p) ∧ s.s 6 = li u ∧ s.s 7 = li k → Q (.exit 4) s) : AW pg G 156 (.loop a1s) Q st := by
  have hlv := hp.views
  have hli := hi.ins
  refine a1g Nat (fun j st => j ≤ i.ins.length ∧ st.s 1 = .var (eP p) ∧ st.s 6 = li u ∧ st.s 7 = li k ∧ st.s 8 = .var (eI i) ∧ st.s 11 = li j) (fun j => i.ins.length - j) 0 ⟨by omega, h⟩ ?_
  clear h
  rintro j st K ⟨hj, h⟩ hK
  by_cases hlt : j < i.ins.length
  · obtain ⟨n, hn, hnl⟩ := b3t (hins _ (List.getElem_mem hlt))
    obtain ⟨hd1, hd2⟩ := hd (by intro e; rw [e] at hlt; simp at hlt)
    obtain ⟨m, hm, hml⟩ := b3t hd1
    have hv := hp.v _ (List.getElem_mem hml)
    have hv2 := hp.v _ (List.getElem_mem hnl)
    have hap := hd2 _ (List.getElem_mem hlt)
    have hdv : c9o p i = p.views[m] := by simp [c9o, hm, hml]
    rw [hn, show p.views[((n : Int)).toNat]! = p.views[n] by simp [hnl], hdv] at hap
    simp (disch := omega) [go_sem, a1s, h, hlt, hn, hm]
    refine a0b ?_
    simp (disch := omega) [go_sem, h, hn, hm, hnl, hml]
    refine a0p (c0f hS.five.three p.views[m] p.views[n] (by omega) (by omega) hv.2 hv2.2) rfl rfl (by simp (disch := omega) [go_sem, a0k, a19]) [132] (by simp) (by simp (disch := omega) [go_sem, h]) ?_
    simp (disch := omega) [go_sem, h, a0k, a19, hap]
    refine a0c (by decide) fun s2 hs2 he2 => ?_
    simp (disch := omega) [go_sem, hs2, h, hap]
    exact hK (j + 1) _ ⟨by omega, by simp (disch := omega) [go_sem, hs2, h]⟩ (by omega)
  · obtain rfl : j = i.ins.length := by omega
    simp (disch := omega) [go_sem, a1s, h]
    exact hex _ (by simp (disch := omega) [go_sem, h])
set_option maxHeartbeats 8000000 in
theorem h1h (hS : Sent G bk) {p : Pl} (hp : PlB p) (hi : ∀ i ∈ p.code, InB p i) (hf : ∀ i ∈ p.code, (a1i p i).2.isNil = true)
    (h : st.s 1 = .var (eP p) ∧ st.s 6 = li 0 ∧ st.s 7 = li 0)
    (hex : ∀ s, s.s 1 = .var (eP p) ∧ s.s 6 = li (b27 p) → Q (.exit 2) s) : AW pg G 156 (.loop a1q) Q st := by
  have hlc := hp.code
  refine a1g (Nat × Int) (fun q st => q.1 ≤ p.code.length ∧ (0 ≤ q.2 ∧ q.2 ≤ q.1 * 1024) ∧ b27 p = q.2 + ((p.code.drop q.1).map fun i => (a1i p i).1).sum ∧ st.s 1 = .var (eP p) ∧ st.s 6 = li q.2 ∧ st.s 7 = li q.1) (fun q => p.code.length - q.1) (0, 0) ⟨by simp, by simp, by simp [b27], h⟩ ?_
  clear h
  rintro ⟨j, u⟩ st K ⟨hj, hu, hm, h⟩ hK
  simp only at hj hu hm h
  by_cases hlt : j < p.code.length
  · rw [List.drop_eq_getElem_cons hlt, List.map_cons, List.sum_cons] at hm
    have hib := hi _ (List.getElem_mem hlt)
    obtain ⟨hc, hins, hjmp, hdat⟩ := e0i (hf _ (List.getElem_mem hlt))
    have hC := d9f hS hp hi j hlt
    have hn := b1z.1 (hf _ (List.getElem_mem hlt))
    obtain ⟨c, e, hr⟩ : ∃ c e, a1i p p.code[j] = (c, e) := ⟨_, _, rfl⟩
    rw [hr] at hC hm hc hn
    simp only at hn hm hc
    subst hn
    have hli := hib.ins
    have hla := hib.args
    have d1 : ¬ c < 1 := by omega
    have d2 : ¬ 1024 < c := by omega
    have next : ∀ s, s.s 1 = .var (eP p) ∧ s.s 6 = li (u + c) ∧ s.s 7 = li ((j : Int) + 1) → K s := fun s h => hK (j + 1, u + c) _ ⟨by simp only; omega, by simp only; omega, by simp only; omega, by simpa using h⟩ (by simp only; omega)
    simp (disch := omega) [go_sem, a1q, h, hlt]
    refine a0f hC (by simp [go_sem, a0r]) (by simp (disch := omega) [go_sem, h]) ?_
    by_cases o1 : p.code[j].op = 22 ∨ p.code[j].op = 23
    · obtain ⟨ha, hb1, hb2⟩ := hjmp o1
      obtain ⟨a, hae⟩ := ix1 ha
      rw [hae] at hb1 hb2
      simp only [List.getElem!_cons_zero] at hb1 hb2
      have e1 : ¬ a < 0 := by omega
      have e2 : ¬ (p.code.length : Int) < a := by omega
      have go : (decide (p.code[j].op = 22) || decide (p.code[j].op = 23)) = true := by simpa using o1
      by_cases o2 : p.code[j].op = 22
      · simp (disch := omega) [go_sem, h, a0m, d1, d2, o2]
        refine a0b ?_
        simp (disch := omega) [go_sem, h, hae, e1, e2]
        refine a0c (by decide) fun s2 hs2 he2 => ?_
        simp (disch := omega) [go_sem, hs2, h]
        exact next _ (by simp (disch := omega) [go_sem, hs2, h])
      · have o3 : p.code[j].op = 23 := by omega
        simp (disch := omega) [go_sem, h, a0m, d1, d2, o3]
        refine a0b ?_
        simp (disch := omega) [go_sem, h, hae, e1, e2]
        refine a0c (by decide) fun s2 hs2 he2 => ?_
        simp (disch := omega) [go_sem, hs2, h]
        exact next _ (by simp (disch := omega) [go_sem, hs2, h])
    · have o2 : ¬ p.code[j].op = 22 := by omega
      have o3 : ¬ p.code[j].op = 23 := by omega
      simp (disch := omega) [go_sem, h, a0m, d1, d2, o2, o3]
      refine h2f (i := p.code[j]) (k := j) (u := u + c) hS hp hib (List.all_eq_true.1 hins) (hdat o2 o3) (by simp (disch := omega) [go_sem, h]) (fun s hs => ?_)
      simp (disch := omega) [go_sem, hs]
      exact next _ (by simp (disch := omega) [go_sem, hs])
  · obtain rfl : j = p.code.length := by omega
    rw [List.drop_length, List.map_nil, List.sum_nil, Int.add_zero] at hm
    simp (disch := omega) [go_sem, a1q, h]
    exact hex _ (by simp (disch := omega) [go_sem, h, hm])
set_option maxHeartbeats 8000000 in
theorem d5t (hS : Sent G bk) (hA : Around G bk) (p : Pl) (hf : p.fin) : ACalls pg G a93 [.agg (eP p)] (lb true) := by
  refine a51 rfl ?_
  simp (disch := omega) [go_sem, a34]
  refine a0d (d06 hS hA) rfl rfl ?_
  simp (disch := omega) [go_sem]
  refine a0d (f2b p hf) rfl rfl ?_
  cases hw : b87 p
  · simp (disch := omega) [go_sem]
  · obtain ⟨hl, hi⟩ := f1n hw
    have hV := a22 hS hA hl hi
    have hT := d9g hS hA hl hi
    simp (disch := omega) [go_sem]
    refine a0f hV (a0h _) (by simp (disch := omega) [go_sem]) ?_
    cases he : (a5n p).isNil
    · simp (disch := omega) [go_sem, he]
    · have hn := b1z.1 he
      obtain ⟨hP, hC⟩ := d67 he
      obtain ⟨f1, f2, f3, f4⟩ := c9p hP
      have hp := hl.b hP
      rw [he, if_pos rfl, hn] at hT
      simp (disch := omega) [go_sem, he]
      refine h22 hp f3 (fun v hv => ⟨(f4 v hv).1, (f4 v hv).2.1⟩) (by simp (disch := omega) [go_sem]) (fun s h => ?_)
      simp (disch := omega) [go_sem, h]
      refine h1h hS hp hi (b61 hC) (by simp (disch := omega) [go_sem, h]) (fun s h => ?_)
      simp (disch := omega) [go_sem, h]
      refine a0f hT (by simp [go_sem, a0r]) (by simp (disch := omega) [go_sem, h]) ?_
      simp (disch := omega) [go_sem, h, a0m]
end
end Go.Ideal.Tryd
end
section
set_option linter.unusedVariables false
set_option linter.unusedSimpArgs false
set_option maxRecDepth 200000
namespace Go.Ideal.Tryd
def cpI (f t : Int) : In := ⟨12, 2, [0, 1], [0, 0], f, t⟩
def cpP (m k f t : Int) : Pl := ⟨20000, [⟨0, [m, k], false⟩, ⟨5000, [k, 1], false⟩, ⟨8000, [m, 1], true⟩], [], [], [cpI f t], 0, 0⟩
theorem sh2 {a b : Int} (h : 1 ≤ a ∧ a ≤ 60) (h2 : 1 ≤ b ∧ b ≤ 60) : a03 [a, b] = .nil ∧ a23 [a, b] = a * b ∧ 1 ≤ a * b ∧ a * b ≤ 3600 := by
  have h3 : a * b ≤ 60 * 60 := Int.mul_le_mul h.2 h2.2 (by omega) (by omega)
  have h4 : 1 * 1 ≤ a * b := Int.mul_le_mul h.1 h2.1 (by omega) (by omega)
  have e : c9w [a, b] = true := by simp [c9w, a26, a3t]; omega
  refine ⟨b0c.2 e, ?_, by omega, by omega⟩
  simp [a23, e, a3t]
theorem e9f {m k f t : Int} (hm : 1 ≤ m ∧ m ≤ 60) (hk : 1 ≤ k ∧ k ≤ 60) : a8m (cpP m k f t) (cpI f t) = (k, .nil) := by
  obtain ⟨a1, a2, a3, a4⟩ := sh2 hm hk
  obtain ⟨b1, b2, b3, b4⟩ := sh2 hk (b := 1) (by omega)
  obtain ⟨c1, c2, c3, c4⟩ := sh2 hm (b := 1) (by omega)
  have hap : (([0, 1] : List Int).all fun j => a3j ⟨8000, [m, 1], true⟩ ((cpP m k f t).views[j.toNat]!)) = true := by
    simp [cpP, a3j, a05, a2, b2, c2]; omega
  have hr : opR 12 [0, 0] [⟨[m, k], false⟩, ⟨[k, 1], false⟩] = (⟨[m, 1], true⟩, .nil) := by
    simp [opR, a2b, a24, a2i, d9t, chk, a1, b1, c1, b9s, a2r, Er.isNil]
  have hi : d4j (cpP m k f t) (cpI f t) = [⟨[m, k], false⟩, ⟨[k, 1], false⟩] := by simp [d4j, cpP, cpI, Vw.ds]
  have hd : c9o (cpP m k f t) (cpI f t) = ⟨8000, [m, 1], true⟩ := by simp [c9o, cpP, cpI]
  have hr' : opR (cpI f t).op (cpI f t).args (d4j (cpP m k f t) (cpI f t)) = (⟨[m, 1], true⟩, .nil) := by rw [hi]; exact hr
  have hu : opU (cpI f t).op (cpI f t).args (d4j (cpP m k f t) (cpI f t)) = k := by rw [hi]; rfl
  unfold a8m
  rw [if_pos (show a2b (cpI f t).op = true from rfl), hr', if_pos (by rfl), hd, if_pos (by rfl), if_pos (by exact hap), hu]
theorem d0f {m k f t : Int} (hm : 1 ≤ m ∧ m ≤ 60) (hk : 1 ≤ k ∧ k ≤ 60) (hf : 0 ≤ f ∧ f ≤ t ∧ t ≤ m) :
    a1i (cpP m k f t) (cpI f t) = if max ((t - f) * k) 1 ≤ 1024 then (max ((t - f) * k) 1, .nil) else (0, .s 9) := by
  obtain ⟨c1, c2, c3, c4⟩ := sh2 hm (b := 1) (by omega)
  have hv : a1x (cpP m k f t) 2 = true := by simp [a1x, cpP]
  have hi : (([0, 1] : List Int).all (a1x (cpP m k f t))) = true := by simp [a1x, cpP]
  have hd : c9o (cpP m k f t) (cpI f t) = ⟨8000, [m, 1], true⟩ := by simp [c9o, cpP, cpI]
  unfold a1i
  rw [e9f hm hk]
  have d : b84 (cpI f t) = true := by simp [b84, cpI, a2b]
  rw [d, if_neg (by simp), if_neg (by simp [cpI, hv]), if_neg (by simp only [cpI]; rw [hi]; simp), if_neg (by simp), if_pos (by rfl)]
  show (if 0 ≤ f ∧ f ≤ t ∧ t ≤ a23 (c9o (cpP m k f t) (cpI f t)).shape then (if max ((t - f) * k) 1 ≤ 1024 then (max ((t - f) * k) 1, Er.nil) else (0, .s 9)) else (0, .s 3)) = _
  rw [hd]
  exact if_pos (by simp only [c2]; omega)
theorem e73 {m k f t : Int} (hm : 1 ≤ m ∧ m ≤ 60) (hk : 1 ≤ k ∧ k ≤ 60) : a28 (cpP m k f t) = .nil := by
  obtain ⟨a1, a2, a3, a4⟩ := sh2 hm hk
  obtain ⟨b1, b2, b3, b4⟩ := sh2 hk (b := 1) (by omega)
  obtain ⟨c1, c2, c3, c4⟩ := sh2 hm (b := 1) (by omega)
  have v0 : b2m 20000 ⟨0, [m, k], false⟩ = .nil := by simp [b2m, a1, a2, a05, Er.isNil]; omega
  have v1 : b2m 20000 ⟨5000, [k, 1], false⟩ = .nil := by simp [b2m, b1, b2, a05, Er.isNil]; omega
  have v2 : b2m 20000 ⟨8000, [m, 1], true⟩ = .nil := by simp [b2m, c1, c2, a05, Er.isNil]; omega
  simp [a28, cpP, a1a, v0, v1, v2, orE, Er.isNil, a1x]
theorem e6w {m k f t : Int} (hm : 1 ≤ m ∧ m ≤ 60) (hk : 1 ≤ k ∧ k ≤ 60) (hf : 0 ≤ f ∧ f ≤ t ∧ t ≤ m) : a5n (cpP m k f t) = if max ((t - f) * k) 1 ≤ 1024 then .nil else .at 0 (.s 9) := by
  have h := d0f hm hk hf
  unfold a5n
  rw [e73 hm hk]
  have e : (cpP m k f t).code = [cpI f t] := rfl
  rw [e]
  by_cases c : max ((t - f) * k) 1 ≤ 1024
  · simp only [orE, Er.isNil, if_true, a1a, h, c]
  · simp only [orE, Er.isNil, if_true, a1a, h, c, if_false, Bool.false_eq_true, atE]
theorem e7q {m k f t : Int} (hm : 1 ≤ m ∧ m ≤ 60) (hk : 1 ≤ k ∧ k ≤ 60) (hf : 0 ≤ f ∧ f ≤ t ∧ t ≤ m) (h : max ((t - f) * k) 1 ≤ 1024) : b27 (cpP m k f t) = max ((t - f) * k) 1 := by
  have e : (cpP m k f t).code = [cpI f t] := rfl
  unfold b27
  rw [e]
  simp [d0f hm hk hf, h]
end Go.Ideal.Tryd
end
section
set_option linter.unusedVariables false
set_option linter.unusedSimpArgs false
set_option maxRecDepth 200000
namespace Go.Ideal.Tryd
attribute [local go_sem] eD eT eV eI eP
section
variable {G : GG} {bk : Nat → Nat × Nat} {Q : Exit → St → Prop} {st : St}
theorem h1s (m k f t : Int) : PlB (cpP m k f t) := ⟨by simp [cpP], by simp [cpP], by simp [cpP], by simp [cpP], by simp [cpP], by simp [cpP], by simp [cpP]⟩
theorem h2y (m k f t : Int) : ∀ i ∈ (cpP m k f t).code, InB (cpP m k f t) i := by
  intro i h
  simp only [cpP, List.mem_singleton] at h
  subst h
  exact ⟨by simp [cpI], by simp [cpI]⟩
set_option maxHeartbeats 8000000 in
theorem d7u (hS : Sent G bk) (hA : Around G bk) (m k from_ to : Int) : ACalls pg G b0n [li m, li k, li from_, li to] (lb true) := by
  have rm := a40 (n := m) (m := 60) (by decide)
  have rk := a40 (n := k) (m := 60) (by decide)
  refine a6h rfl ?_
  simp (disch := omega) [go_sem, a39]
  refine a0d (d06 hS hA) rfl rfl ?_
  simp (disch := omega) [go_sem]
  refine a0d (a4t m 60 (by decide) (by decide)) rfl rfl ?_
  simp (disch := omega) [go_sem]
  refine a0d (a4t k 60 (by decide) (by decide)) rfl rfl ?_
  simp (disch := omega) [go_sem, a95, a0l]
  have rM : 1 ≤ c91 m 60 + 1 ∧ c91 m 60 + 1 ≤ 60 := by omega
  have rK : 1 ≤ c91 k 60 + 1 ∧ c91 k 60 + 1 ≤ 60 := by omega
  clear rm rk
  generalize c91 m 60 + 1 = M at *
  generalize c91 k 60 + 1 = K at *
  have rf := a40 (n := from_) (m := M + 1) (by omega)
  refine a0d (a4t from_ (M + 1) (by omega) (by omega)) rfl rfl ?_
  simp (disch := omega) [go_sem, a95, a0l]
  generalize c91 from_ (M + 1) = F at *
  have rt := a40 (n := to) (m := M + 1 - F) (by omega)
  refine a0d (a4t to (M + 1 - F) (by omega) (by omega)) rfl rfl ?_
  simp (disch := omega) [go_sem, a95, a0l]
  generalize c91 to (M + 1 - F) = T0 at *
  have rT : F ≤ F + T0 ∧ F + T0 ≤ M := by omega
  have rF : 0 ≤ F := by omega
  generalize F + T0 = T at *
  clear rt rf
  have rD : 0 ≤ T - F ∧ T - F ≤ 60 := by omega
  have rC : 0 ≤ (T - F) * K := Int.mul_nonneg rD.1 (by omega)
  have rC2 : (T - F) * K ≤ 60 * 60 := Int.mul_le_mul rD.2 rK.2 (by omega) (by omega)
  have hI := d0f (m := M) (k := K) (f := F) (t := T) rM rK ⟨rF, rT⟩
  have hV0 := e6w (m := M) (k := K) (f := F) (t := T) rM rK ⟨rF, rT⟩
  have hC0 := d9f (G := G) (bk := bk) hS (h1s M K F T) (h2y M K F T) 0 (by simp [cpP])
  have hV := a22 hS hA (h1s M K F T).l (h2y M K F T)
  have hT := d9g hS hA (h1s M K F T).l (h2y M K F T)
  rw [show (cpP M K F T).code[0]'(by simp [cpP]) = cpI F T from rfl, hI] at hC0
  by_cases c : max ((T - F) * K) 1 ≤ 1024
  · rw [e7q rM rK ⟨rF, rT⟩ c] at hT
    rw [if_pos c] at hC0 hV0
    rw [hV0, if_pos (by rfl)] at hT
    have c2 : ¬ 1024 < (T - F) * K := by omega
    have ec : max ((T - F) * K) 1 = max 1 ((T - F) * K) := Int.max_comm _ _
    rw [ec] at hC0 hT
    refine a0f hC0 (by simp [go_sem, a0r]) (by simp (config := {maxSteps := 1000000}) (disch := omega) [go_sem]) ?_
    simp (config := {maxSteps := 1000000}) (disch := omega) [go_sem, c2, a0m]
    refine a0f hT (by simp [go_sem, a0r]) (by simp (config := {maxSteps := 1000000}) (disch := omega) [go_sem]) ?_
    simp (config := {maxSteps := 1000000}) (disch := omega) [go_sem, c2, a0m]
  · rw [if_neg c] at hC0 hV0
    rw [hV0] at hV
    have c2 : 1024 < (T - F) * K := by omega
    refine a0f hC0 (by simp [go_sem, a0r]) (by simp (config := {maxSteps := 1000000}) (disch := omega) [go_sem]) ?_
    simp (config := {maxSteps := 1000000}) (disch := omega) [go_sem, c2]
    have hIs := h8s hS (e := .s 9) (by constructor; decide) 109
    rw [show decide ((Er.s 9).flt = ((109 : Int), false, (0 : Int))) = true from rfl] at hIs
    refine a0f hIs rfl (by simp (config := {maxSteps := 1000000}) (disch := omega) [go_sem]) ?_
    simp (config := {maxSteps := 1000000}) (disch := omega) [go_sem, c2]
    refine a0f hV (a0h _) (by simp (config := {maxSteps := 1000000}) (disch := omega) [go_sem, c2]) ?_
    simp (config := {maxSteps := 1000000}) (disch := omega) [go_sem, c2]
    have hp := a3v G 109 0
    rw [if_neg (by decide)] at hp
    refine a0d hp rfl rfl ?_
    simp (config := {maxSteps := 1000000}) (disch := omega) [go_sem, c2]
    have hSm := b0t hS (e := .at 0 (.s 9)) (by constructor; decide) (109, true, 0)
    rw [show decide ((Er.at 0 (Er.s 9)).flt = ((109 : Int), true, (0 : Int))) = true from rfl] at hSm
    refine a0f hSm rfl (by simp (config := {maxSteps := 1000000}) (disch := omega) [go_sem]) ?_
    simp (config := {maxSteps := 1000000}) (disch := omega) [go_sem, c2]
    all_goals rfl
end
end Go.Ideal.Tryd
end
section
set_option linter.unusedVariables false
set_option linter.unusedSimpArgs false
set_option maxRecDepth 200000
namespace Go.Ideal.Tryd
def b6q : In := ⟨4, 1, [0, 0], [], 0, 2⟩
def a3f (k : Nat) (x : In) : Pl := ⟨8, [⟨0, [2], false⟩, ⟨4, [2], false⟩], [], [], List.replicate k b6q ++ [x], 0, 1⟩
theorem c9v {f : In → Er} {x : In} (h : (f b6q).isNil = true) (h2 : (f x).isNil = false) : ∀ (k : Nat) (m : Int), a1a f (List.replicate k b6q ++ [x]) m = atE (m + k) (f x)
  | 0, m => by simp [a1a, h2]
  | k + 1, m => by
    rw [List.replicate_succ, List.cons_append, a1a, h, if_pos rfl, c9v h h2 k (m + 1)]
    congr 1
    omega
theorem e71 (k : Nat) (x : In) : (a1i (a3f k x) b6q).2.isNil = true := by rfl
theorem e0k {k : Nat} {x : In} (hk : k ≤ 60) : a28 (a3f k x) = .nil := by
  have hl : (a3f k x).code.length = k + 1 := by simp [a3f]
  have hv : a1a (b2m 8) [⟨0, [2], false⟩, ⟨4, [2], false⟩] 0 = .nil := by rfl
  unfold a28
  rw [if_neg (by rw [hl]; simp [a3f]; omega), if_neg (by simp [a3f])]
  show orE (a1a (b2m 8) [⟨0, [2], false⟩, ⟨4, [2], false⟩] 0) _ = _
  rw [hv]
  rfl
theorem a3g {k : Nat} {x : In} {g : Nat} (hk : k ≤ 60) (h : (a1i (a3f k x) x).2 = .s g) : a5n (a3f k x) = .at k (.s g) := by
  unfold a5n
  rw [e0k hk]
  show a1a (fun i => (a1i (a3f k x) i).2) (List.replicate k b6q ++ [x]) 0 = _
  rw [c9v (e71 k x) (by rw [h]; rfl)]
  simp only [h, atE]
  congr 1
  omega
theorem b4s (k : Nat) (x : In) (hk : k ≤ 60) : PlB (a3f k x) := ⟨by simp [a3f], by simp [a3f], by simp [a3f], by simp [a3f]; omega, by simp [a3f], by simp [a3f], by simp [a3f]⟩
theorem b4t (k : Nat) (x : In) (h1 : x.ins.length < 2 ^ 30) (h2 : x.args.length < 2 ^ 30) : ∀ i ∈ (a3f k x).code, InB (a3f k x) i := by
  intro i h
  simp only [a3f, List.mem_append, List.mem_replicate, List.mem_singleton] at h
  rcases h with ⟨_, rfl⟩ | rfl
  · exact ⟨by simp [b6q], by simp [b6q]⟩
  · exact ⟨h1, h2⟩
theorem t0 (k : Nat) : (a1i (a3f k ⟨1, 1, [0, 0], [], 0, 2⟩) ⟨1, 1, [0, 0], [], 0, 2⟩).2 = .s 5 := by rfl
theorem t1 (k : Nat) : (a1i (a3f k ⟨4, 2, [0, 0], [], 0, 2⟩) ⟨4, 2, [0, 0], [], 0, 2⟩).2 = .s 0 := by rfl
theorem t2 (k : Nat) : (a1i (a3f k ⟨4, 1, [0], [], 0, 2⟩) ⟨4, 1, [0], [], 0, 2⟩).2 = .s 6 := by rfl
theorem t3 (k : Nat) : (a1i (a3f k ⟨4, 1, [0, -1], [], 0, 2⟩) ⟨4, 1, [0, -1], [], 0, 2⟩).2 = .s 0 := by rfl
theorem t4 (k : Nat) : (a1i (a3f k ⟨4, 1, [0, 0], [], 0, 3⟩) ⟨4, 1, [0, 0], [], 0, 3⟩).2 = .s 3 := by rfl
theorem t5 (k : Nat) : (a1i (a3f k ⟨4, 1, [0, 0], [], -1, 2⟩) ⟨4, 1, [0, 0], [], -1, 2⟩).2 = .s 3 := by rfl
theorem t6 (k : Nat) : (a1i (a3f k ⟨22, 0, [], [(k : Int) + 2], 0, 0⟩) ⟨22, 0, [], [(k : Int) + 2], 0, 0⟩).2 = .s 10 := by
  have hl : ((a3f k ⟨22, 0, [], [(k : Int) + 2], 0, 0⟩).code.length : Int) = k + 1 := by simp [a3f]
  have hj : c0k (a3f k ⟨22, 0, [], [(k : Int) + 2], 0, 0⟩) ⟨22, 0, [], [(k : Int) + 2], 0, 0⟩ = .s 10 := by
    unfold c0k
    rw [if_pos (by simp [b6v, f50]), if_pos (by rw [hl]; simp [b6v])]
  unfold a1i
  rw [hj]
  rfl
theorem t7 (k : Nat) : (a1i (a3f k ⟨2, 1, [], [0], 0, 0⟩) ⟨2, 1, [], [0], 0, 0⟩).2 = .s 0 := by rfl
theorem t8 (k : Nat) : (a1i (a3f k ⟨24, 1, [], [], 0, 0⟩) ⟨24, 1, [], [], 0, 0⟩).2 = .s 3 := by rfl
end Go.Ideal.Tryd
end
section
set_option linter.unusedVariables false
set_option linter.unusedSimpArgs false
set_option maxRecDepth 200000
namespace Go.Ideal.Tryd
attribute [local go_sem] eD eT eV eI eP
section
variable {G : GG} {bk : Nat → Nat × Nat} {Q : Exit → St → Prop} {st : St}
theorem f0v : ACalls pg G b80 [.agg (eI b6q)] (.agg (eI b6q)) := by
  refine ACalls.shown (res := .agg [li 4, li 1, .own 1 2 [li 0, li 0], .own 1 0 [], li 0, li 2]) ?_ (by rfl)
  refine b3c rfl ?_
  simp (disch := omega) [go_sem, b0v, b6q]
  refine a0b ?_
  simp (disch := omega) [go_sem]
  refine a0p (e81 G [0, 0] (by simp)) rfl rfl (by simp (disch := omega) [go_sem, a0k, a19]) [9] (by simp) (by simp (disch := omega) [go_sem]) ?_
  simp (disch := omega) [go_sem, a0k, a19]
  refine a0p (e81 G [] (by simp)) rfl rfl (by simp (disch := omega) [go_sem, a0k, a19]) [12] (by simp) (by simp (disch := omega) [go_sem]) ?_
  simp (disch := omega) [go_sem, a0k, a19]
  refine a0c (by decide) fun s2 hs2 he2 => ?_
  simp (disch := omega) [go_sem, hs2]
theorem f1c : ACalls pg G a9q [li 1] (.agg [li 8, .own 3 2 [li 0, .sl 1 [li 2], lb false, li 4, .sl 1 [li 2], lb false], .own 3 0 [], .own 2 0 [], .own 6 1 [li 4, li 1, .own 1 2 [li 0, li 0], .own 1 0 [], li 0, li 2], li 0, li 1]) := by
  refine a5m rfl ?_
  simp (disch := omega) [go_sem, a4r, a95, a0l]
abbrev tpV (j : Nat) (cs : List AV) : AV := .var [li 8, .own 3 2 [li 0, .sl 1 [li 2], lb false, li 4, .sl 1 [li 2], lb false], .own 3 0 [], .own 2 0 [], .own 6 j cs, li 0, li 1]
theorem h4b {j : Nat} : List.take (j * 6) (fm eI (List.replicate j b6q)) = fm eI (List.replicate j b6q) := by
  have := a5e (f := eI) (k := 6) (xs := List.replicate j b6q) (fun _ => rfl)
  rwa [List.length_replicate] at this
set_option maxHeartbeats 8000000 in
theorem h33 {n : Nat} {what : Int} (hn : 1 ≤ n ∧ n ≤ 30)
    (h : st.s 0 = li n ∧ st.s 5 = lb true ∧ st.s 6 = tpV 1 (fm eI (List.replicate 1 b6q)) ∧ st.s 7 = .var (eI b6q) ∧ st.s 1 = li what)
    (hex : ∀ s, s.s 0 = li n ∧ s.s 5 = lb true ∧ s.s 6 = tpV n (fm eI (List.replicate n b6q)) ∧ s.s 1 = li what → Q (.exit 0) s) : AW pg G 100 (.loop a1o) Q st := by
  refine a1g Nat (fun j st => (1 ≤ j ∧ j ≤ n) ∧ st.s 0 = li n ∧ st.s 5 = lb true ∧ st.s 6 = tpV j (fm eI (List.replicate j b6q)) ∧ st.s 7 = .var (eI b6q) ∧ st.s 1 = li what) (fun j => n - j) 1 ⟨by omega, h⟩ ?_
  clear h
  rintro j st K ⟨hj, h⟩ hK
  by_cases hlt : j < n
  · have hlt' : (j : Int) < n := by omega
    simp (disch := omega) [go_sem, a1o, h, hlt']
    refine a0b ?_
    simp (disch := omega) [go_sem, h]
    refine a5a f0v (by simp [go_sem, a0r]) (by simp (disch := omega) [go_sem]) (by simp (disch := omega) [go_sem, a0k, a19]) [30] (by simp) (by simp (disch := omega) [go_sem, h]) ?_
    simp (disch := omega) [go_sem, h, a0k, a19]
    refine a0c (by decide) fun s2 hs2 he2 => ?_
    have hrep : fm eI (List.replicate j b6q) ++ eI b6q = fm eI (List.replicate (j + 1) b6q) := by
      rw [List.replicate_succ', d9p, e37]
    refine hK (j + 1) _ ⟨by omega, ?_⟩ (by omega)
    rw [← hrep]
    simp (disch := omega) [go_sem, hs2, h, h4b]
  · obtain rfl : j = n := by omega
    simp (disch := omega) [go_sem, a1o, h]
    exact hex _ (by simp (disch := omega) [go_sem, h])
theorem spl {k c : Nat} {vs : List AV} (hc : c + vs.length ≤ 6) : a0l (fm eI (List.replicate (k + 1) b6q)) (k * 6 + c) vs = fm eI (List.replicate k b6q) ++ a0l (eI b6q) c vs := by
  have hl : (fm eI (List.replicate k b6q)).length = k * 6 := by rw [a9k (k := 6) (fun _ => rfl)]; simp
  unfold a0l
  rw [List.replicate_succ', d9p, e37, List.take_append, List.drop_append, List.take_of_length_le (by omega), List.drop_eq_nil_of_le (by omega), hl, show k * 6 + c - k * 6 = c by omega, show k * 6 + c + vs.length - k * 6 = c + vs.length by omega]
  simp
theorem b0j {k c : Nat} {vs : List AV} {x : In} (hc : c + vs.length ≤ 6) (hx : a1v (a0l (eI b6q) c vs) = eI x) : eP (a3f k x) = [li 8, .sl 2 [li 0, .sl 1 [li 2], lb false, li 4, .sl 1 [li 2], lb false], .sl 0 [], .sl 0 [], .sl (k + 1) (a1v (a0l (fm eI (List.replicate (k + 1) b6q)) (k * 6 + c) vs)), li 0, li 1] := by
  rw [spl hc, d9a, hx, g3a]
  simp [eP, a3f, d9p, e37, g0o, b0o, eV]
set_option maxHeartbeats 8000000 in
theorem d4l (hS : Sent G bk) (hA : Around G bk) (n what : Int) : ACalls pg G a92 [li n, li what] (lb true) := by
  have rn := a40 (n := n) (m := 30) (by decide)
  have rw_ := a40 (n := what) (m := 9) (by decide)
  obtain ⟨k, hk⟩ := Int.eq_ofNat_of_zero_le rn.1
  refine a54 rfl ?_
  simp (disch := omega) [go_sem, a33]
  refine a0d (d06 hS hA) rfl rfl ?_
  simp (disch := omega) [go_sem]
  refine a0d (a4t n 30 (by decide) (by decide)) rfl rfl ?_
  rw [hk] at rn ⊢
  simp (disch := omega) [go_sem]
  refine f1g f1c rfl rfl ?_
  simp (disch := omega) [go_sem, a0l]
  have hk60 : k ≤ 60 := by omega
  refine h33 (n := k + 1) (what := what) (by omega) (by simp (disch := omega) [go_sem, fm, b6q]) (fun s h => ?_)
  simp (disch := omega) [go_sem, h]
  refine a0d (a4t what 9 (by decide) (by decide)) rfl rfl ?_
  generalize c91 what 9 = W at *
  have hW : W = 0 ∨ W = 1 ∨ W = 2 ∨ W = 3 ∨ W = 4 ∨ W = 5 ∨ W = 6 ∨ W = 7 ∨ W = 8 := by omega
  rcases hW with rfl | rfl | rfl | rfl | rfl | rfl | rfl | rfl | rfl
  · have hV := a22 hS hA (b4s k ⟨1, 1, [0, 0], [], 0, 2⟩ hk60).l (b4t k ⟨1, 1, [0, 0], [], 0, 2⟩ (by simp) (by simp))
    rw [a3g hk60 (t0 k), b0j (c := 0) (vs := [li 1]) (by simp) (by rfl)] at hV
    rw [Nat.add_zero] at hV
    have hP := a3v G 103 k
    rw [if_neg (by decide)] at hP
    have hSm := b0t hS (e := .at k (.s 5)) (.at (by decide)) (103, true, k)
    rw [show decide ((Er.at k (.s 5)).flt = ((103 : Int), true, (k : Int))) = true from decide_eq_true rfl] at hSm
    simp (config := {maxSteps := 1000000}) (disch := omega) [go_sem, h]
    skip
    refine a0f hV (a0h _) (by simp (config := {maxSteps := 1000000}) (disch := omega) [go_sem, h]) ?_
    simp (config := {maxSteps := 1000000}) (disch := omega) [go_sem, h]
    refine a0d hP rfl rfl ?_
    simp (config := {maxSteps := 1000000}) (disch := omega) [go_sem, h]
    refine a0f hSm rfl (by simp (config := {maxSteps := 1000000}) (disch := omega) [go_sem, h]) ?_
    simp (config := {maxSteps := 1000000}) (disch := omega) [go_sem, h]
  · have hV := a22 hS hA (b4s k ⟨4, 2, [0, 0], [], 0, 2⟩ hk60).l (b4t k ⟨4, 2, [0, 0], [], 0, 2⟩ (by simp) (by simp))
    rw [a3g hk60 (t1 k), b0j (c := 1) (vs := [li 2]) (by simp) (by rfl)] at hV
    skip
    have hP := a3v G 107 k
    rw [if_neg (by decide)] at hP
    have hSm := b0t hS (e := .at k (.s 0)) (.at (by decide)) (107, true, k)
    rw [show decide ((Er.at k (.s 0)).flt = ((107 : Int), true, (k : Int))) = true from decide_eq_true rfl] at hSm
    simp (config := {maxSteps := 1000000}) (disch := omega) [go_sem, h]
    skip
    refine a0f hV (a0h _) (by simp (config := {maxSteps := 1000000}) (disch := omega) [go_sem, h]) ?_
    simp (config := {maxSteps := 1000000}) (disch := omega) [go_sem, h]
    refine a0d hP rfl rfl ?_
    simp (config := {maxSteps := 1000000}) (disch := omega) [go_sem, h]
    refine a0f hSm rfl (by simp (config := {maxSteps := 1000000}) (disch := omega) [go_sem, h]) ?_
    simp (config := {maxSteps := 1000000}) (disch := omega) [go_sem, h]
  · have hV := a22 hS hA (b4s k ⟨4, 1, [0], [], 0, 2⟩ hk60).l (b4t k ⟨4, 1, [0], [], 0, 2⟩ (by simp) (by simp))
    rw [a3g hk60 (t2 k), b0j (c := 2) (vs := [.own 1 1 [li 0]]) (by simp) (by rfl)] at hV
    skip
    have hP := a3v G 101 k
    rw [if_neg (by decide)] at hP
    have hSm := b0t hS (e := .at k (.s 6)) (.at (by decide)) (101, true, k)
    rw [show decide ((Er.at k (.s 6)).flt = ((101 : Int), true, (k : Int))) = true from decide_eq_true rfl] at hSm
    simp (config := {maxSteps := 1000000}) (disch := omega) [go_sem, h]
    skip
    refine a0f hV (a0h _) (by simp (config := {maxSteps := 1000000}) (disch := omega) [go_sem, h]) ?_
    simp (config := {maxSteps := 1000000}) (disch := omega) [go_sem, h]
    refine a0d hP rfl rfl ?_
    simp (config := {maxSteps := 1000000}) (disch := omega) [go_sem, h]
    refine a0f hSm rfl (by simp (config := {maxSteps := 1000000}) (disch := omega) [go_sem, h]) ?_
    simp (config := {maxSteps := 1000000}) (disch := omega) [go_sem, h]
  · have hV := a22 hS hA (b4s k ⟨4, 1, [0, -1], [], 0, 2⟩ hk60).l (b4t k ⟨4, 1, [0, -1], [], 0, 2⟩ (by simp) (by simp))
    rw [a3g hk60 (t3 k), b0j (c := 2) (vs := [.own 1 2 [li 0, li (-1)]]) (by simp) (by rfl)] at hV
    skip
    have hP := a3v G 107 k
    rw [if_neg (by decide)] at hP
    have hSm := b0t hS (e := .at k (.s 0)) (.at (by decide)) (107, true, k)
    rw [show decide ((Er.at k (.s 0)).flt = ((107 : Int), true, (k : Int))) = true from decide_eq_true rfl] at hSm
    simp (config := {maxSteps := 1000000}) (disch := omega) [go_sem, h]
    skip
    refine a0f hV (a0h _) (by simp (config := {maxSteps := 1000000}) (disch := omega) [go_sem, h]) ?_
    simp (config := {maxSteps := 1000000}) (disch := omega) [go_sem, h]
    refine a0d hP rfl rfl ?_
    simp (config := {maxSteps := 1000000}) (disch := omega) [go_sem, h]
    refine a0f hSm rfl (by simp (config := {maxSteps := 1000000}) (disch := omega) [go_sem, h]) ?_
    simp (config := {maxSteps := 1000000}) (disch := omega) [go_sem, h]
  · have hV := a22 hS hA (b4s k ⟨4, 1, [0, 0], [], 0, 3⟩ hk60).l (b4t k ⟨4, 1, [0, 0], [], 0, 3⟩ (by simp) (by simp))
    rw [a3g hk60 (t4 k), b0j (c := 5) (vs := [li 3]) (by simp) (by rfl)] at hV
    skip
    have hP := a3v G 102 k
    rw [if_neg (by decide)] at hP
    have hSm := b0t hS (e := .at k (.s 3)) (.at (by decide)) (102, true, k)
    rw [show decide ((Er.at k (.s 3)).flt = ((102 : Int), true, (k : Int))) = true from decide_eq_true rfl] at hSm
    simp (config := {maxSteps := 1000000}) (disch := omega) [go_sem, h]
    skip
    refine a0f hV (a0h _) (by simp (config := {maxSteps := 1000000}) (disch := omega) [go_sem, h]) ?_
    simp (config := {maxSteps := 1000000}) (disch := omega) [go_sem, h]
    refine a0d hP rfl rfl ?_
    simp (config := {maxSteps := 1000000}) (disch := omega) [go_sem, h]
    refine a0f hSm rfl (by simp (config := {maxSteps := 1000000}) (disch := omega) [go_sem, h]) ?_
    simp (config := {maxSteps := 1000000}) (disch := omega) [go_sem, h]
  · have hV := a22 hS hA (b4s k ⟨4, 1, [0, 0], [], -1, 2⟩ hk60).l (b4t k ⟨4, 1, [0, 0], [], -1, 2⟩ (by simp) (by simp))
    rw [a3g hk60 (t5 k), b0j (c := 4) (vs := [li (-1)]) (by simp) (by rfl)] at hV
    skip
    have hP := a3v G 102 k
    rw [if_neg (by decide)] at hP
    have hSm := b0t hS (e := .at k (.s 3)) (.at (by decide)) (102, true, k)
    rw [show decide ((Er.at k (.s 3)).flt = ((102 : Int), true, (k : Int))) = true from decide_eq_true rfl] at hSm
    simp (config := {maxSteps := 1000000}) (disch := omega) [go_sem, h]
    skip
    refine a0f hV (a0h _) (by simp (config := {maxSteps := 1000000}) (disch := omega) [go_sem, h]) ?_
    simp (config := {maxSteps := 1000000}) (disch := omega) [go_sem, h]
    refine a0d hP rfl rfl ?_
    simp (config := {maxSteps := 1000000}) (disch := omega) [go_sem, h]
    refine a0f hSm rfl (by simp (config := {maxSteps := 1000000}) (disch := omega) [go_sem, h]) ?_
    simp (config := {maxSteps := 1000000}) (disch := omega) [go_sem, h]
  · have hV := a22 hS hA (b4s k ⟨22, 0, [], [(k : Int) + 2], 0, 0⟩ hk60).l (b4t k ⟨22, 0, [], [(k : Int) + 2], 0, 0⟩ (by simp) (by simp))
    rw [a3g hk60 (t6 k), b0j (c := 0) (vs := [li 22, li 0, .own 1 0 [], .own 1 1 [li ((k : Int) + 2)], li 0, li 0]) (by simp) (by rfl)] at hV
    rw [Nat.add_zero] at hV
    have hP := a3v G 110 k
    rw [if_neg (by decide)] at hP
    have hSm := b0t hS (e := .at k (.s 10)) (.at (by decide)) (110, true, k)
    rw [show decide ((Er.at k (.s 10)).flt = ((110 : Int), true, (k : Int))) = true from decide_eq_true rfl] at hSm
    simp (config := {maxSteps := 1000000}) (disch := omega) [go_sem, h]
    rw [show (k : Int) + 1 + 1 = (k : Int) + 2 by omega]
    refine a0f hV (a0h _) (by simp (config := {maxSteps := 1000000}) (disch := omega) [go_sem, h]) ?_
    simp (config := {maxSteps := 1000000}) (disch := omega) [go_sem, h]
    refine a0d hP rfl rfl ?_
    simp (config := {maxSteps := 1000000}) (disch := omega) [go_sem, h]
    refine a0f hSm rfl (by simp (config := {maxSteps := 1000000}) (disch := omega) [go_sem, h]) ?_
    simp (config := {maxSteps := 1000000}) (disch := omega) [go_sem, h]
  · have hV := a22 hS hA (b4s k ⟨2, 1, [], [0], 0, 0⟩ hk60).l (b4t k ⟨2, 1, [], [0], 0, 0⟩ (by simp) (by simp))
    rw [a3g hk60 (t7 k), b0j (c := 0) (vs := [li 2, li 1, .own 1 0 [], .own 1 1 [li 0], li 0, li 0]) (by simp) (by rfl)] at hV
    rw [Nat.add_zero] at hV
    have hP := a3v G 107 k
    rw [if_neg (by decide)] at hP
    have hSm := b0t hS (e := .at k (.s 0)) (.at (by decide)) (107, true, k)
    rw [show decide ((Er.at k (.s 0)).flt = ((107 : Int), true, (k : Int))) = true from decide_eq_true rfl] at hSm
    simp (config := {maxSteps := 1000000}) (disch := omega) [go_sem, h]
    skip
    refine a0f hV (a0h _) (by simp (config := {maxSteps := 1000000}) (disch := omega) [go_sem, h]) ?_
    simp (config := {maxSteps := 1000000}) (disch := omega) [go_sem, h]
    refine a0d hP rfl rfl ?_
    simp (config := {maxSteps := 1000000}) (disch := omega) [go_sem, h]
    refine a0f hSm rfl (by simp (config := {maxSteps := 1000000}) (disch := omega) [go_sem, h]) ?_
    simp (config := {maxSteps := 1000000}) (disch := omega) [go_sem, h]
  · have hV := a22 hS hA (b4s k ⟨24, 1, [], [], 0, 0⟩ hk60).l (b4t k ⟨24, 1, [], [], 0, 0⟩ (by simp) (by simp))
    rw [a3g hk60 (t8 k), b0j (c := 0) (vs := [li 24, li 1, .own 1 0 [], .own 1 0 [], li 0, li 0]) (by simp) (by rfl)] at hV
    rw [Nat.add_zero] at hV
    have hP := a3v G 102 k
    rw [if_neg (by decide)] at hP
    have hSm := b0t hS (e := .at k (.s 3)) (.at (by decide)) (102, true, k)
    rw [show decide ((Er.at k (.s 3)).flt = ((102 : Int), true, (k : Int))) = true from decide_eq_true rfl] at hSm
    simp (config := {maxSteps := 1000000}) (disch := omega) [go_sem, h]
    skip
    refine a0f hV (a0h _) (by simp (config := {maxSteps := 1000000}) (disch := omega) [go_sem, h]) ?_
    simp (config := {maxSteps := 1000000}) (disch := omega) [go_sem, h]
    refine a0d hP rfl rfl ?_
    simp (config := {maxSteps := 1000000}) (disch := omega) [go_sem, h]
    refine a0f hSm rfl (by simp (config := {maxSteps := 1000000}) (disch := omega) [go_sem, h]) ?_
    simp (config := {maxSteps := 1000000}) (disch := omega) [go_sem, h]
end
end Go.Ideal.Tryd
end
