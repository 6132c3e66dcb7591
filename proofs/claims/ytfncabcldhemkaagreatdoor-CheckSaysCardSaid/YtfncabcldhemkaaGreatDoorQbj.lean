/- Part Qbj of the proof: a machine with trees for values, its soundness, and walks on it. -/
import Derived.Test.YtfncabcldhemkaaGreatDoorQbi
import Derived.Test.YtfncabcldhemkaaGreatDoorQbe
set_option linter.unusedVariables false
set_option linter.unusedSimpArgs false
set_option maxHeartbeats 4000000
set_option maxRecDepth 100000
section
namespace Go.Ideal.Tryz
open Go.RowKit Go.Extern.Stop Go.Stop Go.Extern Go.Proofs
abbrev hnd : Value := .iface 212 (.agg #[.pointer (some ⟨22, 35, none⟩)])
theorem c6k {w : World} {a : Addr} {v : Value} (h : w.cell? a = some v) : a.block < w.heap.size := by
 rcases Nat.lt_or_ge a.block w.heap.size with h1 | h1
 ·exact h1
 ·simp [World.cell?, Array.getElem?_eq_none h1] at h
theorem a12 {w : World} {o : Obj} : (w.alloc o).heap.size = w.heap.size + 1 := Array.size_push _
theorem c5c (k : Int) (a : Addr) (w : World) (hg : w.cell? ⟨9, 0, none⟩ = some hnd) :
  Calls Go.Proofs.Tryz.prog 59 #[.int .i64 k, .iface 230 (.pointer (some a))] w fun ev w' => ∃ b o1 o2 o3 t, w' = ((((w.alloc (.cells #[.pointer none] 153)).alloc o1).alloc o2).alloc o3).alloc (.cells #[.int .i64 k, .iface 230 (.pointer (some a))] t) /\ b = w.heap.size + 1 + 1 + 1 + 1 /\ ev = .returned (.iface 153 (.pointer (some ⟨b, 0, none⟩))) := by
 have hlt : 9 < w.heap.size := c6k hg
 have hgA : (w.alloc (.cells #[.pointer none] 153)).cell? ⟨9, 0, none⟩ = some hnd := by
  rw [World.cell?_alloc_lt _ _ ⟨9, 0, none⟩ hlt]; exact hg
 have htA : (w.alloc (.cells #[.pointer none] 153)).cell? ⟨w.heap.size, 0, none⟩ = some (.pointer none) := by simp
 have hfA : (w.alloc (.cells #[.pointer none] 153)).frozen? ⟨w.heap.size, 0, none⟩ = false := by simp
 go_enter Go.Proofs.Tryz.func59, Go.Proofs.Tryz.ntmps59
 go_wp2_with (go_at_call 108; refine (c8p _ _ (.pointer none) _ hgA htA hfA).mono ?_; rintro e w' ⟨rfl, rfl⟩)
 go_ret
 exact ⟨_, _, _, _, _, rfl, rfl, rfl⟩
theorem c8d (k : Int) (eb eo : Nat) (xa : Addr) (w : World) (hg : w.cell? ⟨9, 0, none⟩ = some hnd) (he : w.cell? ⟨eb, eo + 1, none⟩ = some (.iface 230 (.pointer (some xa)))) :
  Calls Go.Proofs.Tryz.prog 59 #[.int .i64 k, .iface 153 (.pointer (some ⟨eb, eo, none⟩))] w fun ev w' => ∃ b o0 o1 o2 o3 o4 t, w' = (((((w.alloc o0).alloc o1).alloc o2).alloc o3).alloc o4).alloc (.cells #[.int .i64 k, .iface 230 (.pointer (some xa))] t) /\ b = w.heap.size + 1 + 1 + 1 + 1 + 1 /\ ev = .returned (.iface 153 (.pointer (some ⟨b, 0, none⟩))) := by
 have hlt : 9 < w.heap.size := c6k hg
 have hle : eb < w.heap.size := c6k he
 have hgA : (w.alloc (.cells #[.pointer none] 153)).cell? ⟨9, 0, none⟩ = some hnd := by
  rw [World.cell?_alloc_lt _ _ ⟨9, 0, none⟩ hlt]; exact hg
 have htA : (w.alloc (.cells #[.pointer none] 153)).cell? ⟨w.heap.size, 0, none⟩ = some (.pointer none) := by simp
 have hfA : (w.alloc (.cells #[.pointer none] 153)).frozen? ⟨w.heap.size, 0, none⟩ = false := by simp
 have hx : ∀ o0 o1 o2 o3 o4, (((((w.alloc o0).alloc o1).alloc o2).alloc o3).alloc o4).cell? ⟨eb, eo + 1, none⟩ = some (.iface 230 (.pointer (some xa))) := fun o0 o1 o2 o3 o4 => by
  rw [World.cell?_alloc_lt _ _ ⟨eb, eo + 1, none⟩ (by simp only [a12]; omega), World.cell?_alloc_lt _ _ ⟨eb, eo + 1, none⟩ (by simp only [a12]; omega), World.cell?_alloc_lt _ _ ⟨eb, eo + 1, none⟩ (by simp only [a12]; omega), World.cell?_alloc_lt _ _ ⟨eb, eo + 1, none⟩ (by simp only [a12]; omega), World.cell?_alloc_lt _ _ ⟨eb, eo + 1, none⟩ hle]; exact he
 go_enter Go.Proofs.Tryz.func59, Go.Proofs.Tryz.ntmps59
 go_wp2_with (go_at_call 108; refine (d08 _ _ (.pointer none) _ hgA htA hfA).mono ?_; rintro e w' ⟨rfl, rfl⟩)
 go_ret
 exact ⟨_, _, _, _, _, _, _, rfl, rfl, rfl⟩
theorem a29 {w : World} {o : Obj} {b : Nat} (h : b < w.heap.size) : (w.alloc o).heap[b]? = w.heap[b]? := by
 show (w.heap.push o)[b]? = _
 rw [Array.getElem?_push, if_neg (Nat.ne_of_lt h)]
theorem b9x {G : GG} {bk : Nat -> Nat × Nat} {w w' W : World} {A Fa : BS} {k : Int} {g t : Nat} (hw : w' = W.alloc (.cells #[.int .i64 k, .iface c97 (.pointer (some ⟨(bk g).1, (bk g).2, none⟩))] t)) (h1 : w.heap.size <= W.heap.size) (h2 : W.os = w.os) (h3 : W.tape = w.tape) (h4 : W.output = w.output) (h5 : ∀ b, b < w.heap.size -> W.heap[b]? = w.heap[b]?) :
  Ret w A Fa w' (a0s bk (.at k (.s g))) (.iface g2p (.pointer (some ⟨W.heap.size, 0, none⟩))) := by
 subst hw
 refine ⟨by rw [a12]; omega, h2, h3, h4, fun b hb _ => by rw [a29 (by omega)]; exact h5 b hb, noB, fun _ h => h.elim, ?_⟩
 simp only [a0s, R]
 refine ⟨_, rfl, W.heap.size, 0, [.int .i64 k, .iface c97 (.pointer (some ⟨(bk g).1, (bk g).2, none⟩))], rfl, ⟨by rw [a12]; omega, fun h => h, .inr (.inr h1)⟩, fun u hu => ?_, ?_, fun i u hu => ?_⟩
 ·simp at hu
  rcases hu with rfl | rfl <;> rfl
 ·simp only [RL, R]
  exact ⟨_, _, rfl, noB, noB, fun _ h => h, fun _ h => h, fun _ h => h.elim, rfl, _, _, rfl, noB, noB, fun _ h => h, fun _ h => h, fun _ h => h.elim, rfl, rfl⟩
 ·rw [Nat.zero_add]
  have e : ∀ j, (W.alloc (.cells #[.int .i64 k, .iface c97 (.pointer (some ⟨(bk g).1, (bk g).2, none⟩))] t)).cell? ⟨W.heap.size, j, none⟩ = #[.int .i64 k, .iface c97 (.pointer (some ⟨(bk g).1, (bk g).2, none⟩))][j]? := fun j => by
   have : (W.alloc (.cells #[.int .i64 k, .iface c97 (.pointer (some ⟨(bk g).1, (bk g).2, none⟩))] t)).heap[W.heap.size]? = some (.cells #[.int .i64 k, .iface c97 (.pointer (some ⟨(bk g).1, (bk g).2, none⟩))] t) := by
    show (W.heap.push _)[W.heap.size]? = _
    rw [Array.getElem?_push, if_pos rfl]
   simp only [World.cell?, this, Option.isSome_none, Bool.false_eq_true, if_false]
  rw [e]
  rcases i with _ | _ | i
  ·exact hu
  ·exact hu
  ·simp at hu
theorem c2y {G : GG} {bk : Nat -> Nat × Nat} (hh : G.hs = [(9, hnd)]) : Around G bk := by
 have key : ∀ {w : World}, (∀ g v, G.at g v -> GC G w g v /\ g < w.heap.size) -> w.cell? ⟨9, 0, none⟩ = some hnd := fun h => by
  obtain ⟨⟨c, t, fz, h1, h2, _⟩, _⟩ := h 9 hnd (.inr (by rw [hh]; simp))
  simpa [World.cell?, h1] using h2
 constructor
 ·intro k g hg w args A ow hsz hA how hG hpre
  obtain ⟨l⟩ := args
  match l, hsz with
  | [x, y], _ =>
   have h0 := hpre 0 _ rfl
   have h1 := hpre 1 _ rfl
   rw [show (Array.mk [x, y]).getD 0 undef = x from rfl] at h0
   rw [show (Array.mk [x, y]).getD 1 undef = y from rfl] at h1
   simp only [a0s, R] at h0 h1
   subst h0 h1
   refine (c5c k _ w (key fun g v h => ⟨(hG g v h).1, (hG g v h).2.1⟩)).mono ?_
   rintro e w' ⟨b, o1, o2, o3, t, hw, rfl, rfl⟩
   refine ⟨_, rfl, ?_⟩
   have := b9x (G := G) (bk := bk) (w := w) (A := A) (Fa := fun b => ow b ≠ none) (k := k) (g := g) hw (by simp only [a12]; omega) rfl rfl rfl (fun b hb => by
    rw [a29 (by simp only [a12]; omega), a29 (by simp only [a12]; omega), a29 (by simp only [a12]; omega), a29 (by omega)])
   simpa only [a12] using this
 ·intro k q g hg w args A ow hsz hA how hG hpre
  obtain ⟨l⟩ := args
  match l, hsz with
  | [x, y], _ =>
   have h0 := hpre 0 _ rfl
   have h1 := hpre 1 _ rfl
   rw [show (Array.mk [x, y]).getD 0 undef = x from rfl] at h0
   rw [show (Array.mk [x, y]).getD 1 undef = y from rfl] at h1
   simp only [a0s, R, RL] at h0 h1
   obtain ⟨u, rfl, b, o, vs, rfl, hb, hc, ⟨v1, vs1, rfl, _, _, _, _, _, rfl, v2, vs2, rfl, _, _, _, _, _, rfl, rfl⟩, hcell⟩ := h1
   subst h0
   refine (c8d k b (o + 0) _ w (key fun g v h => ⟨(hG g v h).1, (hG g v h).2.1⟩) (hcell 1 _ rfl)).mono ?_
   rintro e w' ⟨b', o0, o1, o2, o3, o4, t, hw, rfl, rfl⟩
   refine ⟨_, rfl, ?_⟩
   have := b9x (G := G) (bk := bk) (w := w) (A := A) (Fa := fun b => ow b ≠ none) (k := k) (g := g) hw (by simp only [a12]; omega) rfl rfl rfl (fun b hb => by
    rw [a29 (by simp only [a12]; omega), a29 (by simp only [a12]; omega), a29 (by simp only [a12]; omega), a29 (by simp only [a12]; omega), a29 (by omega)])
   simpa only [a12] using this
end Go.Ideal.Tryz
end
