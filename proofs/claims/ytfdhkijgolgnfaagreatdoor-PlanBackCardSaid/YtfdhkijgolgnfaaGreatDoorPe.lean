/- Part Pe of the proof: a machine with trees for values, its soundness, and walks on it. -/
import Derived.Test.YtfdhkijgolgnfaaGreatDoorNw
import Derived.Carry
import Derived.ChangeSame
import Derived.ChangeVars
import Derived.JoinedOf
import Derived.RowKit
import Derived.RowKitTokens
import Derived.LaidLaws
import Derived.LaidHandle
import Derived.Stop.Joined
import Derived.Handed
import Derived.SevenTiedAt
import Derived.Test.YtfdhkijgolgnfaaGreatDoorPb
section
set_option linter.unusedVariables false
set_option linter.unusedSimpArgs false
namespace Go.Ideal
open Go.ChangeShapes Go.RowKit Classical
section
variable {H : Type} {e : TypeId × Value → H} {P : Program} {w : World}
def Rd (e : TypeId × Value → H) (P : Program) (w : World) (T : Type) (t : TypeId) (enc : T → List AV) (ok : T → Prop) : Prop :=
  ∀ (fuel : Nat) (cs : List Value) (d : DataW H) (ps : List MemPlace), DataW.trod e P w 0 (fun _ => true) true fuel t cs = some (d, ps) → (d.weights P t).all (· ≤ reachBytes) = true → ∃ x, ok x ∧ RL w (fun b => b < w.heap.size) (enc x) noQ noB cs ∧ C1 cs
theorem b88 {M : BS} {k : AV} {v : Value} (h : R w M k noQ noB v) : RL w M [k] noQ noB [v] := by
  simp only [RL]
  exact ⟨v, [], rfl, noB, noB, fun _ h => h, fun _ h => h, fun _ h => h.elim, h, rfl⟩
theorem Rd.int {t : TypeId} (ht : P.underlying t = some (.int .i64)) : Rd e P w Int t (fun n => [.lit (.int .i64 n)]) (fun n => -9223372036854775808 ≤ n ∧ n ≤ 9223372036854775807) := by
  intro fuel cs d ps h hw
  obtain ⟨n, rfl, h1, h2⟩ := DataW.trod_int ht h
  refine ⟨n, ?_, b88 (by simp only [R]), fun u hu => by simp at hu; subst hu; rfl⟩
  simp only [Lit.wf, decide_eq_true_eq, Bool.and_eq_true] at h2
  first | exact h2 | (obtain ⟨a, b⟩ := h2; simp [IntKind.wrap_i64] at *; omega)
theorem Rd.bool {t : TypeId} (ht : P.underlying t = some .bool) : Rd e P w Bool t (fun n => [.lit (.bool n)]) (fun _ => True) := by
  intro fuel cs d ps h hw
  obtain ⟨n, rfl, h1⟩ := DataW.trod_bool ht h
  exact ⟨n, trivial, b88 (by simp only [R]), fun u hu => by simp at hu; subst hu; rfl⟩
theorem b6p {u : TypeId} {p : Nat → Bool} : ∀ {ds : List (DataW H)}, (DataW.weightsAll P u ds).all p = true → ∀ d ∈ ds, (d.weights P u).all p = true
  | [], _, d, hd => by simp at hd
  | x :: xs, h, d, hd => by
    simp only [DataW.weightsAll, List.all_append, Bool.and_eq_true] at h
    rcases List.mem_cons.1 hd with rfl | hd
    · exact h.1
    · exact b6p h.2 d hd
theorem cells?_cell {a : Addr} {n : Nat} {cs : List Value} (h : w.cells? 0 a n = some cs) : cs.length = n ∧ ∀ i u, cs[i]? = some u → w.cell? (a.add i) = some u := by
  unfold World.cells? at h
  rw [if_pos (Nat.zero_le _)] at h
  have key : ∀ (l : List Nat) (r : List Value), l.mapM (fun i => w.cell? (a.add i)) = some r → r.length = l.length ∧ ∀ (i j : Nat) (u : Value), l[i]? = some j → r[i]? = some u → w.cell? (a.add j) = some u := by
    intro l
    induction l with
    | nil => intro r h; simp at h; subst h; exact ⟨rfl, fun i j u hi => by simp at hi⟩
    | cons x l ih =>
      intro r h
      simp only [List.mapM_cons, Option.bind_eq_bind, Option.pure_def, Option.bind_eq_some_iff, Option.some.injEq] at h
      obtain ⟨y, hy, ys, hys, rfl⟩ := h
      obtain ⟨h1, h2⟩ := ih ys hys
      refine ⟨by simp [h1], fun i j u hi hu => ?_⟩
      cases i with
      | zero => simp at hi hu; subst hi; subst hu; exact hy
      | succ i => exact h2 i j u (by simpa using hi) (by simpa using hu)
  obtain ⟨h1, h2⟩ := key _ _ h
  refine ⟨by simpa using h1, fun i u hu => h2 i i u ?_ hu⟩
  have : i < cs.length := (List.getElem?_eq_some_iff.1 hu).1
  rw [h1] at this
  simp at this
  simp [this]
theorem d7p (a : Addr) : a.add 0 = a := by simp [Addr.add]
theorem e8h (b o i : Nat) : (⟨b, o, none⟩ : Addr).add i = ⟨b, o + i, none⟩ := by
  simp only [Addr.add]; split
  · subst_vars; rfl
  · rfl
theorem f1h (a : Addr) (m i : Nat) : (a.add m).add i = a.add (m + i) := by
  obtain ⟨b, o, s⟩ := a
  simp only [Addr.add]
  by_cases h1 : m = 0
  · subst h1; simp
  · by_cases h2 : i = 0
    · subst h2; simp [h1]
    · simp [h1, h2, Nat.add_assoc]
theorem Rd.slice {t u : TypeId} {T : Type} {enc : T → List AV} {ok : T → Prop} (ht : P.underlying t = some (.slice u)) (hb : 0 < P.bytesOf u) (h : Rd e P w T u enc ok) (hlen : ∀ x, (enc x).length = P.cellsOf u) :
    Rd e P w (List T) t (fun xs => [.sl xs.length (xs.flatMap enc)]) (fun xs => xs.length ≤ reachBytes ∧ ∀ x ∈ xs, ok x) := by
  intro fuel cs d ps hd hw
  rcases DataW.trod_slice ht hd with ⟨rfl, _⟩ | ⟨a, len, cap, elems, rest, n, _, rfl, hx, _, hlc, _, hel, hi, _⟩
  · refine ⟨[], ⟨by simp [reachBytes], fun x hx => by simp at hx⟩, b88 ?_, fun u hu => by simp at hu; subst hu; rfl⟩
    simp only [R, RL, List.flatMap_nil, List.length_nil]
    exact ⟨none, 0, rfl, Nat.le_refl _, [], fun _ h => by simp at h, rfl, .inl rfl⟩
  · simp only [Prod.mk.injEq] at hx
    obtain ⟨rfl, _⟩ := hx
    simp only [DataW.weights, ht, List.all_cons, List.all_append, Bool.and_eq_true, decide_eq_true_eq, List.length_map] at hw
    obtain ⟨w1, w2, _⟩ := hw
    have hm : ∀ m, m ≤ len → ∃ xs : List T, xs.length = m ∧ (∀ x ∈ xs, ok x) ∧ ∃ vs, vs.length = m * P.cellsOf u ∧ RL w (fun b => b < w.heap.size) (xs.flatMap enc) noQ noB vs ∧ C1 vs ∧ ∀ i v, vs[i]? = some v → w.cell? (a.add i) = some v := by
      intro m
      induction m with
      | zero => intro _; exact ⟨[], rfl, fun x hx => by simp at hx, [], by simp, by simp [RL], fun _ h => by simp at h, fun i v hv => by simp at hv⟩
      | succ m ih =>
        intro hml
        obtain ⟨xs, l1, ok1, vs, l2, r1, c1, cell1⟩ := ih (by omega)
        have hmi := hi m (by omega)
        have hme : elems[m]? = some elems[m] := by simp [show m < elems.length by omega]
        rw [hme] at hmi
        cases hc : w.cells? 0 (a.add (m * P.cellsOf u)) (P.cellsOf u) with
        | none => rw [hc] at hmi; cases hmi
        | some cs =>
          rw [hc] at hmi
          simp only [Option.bind_some] at hmi
          obtain ⟨x, okx, rx, cx⟩ := h n cs elems[m].1 elems[m].2 hmi (b6p w2 _ (List.mem_map.2 ⟨_, List.getElem_mem _, rfl⟩))
          obtain ⟨g1, g2⟩ := cells?_cell hc
          refine ⟨xs ++ [x], by simp [l1], fun y hy => ?_, vs ++ cs, by rw [List.length_append, l2, g1, Nat.add_mul, Nat.one_mul], ?_, fun y hy => ?_, fun i v hv => ?_⟩
          · rcases List.mem_append.1 hy with hy | hy
            · exact ok1 y hy
            · simp at hy; subst hy; exact okx
          · rw [List.flatMap_append]
            simp only [List.flatMap_cons, List.flatMap_nil, List.append_nil]
            exact a26 (fun b hb => hb.elim (fun h => h) fun h => h) (a1m r1 rx fun b hb => hb.elim)
          · rcases List.mem_append.1 hy with hy | hy
            · exact c1 y hy
            · exact cx y hy
          · by_cases hiv : i < vs.length
            · rw [List.getElem?_append_left hiv] at hv
              exact cell1 i v hv
            · rw [List.getElem?_append_right (by omega)] at hv
              have := g2 _ v hv
              have e : (a.add (m * P.cellsOf u)).add (i - vs.length) = a.add i := by
                rw [f1h]
                congr 1
                rw [l2] at hiv ⊢
                omega
              rw [e] at this
              exact this
    obtain ⟨xs, l1, ok1, vs, l2, r1, c1, cell1⟩ := hm len (Nat.le_refl _)
    refine ⟨xs, ⟨?_, ok1⟩, b88 ?_, fun y hy => by simp at hy; subst hy; rfl⟩
    · rw [l1, ← hel]
      have : elems.length ≤ (elems.length + rest.length) * P.bytesOf u := by
        calc elems.length ≤ elems.length + rest.length := Nat.le_add_right _ _
          _ = (elems.length + rest.length) * 1 := (Nat.mul_one _).symm
          _ ≤ _ := Nat.mul_le_mul_left _ hb
      omega
    · simp only [R]
      refine ⟨some a, cap, by rw [l1], by omega, vs, c1, r1, ?_⟩
      cases vs with
      | nil => exact .inl rfl
      | cons v0 vs' =>
        have h0 := cell1 0 v0 rfl
        obtain ⟨b, o, sp⟩ := a
        have hsp : sp = none := by
          cases sp with
          | none => rfl
          | some s => rw [d7p] at h0; simp [World.cell?] at h0; split at h0 <;> cases h0
        subst hsp
        refine .inr ⟨b, o, rfl, ?_, fun i u hu => ?_⟩
        · by_cases hbs : b < w.heap.size
          · exact hbs
          · rw [d7p] at h0
            simp only [World.cell?] at h0
            rw [show w.heap[b]? = none by simp; omega] at h0
            cases h0
        · have := cell1 i u hu
          rw [e8h] at this
          exact this
theorem Rd.slice1 {t u : TypeId} {T : Type} {enc : T → AV} {ok : T → Prop} (ht : P.underlying t = some (.slice u)) (hb : 0 < P.bytesOf u) (hc : P.cellsOf u = 1) (h : Rd e P w T u (fun x => [enc x]) ok) :
    Rd e P w (List T) t (fun xs => [.sl xs.length (xs.map enc)]) (fun xs => xs.length ≤ reachBytes ∧ ∀ x ∈ xs, ok x) := by
  have := Rd.slice ht hb h (fun x => by simp [hc])
  intro fuel cs d ps h1 h2
  obtain ⟨x, a, b, c⟩ := this fuel cs d ps h1 h2
  refine ⟨x, a, ?_, c⟩
  have e1 : ∀ l : List T, l.flatMap (fun x => [enc x]) = l.map enc := fun l => by induction l <;> simp_all
  simp only [e1] at b
  exact b
end
theorem e4t {P : Program} {G : Nat → Option Value} {f : FuncId} {W : World} {args : Array Value} {pre : List AV} (hA : ACalls P G f pre (.lit (.bool true))) (hsz : args.size = pre.length) (hG : ∀ g v, G g = some v → GC W g v ∧ g < W.heap.size)
    (hpre : ∀ i av, pre[i]? = some av → R W (fun b => b < W.heap.size) av noQ noB (args.getD i undef)) : Calls P f args W (fun e W' => e = .returned (.bool true) ∧ Below W.heap.size W W') := by
  refine (hA W args (fun b => b < W.heap.size) (fun _ => none) hsz (fun b hb => ⟨hb, rfl⟩) (fun b i hb => by cases hb) (fun g v hg => ⟨(hG g v hg).1, (hG g v hg).2, rfl⟩) (fun i av hi => ?_)).mono ?_
  · exact a2v (fun b hb => hb.elim) (hpre i av hi)
  · rintro ex W' ⟨v, rfl, hr⟩
    obtain ⟨F, _, hv⟩ := hr.own
    simp only [R] at hv
    subst hv
    exact ⟨rfl, hr.os, hr.tape, hr.output, hr.le, fun k hk => hr.frame k hk (by simp)⟩
section
variable {H : Type} {enc : TypeId × Value → H} {P : Program}
theorem b89 (hl : laidOutB P = true) {W W' : World} (hb : Below W.heap.size W W') {sp : Nat → Bool} : ∀ {ts : List TypeId} {vs : List Value} {ds : List (DataW H)} {ps : List MemPlace}, (∀ t ∈ ts, P.readableRec t = true ∧ t < P.types.size) → DataW.TrodAll enc P W 0 (fun _ => true) true ts vs ds ps →
    (∀ x ∈ ps, x.block < W.heap.size) → (∀ x ∈ ps, sp x.block = true) → DataW.TrodAll enc P W' 0 sp true ts vs ds ps
  | [], _, _, _, _, h, _, _ => by
    obtain ⟨rfl, rfl, rfl⟩ := trodAll_nil h
    exact trodAll_mk0
  | t :: ts, _, _, _, ht, h, hlt, hsp => by
    obtain ⟨v, vs, d, ds, p, q, rfl, rfl, rfl, h1, h2⟩ := trodAll_cons h
    exact ⟨p, q, WideElems.Trod_stays hl (ht t (by simp)).1 (ht t (by simp)).2 h1 (fun x hx => hb.same (hlt x (by simp [hx]))) (fun x hx => hsp x (by simp [hx])),
      b89 hl hb (fun u hu => ht u (by simp [hu])) h2 (fun x hx => hlt x (by simp [hx])) (fun x hx => hsp x (by simp [hx])), rfl⟩
theorem e8s {f : Func} {s : ChangeSpec} {apart fresh handsOn again : Bool} {W W' : World} {args : Array Value} {ds gs : List (DataW H)} {before : List MemPlace} {tb : TypeId}
    (hl : laidOutB P = true) (ht : ∀ t ∈ f.params.toList, P.readableRec t = true ∧ t < P.types.size) (hr : f.resultTypes = #[tb]) (htb : P.underlying tb = some .bool) (hvars : s.vars = []) (hfn : s.fn H (ds ++ []) = { results := [.lit (.bool true)], args := ds })
    (hW : DataW.Whole enc P f.params.toList s.vars apart W args.toList ds gs before) (hb : Below W.heap.size W W') : s.post enc P f apart fresh handsOn again W args (.bool true) W' := by
  have hW0 := hW
  obtain ⟨p, q, hA, hV, hpq, hz, hn⟩ := hW
  rw [hvars] at hV
  obtain ⟨rfl, rfl⟩ := trodVars_none hV
  have hp : before = p := by simpa using hpq
  subst hp
  have hlt : ∀ x ∈ before, x.block < W.heap.size := fun x hx => hW0.lt x hx
  have hargs : ∀ sp : Nat → Bool, (∀ p ∈ before, sp p.block = true) → DataW.TrodAll enc P W' 0 sp true f.params.toList args.toList ds before := fun sp hsp => b89 hl hb ht hA hlt hsp
  have hres : ∀ (b : Nat) (sp : Nat → Bool) (hd : Bool), DataW.TrodAll enc P W' b sp hd f.resultTypes.toList ((Value.bool true).resultList f.resultTypes.size) [.lit (.bool true)] [] := fun b sp hd => by
    rw [hr]; exact trodAll_mk1 (shut_bool htb true)
  have hv0 : ∀ sp : Nat → Bool, DataW.TrodVars enc P W' sp s.vars [] [] := fun sp => by rw [hvars]; rfl
  refine ⟨ds, [], before, [], before, [], hW0, ?_, ?_, ?_, World.keptBut_mono (fun p hp => ⟨hp, Or.inr (Or.inl hp)⟩) (hb.frame _), fun _ => ?_⟩
  · rw [hfn]; exact hres _ _ _
  · rw [hfn]; exact hargs _ fun x hx => by simpa using hlt x hx
  · rw [hfn]; exact hv0 _
  · refine ⟨ok_one hr rfl (by unfold Value.okWide; rw [htb]; simp [Cell.okWide, Cell.ok, htb]), [.lit (.bool true)] ++ ds, [], ([] ++ before) ++ [], ⟨[] ++ before, [], trodAll_append (hargs _ fun _ _ => rfl) (hres _ _ _), hv0 _, rfl, ?_, ?_⟩, ?_⟩
    · intro b off hp
      have hp' : MemPlace.cell b off ∈ before := by simpa using hp
      rw [hb.frozen (p := ⟨b, off, none⟩) (hlt _ hp')]
      exact hz b off hp'
    · intro ha
      simpa using hn ha
    · intro p hp _
      simpa using hp
end
end Go.Ideal
end
section
set_option linter.unusedVariables false
set_option linter.unusedSimpArgs false
set_option maxRecDepth 10000
namespace Go.Ideal.Tryz
open Go.ChangeShapes Go.RowKit Classical
def e4a : DataW Unit → Option (List UInt8)
  | .iface n (.ptr (.agg [.lit (.string s)])) => if n == "*errors.errorString" then some s else none
  | _ => none
theorem d9f {d : DataW Unit} {s : List UInt8} (h : e4a d = some s) : d = .iface "*errors.errorString" (.ptr (.agg [.lit (.string s)])) := by
  unfold e4a at h
  split at h
  · split at h
    · rename_i hn
      simp only [beq_iff_eq] at hn
      injection h with h
      rw [hn, h]
    · cases h
  · cases h
noncomputable def c9w (laid : List (String × DataW Unit)) (g : Nat) : Option (List UInt8) := laid.findSome? fun x => if pg.globalNamed x.1 == some g then e4a x.2 else none
noncomputable def e5s (L : List Nat) (laid : List (String × DataW Unit)) : Bool := L.all fun g => (c9w laid g).isSome && L.all fun h => g == h || !(c9w laid g == c9w laid h)
noncomputable def f9n (laid : List (String × DataW Unit)) : Bool := e5s (List.range 21) laid
theorem c2p {W : World} : ∀ {laid : List (String × DataW Unit)} {ps : List MemPlace}, DataW.LaidVars pg W laid ps → ∀ x ∈ laid, ∃ g t cs fuel p, pg.globalNamed x.1 = some g ∧ (pg.globals[g]?).map (·.type) = some t ∧ W.var? pg x.1 = some cs ∧
    DataW.trod (fun _ => ()) pg W 0 (fun _ => true) false fuel t cs.toList = some (x.2, p) ∧ (∀ y ∈ MemPlace.row ⟨g, 0, none⟩ cs.size ++ p, y ∈ ps)
  | [], _, _, x, hx => by simp at hx
  | (n, d) :: r, ps, h, x, hx => by
    obtain ⟨g, t, cs, fuel, p, q, h1, h2, h3, h4, h5, rfl⟩ := h
    rcases List.mem_cons.1 hx with rfl | hx
    · exact ⟨g, t, cs, fuel, p, h1, h2, h3, h4, fun y hy => List.mem_append_left _ hy⟩
    · obtain ⟨g', t', cs', f', p', k1, k2, k3, k4, k5⟩ := c2p h5 x hx
      exact ⟨g', t', cs', f', p', k1, k2, k3, k4, fun y hy => List.mem_append_right _ (k5 y hy)⟩
theorem h1w : ((List.range 21).all fun g => (pg.globals[g]?).map (·.type) == some 32) = true := by kernel_rfl
theorem h8h : ∃ ms, pg.underlying 32 = some (.interface ms) := by
  have h : (match pg.underlying 32 with | some (.interface _) => true | _ => false) = true := by kernel_rfl
  split at h
  · rename_i ms hm; exact ⟨ms, hm⟩
  · cases h
theorem h2o (u : TypeId) (hu : pg.typeName? 3 u = some "*errors.errorString") : u = 146 :=
  typeName_ptr_named (nm := "errors.errorString") (by kernel_rfl) (by kernel_rfl) (by decide) u hu
theorem h1h : pg.underlying 146 = some (.pointer 170) := by kernel_rfl
theorem g96 : ∃ f : Field, pg.underlying 170 = some (.struct #[f]) ∧ f.offset = 0 ∧ pg.underlying f.type = some .string ∧ pg.cellsOf f.type = 1 := by
  have h : (match pg.underlying 170 with | some (.struct fs) => fs.size == 1 && fs.all (fun f => f.offset == 0 && (match pg.underlying f.type with | some .string => true | _ => false) && pg.cellsOf f.type == 1) | _ => false) = true := by kernel_rfl
  split at h
  · rename_i fs hm
    simp only [Bool.and_eq_true, beq_iff_eq] at h
    obtain ⟨h1, h2⟩ := h
    obtain ⟨f, hf⟩ : ∃ f, fs = #[f] := by
      obtain ⟨l⟩ := fs
      match l, h1 with
      | [f], _ => exact ⟨f, rfl⟩
    subst hf
    simp at h2
    refine ⟨f, hm, h2.1.1, ?_, h2.2⟩
    have := h2.1.2
    split at this
    · assumption
    · cases this
  · cases h
theorem e6h : pg.cellsOf 170 = 1 := by kernel_rfl
theorem d3q {L : List Nat} (hL : ∀ g ∈ L, g < 21) {laid : List (String × DataW Unit)} {W : World} (h : laidMet pg laid W) (hc : e5s L laid = true) : ∃ (G : Nat → Option Value) (bk : Nat → Nat × Nat), ((∀ g, g ∈ L → G g = some (.iface g3r (.pointer (some ⟨(bk g).1, (bk g).2, none⟩)))) ∧ (∀ g, g ∈ L → (G (bk g).1).isSome = true) ∧ (∀ g h, g ∈ L → h ∈ L → bk g = bk h → g = h)) ∧ ∀ g v, G g = some v → GC W g v ∧ g < W.heap.size := by
  obtain ⟨ps, hl, _, hp⟩ := h
  simp only [e5s, List.all_eq_true, Bool.and_eq_true, Bool.or_eq_true, beq_iff_eq, Bool.not_eq_true', beq_eq_false_iff_ne, ne_eq] at hc
  have key : ∀ g, ∃ y : Addr × ByteArray, g ∈ L → (∃ c t, W.heap[g]? = some (.cells c t (0, 0)) ∧ c[0]? = some (.iface 146 (.pointer (some y.1)))) ∧ W.cell? y.1 = some (.string y.2) ∧ c9w laid g = some y.2.data.toList ∧ (∃ c t, W.heap[y.1.block]? = some (.cells c t (0, 0))) := by
    intro g
    by_cases hg : g ∈ L
    · obtain ⟨text, ht⟩ := Option.isSome_iff_exists.1 (hc g hg).1
      have ht0 := ht
      unfold c9w at ht
      rw [List.findSome?_eq_some_iff] at ht
      obtain ⟨l1, x, l2, hx, hxs, _⟩ := ht
      split at hxs
      · rename_i hgn
        simp only [beq_iff_eq] at hgn
        obtain ⟨g', t, cs, fuel, p, h1, h2, h3, h4, h5⟩ := c2p hl x (by rw [hx]; simp)
        obtain rfl : g' = g := by rw [hgn] at h1; injection h1 with h1; exact h1.symm
        have ht26 : t = 32 := by
          have := List.all_eq_true.1 h1w g' (List.mem_range.2 (hL _ hg))
          simp only [beq_iff_eq] at this
          rw [this] at h2
          injection h2 with h2
          exact h2.symm
        subst ht26
        rw [d9f hxs] at h4
        obtain ⟨ms, hms⟩ := h8h
        obtain ⟨f, hf1, hf2, hf3, hf4⟩ := g96
        have hvar : ∃ t0 fz, W.heap[g']? = some (.cells cs t0 fz) := by
          unfold World.var? at h3
          rw [h1] at h3
          simp only [Option.bind_some] at h3
          split at h3
          · rename_i c t0 fz hh
            injection h3 with h3
            subst h3
            exact ⟨_, _, hh⟩
          · cases h3
        obtain ⟨t0, fz, hh⟩ := hvar
        have hg0 : ∀ u v, cs.toList = [.iface u v] → MemPlace.cell g' 0 ∈ ps ∧ W.cell? ⟨g', 0, none⟩ = some (.iface u v) := by
          intro u v hcs
          have hsz : cs.size = 1 := by have := congrArg List.length hcs; simpa using this
          refine ⟨h5 _ (List.mem_append_left _ (by rw [hsz]; simp [MemPlace.row])), ?_⟩
          simp only [World.cell?, hh]
          have : cs[0]? = some (.iface u v) := by
            have := congrArg (·[0]?) hcs
            simpa using this
          simpa using this
        obtain ⟨a, s, e1, e2, e3, _, e5⟩ := errorString_of_trod hms h2o h1h hf1 rfl hf2 hf3 e6h hf4 h4 (fun u v hcs => by
          obtain ⟨m1, m2⟩ := hg0 u v hcs
          exact (hp _ _ m1).2 u v m2)
        refine ⟨(a, s), fun _ => ⟨?_, e2, ?_, ?_⟩⟩
        · obtain ⟨m1, m2⟩ := hg0 _ _ e1
          obtain ⟨⟨c, t1, hc1⟩, _⟩ := hp _ _ m1
          refine ⟨c, t1, hc1, ?_⟩
          rw [hc1] at hh
          simp only [Option.some.injEq, Obj.cells.injEq] at hh
          obtain ⟨rfl, _, _⟩ := hh
          have := congrArg (·[0]?) e1
          simpa using this
        · rw [ht0, e3]
        · have := h5 _ (List.mem_append_right _ (show MemPlace.cell a.block (a.off + 0) ∈ p by rw [e5]; simp [MemPlace.row]))
          exact (hp _ _ this).1
      · cases hxs
    · exact ⟨default, fun h => absurd h hg⟩
  obtain ⟨y, hy⟩ := Classical.axiomOfChoice key
  let bk : Nat → Nat × Nat := fun g => ((y g).1.block, (y g).1.off)
  let G : Nat → Option Value := fun b => if b ∈ L ∨ ∃ g, g ∈ L ∧ (bk g).1 = b then (match W.heap[b]? with | some (.cells c _ _) => c[0]? | _ => none) else none
  have hspot : ∀ g, g ∈ L → (y g).1 = ⟨(bk g).1, (bk g).2, none⟩ ∧ ∃ c t v, W.heap[(bk g).1]? = some (.cells c t (0, 0)) ∧ c[0]? = some v := by
    intro g hg
    obtain ⟨_, h2, _, c, t, h4⟩ := hy g hg
    simp only [World.cell?, h4] at h2
    split at h2
    · cases h2
    · rename_i hs
      refine ⟨?_, c, t, ?_⟩
      · have : (y g).1.spot = none := by simpa using hs
        simp only [bk]
        cases hyg : (y g).1
        rw [hyg] at this
        simp only at this
        rw [this]
      · have hlt : (y g).1.off < c.size := (Array.getElem?_eq_some_iff.1 h2).1
        exact ⟨c[0]'(by omega), h4, by simp⟩
  refine ⟨G, bk, ⟨fun g hg => ?_, fun g hg => ?_, fun g h hg hh he => ?_⟩, fun b v hb => ?_⟩
  · obtain ⟨⟨c, t, h1, h2⟩, _⟩ := hy g hg
    simp only [G]
    rw [if_pos (.inl hg), h1]
    simp only
    rw [h2, (hspot g hg).1]
  · obtain ⟨_, c, t, v, h1, h2⟩ := hspot g hg
    simp only [G]
    rw [if_pos (.inr ⟨g, hg, rfl⟩), h1]
    simp only
    rw [h2]; rfl
  · have e1 : (y g).1 = (y h).1 := by
      rw [(hspot g hg).1, (hspot h hh).1, he]
    obtain ⟨_, k1, k2, _⟩ := hy g hg
    obtain ⟨_, k3, k4, _⟩ := hy h hh
    rw [e1, k3] at k1
    simp only [Option.some.injEq, Value.string.injEq] at k1
    rcases (hc g hg).2 h hh with h5 | h5
    · exact h5
    · exact absurd (by rw [k2, k4, k1]) h5
  · simp only [G] at hb
    split at hb
    · rename_i hor
      have : ∃ c t, W.heap[b]? = some (.cells c t (0, 0)) := by
        rcases hor with h1 | ⟨g, hg, rfl⟩
        · obtain ⟨⟨c, t, h1, _⟩, _⟩ := hy b h1
          exact ⟨c, t, h1⟩
        · obtain ⟨_, c, t, v, h1, _⟩ := hspot g hg
          exact ⟨c, t, h1⟩
      obtain ⟨c, t, h1⟩ := this
      rw [h1] at hb
      simp only at hb
      exact ⟨⟨c, t, h1, hb⟩, (Array.getElem?_eq_some_iff.1 h1).1⟩
    · cases hb
theorem h1b : ∀ g, g < 21 → gn (cn g) = g := by decide
theorem f0j : ∀ g, g < 21 → gn g < 21 := by decide
theorem f9j : ∀ g, g < 21 → ∀ h, h < 21 → gn g = gn h → g = h := by decide
theorem d4w {laid : List (String × DataW Unit)} {W : World} (h : laidMet pg laid W) (hc : f9n laid = true) : ∃ G bk, Sent G bk ∧ ∀ g v, G g = some v → GC W g v ∧ g < W.heap.size := by
  obtain ⟨G, bk, ⟨h1, h2, h3⟩, h4⟩ := d3q (L := List.range 21) (fun g hg => List.mem_range.1 hg) h hc
  refine ⟨G, fun c => bk (gn c), ⟨fun g hg => ?_, fun g hg => h2 _ (List.mem_range.2 (f0j g hg)), fun g k hg hk he => f9j g hg k hk (h3 _ _ (List.mem_range.2 (f0j g hg)) (List.mem_range.2 (f0j k hk)) he)⟩, h4⟩
  simp only [h1b g hg]
  exact h1 g (List.mem_range.2 hg)
end Go.Ideal.Tryz
end
section
set_option linter.unusedVariables false
set_option linter.unusedSimpArgs false
namespace Go.Ideal
open Go.ChangeShapes Go.RowKit Classical
section
variable {H : Type} {e : TypeId × Value → H} {P : Program} {w : World}
def RdF (e : TypeId × Value → H) (P : Program) (w : World) (T : Type) (ts : List (TypeId × Nat)) (o total : Nat) (enc : T → List AV) (ok : T → Prop) : Prop :=
  ∀ (n : Nat) (cs : List Value) (xs : List (DataW H × List MemPlace)), cs.length = total → xs.length = ts.length →
    (∀ (i : Nat) (p : TypeId × Nat), ts[i]? = some p → DataW.trod e P w 0 (fun _ => true) true n p.1 ((cs.drop p.2).take (P.cellsOf p.1)) = xs[i]?) →
    (DataW.weightsEach P (ts.map (·.1)) (xs.map (·.1))).all (· ≤ reachBytes) = true → ∃ x, ok x ∧ RL w (fun b => b < w.heap.size) (enc x) noQ noB (cs.drop o) ∧ C1 (cs.drop o)
theorem RdF.nil {o : Nat} : RdF e P w Unit [] o o (fun _ => []) (fun _ => True) := by
  intro n cs xs hl _ _ _
  refine ⟨(), trivial, ?_, fun u hu => ?_⟩
  · rw [List.drop_of_length_le (by omega)]; simp [RL]
  · rw [List.drop_of_length_le (by omega)] at hu; simp at hu
theorem RdF.cons {T U : Type} {t : TypeId} {k : Nat} {ts : List (TypeId × Nat)} {o total : Nat} {enc : T → List AV} {ok : T → Prop} {enc' : U → List AV} {ok' : U → Prop} (hk : P.cellsOf t = k) (h : Rd e P w T t enc ok) (hr : RdF e P w U ts (o + k) total enc' ok') :
    RdF e P w (T × U) ((t, o) :: ts) o total (fun p => enc p.1 ++ enc' p.2) (fun p => ok p.1 ∧ ok' p.2) := by
  intro n cs xs hl hx ht hw
  cases xs with
  | nil => simp at hx
  | cons y ys =>
    simp only [List.map_cons, DataW.weightsEach, List.all_append, Bool.and_eq_true] at hw
    have h0 := ht 0 (t, o) rfl
    simp only [List.getElem?_cons_zero, hk] at h0
    obtain ⟨x, ox, rx, cx⟩ := h n _ y.1 y.2 h0 hw.1
    obtain ⟨z, oz, rz, cz⟩ := hr n cs ys hl (by simpa using hx) (fun i p hp => by simpa using ht (i + 1) p (by simpa using hp)) hw.2
    have e1 : cs.drop o = (cs.drop o).take k ++ cs.drop (o + k) := by rw [← List.drop_drop]; exact (List.take_append_drop _ _).symm
    refine ⟨(x, z), ⟨ox, oz⟩, ?_, fun u hu => ?_⟩
    · rw [e1]
      exact a26 (fun b hb => hb.elim (fun h => h) fun h => h) (a1m rx rz fun b hb => hb.elim)
    · rw [e1] at hu
      rcases List.mem_append.1 hu with hu | hu
      · exact cx u hu
      · exact cz u hu
def c5z (P : Program) (t : TypeId) (l : List (TypeId × Nat)) : Bool := match P.underlying t with
  | some (.struct fs) => fs.toList.map (fun f => (f.type, f.offset)) == l
  | _ => false
theorem Rd.struct {T : Type} {t : TypeId} {l : List (TypeId × Nat)} {total : Nat} {enc : T → List AV} {ok : T → Prop} (hs : c5z P t l = true) (hc : P.cellsOf t = total) (hF : RdF e P w T l 0 total enc ok) : Rd e P w T t enc ok := by
  intro fuel cs d ps h hw
  unfold c5z at hs
  split at hs
  · rename_i fs ht
    simp only [beq_iff_eq] at hs
    obtain ⟨xs, n, _, hx, hl, hxl, hf⟩ := DataW.trod_struct ht h
    simp only [Prod.mk.injEq] at hx
    obtain ⟨rfl, _⟩ := hx
    simp only [DataW.weights, ht] at hw
    have := hF n cs xs (by rw [hl, hc]) (by rw [hxl, ← hs]; simp) (fun i p hp => by
      rw [← hs] at hp
      simp only [List.getElem?_map, Option.map_eq_some_iff] at hp
      obtain ⟨f, hfi, rfl⟩ := hp
      exact hf i f (by simpa using hfi)) (by
      rw [← hs, List.map_map]
      exact hw)
    simpa using this
  · cases hs
theorem Rd.map {T U : Type} {t : TypeId} {enc : T → List AV} {ok : T → Prop} {enc' : U → List AV} {ok' : U → Prop} (h : Rd e P w T t enc ok) (f : T → U) (henc : ∀ x, enc' (f x) = enc x) (hok : ∀ x, ok x → ok' (f x)) : Rd e P w U t enc' ok' := by
  intro fuel cs d ps h1 h2
  obtain ⟨x, a, b, c⟩ := h fuel cs d ps h1 h2
  exact ⟨f x, hok x a, by rw [henc]; exact b, c⟩
theorem e6z {t : TypeId} {v : Value} {l : List (TypeId × Nat)} {r : Reach} {base : Nat} {ks : List AV} (hs : c5z P t l = true) (hv : Value.okWide P w r base t v) (hr : RL w (fun b => b < w.heap.size) ks noQ noB v.cells.toList) (hc : C1 v.cells.toList) : R w (fun b => b < w.heap.size) (.agg ks) noQ noB v := by
  unfold c5z at hs
  split at hs
  · rename_i fs ht
    unfold Value.okWide at hv
    rw [ht] at hv
    obtain ⟨cs, rfl, _⟩ := hv
    simp only [R]
    exact ⟨cs, rfl, hc, hr⟩
  · cases hs
end
end Go.Ideal
end
