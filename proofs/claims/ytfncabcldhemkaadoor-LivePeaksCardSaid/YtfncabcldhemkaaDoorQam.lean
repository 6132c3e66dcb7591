/- Part Qam of the proof: a machine with trees for values, its soundness, and walks on it. -/
import Derived.Test.YtfncabcldhemkaaDoorQal
import Derived.Test.YtfncabcldhemkaaDoorQai
import Derived.Test.YtfncabcldhemkaaDoorQag
set_option linter.unusedVariables false
set_option linter.unusedSimpArgs false
set_option maxRecDepth 200000
section
namespace Go.Ideal.Tryd
attribute [local go_sem] eD eT eV eI eP
section
variable {G : GG} {bk : Nat -> Nat × Nat} {Q : Exit -> St -> Prop} {st : St}
def Er.snt (e : Er) : Prop := e = .nil \/ ∃ g, g < 21 /\ e = .s g
theorem d3q {g : Nat} (h : g < 21) : (Er.s g).snt := .inr ⟨g, h, rfl⟩
theorem b3n : Er.nil.snt := .inl rfl
theorem e4f (sh : List Int) : (a08 sh).snt := by
 rcases a5g sh with h | h | h <;> rw [h]
 ·exact b3n
 ·exact d3q (by decide)
 ·exact d3q (by decide)
def SB (r : Dr) : Prop := r.2.snt
theorem a8q {sh : List Int} {r : Dr} (h : SB r) : SB (chk (a08 sh) r) := by unfold chk; split; exact h; exact e4f sh
theorem c4b {g : Nat} (h : g < 21) : SB (bad g) := d3q h
theorem b9o {r : Dr} (h : SB r) : ∀ {l : List Ds}, SB (b5l l r)
 | [] => h
 | d :: ds => a8q (b9o h)
theorem a52 {c : Prop} [Decidable c] {a b : Dr} (h : SB a) (h2 : SB b) : SB (if c then a else b) := by split; exact h; exact h2
theorem c4c {d : Ds} : SB (d, .nil) := b3n
theorem b9p {sh : List Int} {w : Bool} : SB (b3j sh w) := a8q c4c
theorem d23 {op : Int} {args : List Int} {ins : List Ds} : (opR op args ins).2.snt := by
 have b3 : SB (bad 3) := c4b (by decide)
 have b5 : SB (bad 5) := c4b (by decide)
 have b6 : SB (bad 6) := c4b (by decide)
 show SB (opR op args ins)
 unfold opR
 refine a52 (a52 ?_ b6) b5
 refine a52 (a8q (a8q (a52 (a52 b9p b3) b6))) ?_
 refine a52 (a8q (a8q (a52 (a52 (a52 b9p b6) b3) b6))) ?_
 refine a52 (a8q (a52 (a52 (a52 c4c b6) b3) b6)) ?_
 refine a52 (b9o (a52 b9p b6)) ?_
 refine a52 (a8q (a8q (a52 c4c b6))) ?_
 refine a52 (a8q (a52 c4c b6)) ?_
 exact b9o (a52 b6 (a52 c4c b3))
def Around (G : GG) (bk : Nat -> Nat × Nat) : Prop := (∀ (k : Int) (g : Nat), g < 21 -> ACalls pg G a4f [li k, a0v bk (.s g)] (a0v bk (.at k (.s g)))) /\ ∀ (k q : Int) (g : Nat), g < 21 -> ACalls pg G a4f [li k, a0v bk (.at q (.s g))] (a0v bk (.at k (.s g)))
def Er.wb (e : Er) : Prop := e = .nil \/ (∃ g, g < 21 /\ e = .s g) \/ ∃ p g, g < 21 /\ e = .at p (.s g)
theorem Er.snt.wb {e : Er} (h : e.snt) : e.wb := h.elim .inl fun h => .inr (.inl h)
theorem Around.ofw {G : GG} {bk : Nat -> Nat × Nat} (h : Around G bk) {e : Er} (he : e.wb) (hn : e.isNil = false) (k : Int) : ACalls pg G a4f [li k, a0v bk e] (a0v bk (atE k e)) := by
 rcases he with rfl | ⟨g, hg, rfl⟩ | ⟨q, g, hg, rfl⟩
 ·simp [Er.isNil] at hn
 ·exact h.1 k g hg
 ·exact h.2 k q g hg
theorem Around.of {G : GG} {bk : Nat -> Nat × Nat} (h : Around G bk) {e : Er} (he : e.snt) (hn : e.isNil = false) (k : Int) : ACalls pg G a4f [li k, a0v bk e] (a0v bk (atE k e)) := h.ofw he.wb hn k
theorem c4e {k : Int} {e : Er} : (atE k e).isNil = e.isNil := by cases e <;> rfl
theorem b4l {α : Type} {f : α -> Er} : ∀ {xs : List α} {k : Int}, (b4k f xs k).isNil = true -> ∀ x ∈ xs, (f x).isNil = true
 | [], _, _, x, hx => by simp at hx
 | y :: ys, k, h, x, hx => by
  simp only [b4k] at h
  cases hy : (f y).isNil
  ·rw [hy, if_neg (by simp), c4e, hy] at h; cases h
  ·rw [hy, if_pos rfl] at h
   rcases List.mem_cons.1 hx with rfl | hx
   ·exact hy
   ·exact b4l h x hx
theorem d26 {a b : Er} (h : (orE a b).isNil = true) : a.isNil = true /\ b.isNil = true := by
 unfold orE at h
 cases ha : a.isNil
 ·rw [ha, if_neg (by simp), ha] at h; cases h
 ·rw [ha, if_pos rfl] at h; exact ⟨rfl, h⟩
theorem c3o {p : Pl} (h : (a6p p).isNil = true) : p.views.length <= 128 /\ p.code.length <= 2048 /\ (0 <= p.size /\ p.size <= 65536) /\ (∀ v ∈ p.views, 0 <= v.off /\ v.off + a38 v.shape v.wide <= p.size /\ (a08 v.shape).isNil = true) := by
 unfold a6p at h
 split at h
 ·cases h
 ·split at h
  ·cases h
  ·refine ⟨by omega, by omega, by omega, fun v hv => ?_⟩
   have h1 := b4l (d26 h).1 v hv
   unfold e4y at h1
   split at h1
   ·split at h1
    ·exact ⟨by omega, by omega, by assumption⟩
    ·cases h1
   ·rename_i hn; exact absurd h1 hn
theorem PlL.b {p : Pl} (h : PlL p) (hP : (a6p p).isNil = true) : PlB p := by
 have hf := c3o hP
 refine ⟨h.views, h.consts, h.weights, h.code, fun v hv => ⟨h.v v hv, ?_⟩, h.c, h.w⟩
 have := hf.2.2.2 v hv
 have := c2t v.shape v.wide
 omega
end
end Go.Ideal.Tryd
end
section
namespace Go.Ideal.Tryd
def a8r : IC := (.seq (.reg [oo 4 (.asg (.c .nilIface))]) (.seq (.reg [om 5 0,
 om 6 1,
 oc 7 39 [(false, (.t 5)), (false, (.t 6))] [3, 45],
 oo 4 (.asg (.t 7))]) .ret))
abbrev b3z : Nat := 49
theorem b0h : fnC pg 49 8 [(.tmp 4)] a8r := a09 Go.Proofs.Tryd.f49 [(.tmp 4)] (by kernel_rfl)
@[go_sem] theorem c3x : fnB pg 49 = true := by kernel_rfl
theorem c7t {G : GG} {bk : Nat -> Nat × Nat} (hA : Around G bk) {e : Er} (he : e.wb) (hn : e.isNil = false) (k : Int) : ACalls pg G b3z [li k, a0v bk e] (a0v bk (atE k e)) := by
 refine b0h rfl ?_
 simp (disch := omega) [go_sem, a8r]
 refine a0m (hA.ofw he hn k) (a0t _) (by simp (disch := omega) [go_sem]) ?_
 simp (disch := omega) [go_sem]
end Go.Ideal.Tryd
end
section
namespace Go.Ideal.Tryd
theorem b21 {l : Lk} {n : Nd} : (a3c l n).2.descs = l.descs /\ (a3c l n).2.ord = l.ord := by
 unfold a3c inR wtR
 repeat' split
 all_goals exact ⟨rfl, rfl⟩
theorem c11 : ∀ {keys : List Int} {vals : List Ds} {n : Int} {x d : Ds}, d ∈ (b7w keys vals n x).2 -> d = x \/ d ∈ vals
 | [], _, n, x, d, h => by simp [b7w] at h; exact .inl h
 | k :: ks, [], n, x, d, h => by simp [b7w] at h; exact .inl h
 | k :: ks, v :: vs, n, x, d, h => by
  simp only [b7w] at h
  split at h
  ·rcases List.mem_cons.1 h with h | h
   ·exact .inl h
   ·exact .inr (by simp [h])
  ·rcases List.mem_cons.1 h with h | h
   ·exact .inr (by simp [h])
   ·rcases c11 h with h | h
    ·exact .inl h
    ·exact .inr (by simp [h])
theorem b8d {l : Lk} {n : Nd} (hf : l.fin) (hn : n.sh) : (a3c l n).2.fin := by
 obtain ⟨f1, f2, f3, f4⟩ := hf
 have hL : ∀ a, (a3u n.args a).1.shape.length < 2 ^ 36 := fun a => a9s hn.args
 unfold a3c
 split
 ·exact ⟨f1, f2, f3, f4⟩
 split
 ·exact ⟨f1, f2, f3, f4⟩
 split
 ·exact ⟨f1, f2, f3, f4⟩
 split
 ·unfold inR
  split
  ·split
   ·exact ⟨f1, f2, f3, f4⟩
   ·exact ⟨f1, hL 0, f3, f4⟩
  ·exact ⟨f1, f2, f3, f4⟩
 split
 ·unfold wtR
  split
  ·exact ⟨f1, f2, f3, f4⟩
  split
  ·exact ⟨f1, f2, f3, f4⟩
  split
  ·split
   ·rename_i hk _ _
    refine ⟨f1, f2, fun d hd => ?_, ?_⟩
    ·rcases c11 hd with rfl | hd
     ·exact hL 1
     ·exact f3 d hd
    ·simp only [List.length_set, b6a, List.length_append, List.length_replicate]
     omega
   ·exact ⟨f1, f2, f3, f4⟩
  ·exact ⟨f1, f2, f3, f4⟩
 split
 ·exact ⟨f1, f2, f3, f4⟩
 split
 ·exact ⟨f1, f2, f3, f4⟩
 ·exact ⟨f1, f2, f3, f4⟩
theorem b8e {l : Lk} {n : Nd} (hf : l.fin) (hn : n.sh) (hi : a2q n.op = true -> ∀ k ∈ n.ins, 0 <= k /\ k < l.descs.length) : (a3c l n).1.1.shape.length < 2 ^ 40 := by
 have hL : ∀ a, (a3u n.args a).1.shape.length < 2 ^ 36 := fun a => a9s hn.args
 have hs := hn.shape
 have ha := hn.args
 unfold a3c
 split
 ·rename_i hk
  refine d21 (fun d hd => ?_) (by omega)
  simp only [lkD, List.mem_map] at hd
  obtain ⟨k, hk2, rfl⟩ := hd
  obtain ⟨h1, h2⟩ := hi hk k hk2
  have hlt : k.toNat < l.descs.length := by omega
  simp only [hlt, getElem!_pos]
  exact hf.descs _ (List.getElem_mem hlt)
 split
 ·simp [bad, dn]
 split
 ·simp [bad, dn]
 split
 ·have := hL 0
  unfold inR
  split
  ·split
   ·simp [bad, dn]
   ·simp only; omega
  ·simp [dn]
 split
 ·have := hL 1
  unfold wtR
  split
  ·simp [bad, dn]
  split
  ·simp [bad, dn]
  split
  ·split
   ·simp only; omega
   ·simp [bad, dn]
  ·simp [dn]
 split
 ·simp [bad, dn]
 split
 ·simp only; omega
 ·simp [dn]
theorem c4s {sh : List Int} : (a08 sh).snt := by
 rcases a5g sh with h | h | h <;> rw [h]
 ·exact b3n
 ·exact .inr ⟨2, by decide, rfl⟩
 ·exact .inr ⟨3, by decide, rfl⟩
theorem a9t {args : List Int} {a : Nat} : (a3u args a).2.snt := by
 unfold a3u
 split
 ·exact .inr ⟨6, by decide, rfl⟩
 split
 ·exact .inr ⟨3, by decide, rfl⟩
 ·unfold chk
  split
  ·exact b3n
  ·exact c4s
theorem c9d {l : Lk} {n : Nd} : (a3c l n).1.2.wb := by
 unfold a3c
 split
 ·exact d23.wb
 split
 ·exact .inr (.inl ⟨5, by decide, rfl⟩)
 split
 ·exact .inr (.inl ⟨6, by decide, rfl⟩)
 split
 ·unfold inR
  split
  ·split
   ·exact .inr (.inl ⟨6, by decide, rfl⟩)
   ·exact a9t.wb
  ·exact a9t.wb
 split
 ·unfold wtR
  split
  ·exact .inr (.inl ⟨6, by decide, rfl⟩)
  split
  ·exact .inr (.inl ⟨3, by decide, rfl⟩)
  split
  ·split
   ·exact a9t.wb
   ·exact .inr (.inl ⟨6, by decide, rfl⟩)
  ·exact a9t.wb
 split
 ·exact .inr (.inl ⟨6, by decide, rfl⟩)
 split
 ·exact b3n.wb
 ·exact c1e n.shape n.wide n.data
end Go.Ideal.Tryd
end
section
namespace Go.Ideal.Tryd
attribute [local go_sem] eD
instance : Inhabited Nd := ⟨⟨0, [], [], [], false, []⟩⟩
structure Sn where
 ord : List Int
 descs : List Ds
 hin : Ds
 ws : List Ds
def sn0 : Sn := ⟨[], [], dn, []⟩
def eSn (s : Sn) : List AV := [slI s.ord, slD s.descs, slI s.hin.shape, lb s.hin.wide, slD s.ws]
def Lk.sn (l : Lk) : Sn := ⟨l.ord, l.descs, l.hin, l.ws⟩
def a2o (ns : List Nd) : Lk -> List Int -> Sn × Er
 | l, [] => (l.sn, .nil)
 | l, i :: is => if (a3c l ns[i.toNat]!).1.2.isNil = true then a2o ns { (a3c l ns[i.toNat]!).2 with descs := (a3c l ns[i.toNat]!).2.descs.set i.toNat (a3c l ns[i.toNat]!).1.1 } is else (sn0, atE i (a3c l ns[i.toNat]!).1.2)
def lk0 (ord : List Int) (n : Nat) : Lk := ⟨ord, List.replicate n dn, dn, [], false, [], []⟩
def ofR (g : Gr) : Sn × Er :=
 if 64 < g.nodes.length then (sn0, .s 2)
 else if g.out < 0 \/ g.nodes.length <= g.out then (sn0, .s 0)
 else match a7x (g.nodes.map (·.ins)) with
  | .error e => (sn0, .at e.1 (.s e.2))
  | .ok ord => a2o g.nodes (lk0 ord g.nodes.length) ord
section
variable {G : GG} {bk : Nat -> Nat × Nat} {Q : Exit -> St -> Prop} {st : St}
abbrev zSn : AV := .var [.own 1 0 [], .own 2 0 [], .own 1 0 [], lb false, .own 2 0 []]
theorem f3d {g : Gr} (hl : g.nodes.length <= 64)
  (h : st.s 1 = .var [slN g.nodes, li g.out] /\ st.s 2 = zSn /\ st.s 3 = .lit .nilIface /\ st.s 4 = .own 1 0 [] /\ st.s 33 = slN g.nodes /\ st.s 34 = li g.nodes.length /\ st.s 35 = li 0)
  (hex : ∀ s : St, s.s 1 = .var [slN g.nodes, li g.out] /\ s.s 2 = zSn /\ s.s 3 = .lit .nilIface /\ s.s 4 = .own 1 g.nodes.length ((g.nodes.map (·.ins)).map slI) -> Q (.exit 0) s) : AW pg G 108 (.loop a63) Q st := by
 refine a06 Nat (fun j st => j <= g.nodes.length /\ st.s 1 = .var [slN g.nodes, li g.out] /\ st.s 2 = zSn /\ st.s 3 = .lit .nilIface /\ st.s 4 = .own 1 j (((g.nodes.take j).map (·.ins)).map slI) /\ st.s 33 = slN g.nodes /\ st.s 34 = li g.nodes.length /\ st.s 35 = li j) (fun j => g.nodes.length - j) 0 ⟨by omega, by simpa using h⟩ ?_
 clear h
 rintro j st K ⟨hj, h⟩ hK
 by_cases c : j < g.nodes.length
 ·have e2 : ((g.nodes.take (j + 1)).map (·.ins)).map slI = ((g.nodes.take j).map (·.ins)).map slI ++ [slI g.nodes[j].ins] := by
   rw [List.take_succ_eq_append_getElem c, List.map_append, List.map_append]; rfl
  have ht : (((g.nodes.take j).map (·.ins)).map slI).take j = ((g.nodes.take j).map (·.ins)).map slI := List.take_of_length_le (by simp; omega)
  generalize hv : ((g.nodes.take j).map (·.ins)).map slI = v at *
  simp (disch := omega) [go_sem, a63, h, c, ht]
  refine hK (j + 1) _ ⟨by omega, ?_⟩ (by omega)
  rw [e2]
  simp (disch := omega) [go_sem, h, ht]
 ·have : j = g.nodes.length := by omega
  subst this
  rw [List.take_length] at h
  generalize hv : (g.nodes.map (·.ins)).map slI = v at *
  simp (disch := omega) [go_sem, a63, h]
  exact hex _ (by simp (disch := omega) [go_sem, h])
theorem d3e {n : Nat} : a7g n [.sl 0 [], .lit (.bool false)] = fm eD (List.replicate n dn) := by
 induction n with
 | zero => rfl
 | succ n ih => rw [List.replicate_succ, a3o, <- ih]; simp [a7g, List.replicate_succ, eD, dn]
theorem f3e (hS : SentO G bk) (hA : Around G bk) {g : Gr} (hf : ∀ n ∈ g.nodes, n.sh) (hl : g.nodes.length <= 64) {ord : List Int} (hord : ∀ x ∈ ord, 0 <= x /\ x < (g.nodes.length : Int)) (hlo : ord.length < 2 ^ 36)
  (hins : ∀ n ∈ g.nodes, ∀ k ∈ n.ins, 0 <= k /\ k < (g.nodes.length : Int)) {l0 : Lk} (hl0 : l0.fin) (hd0 : l0.descs.length = g.nodes.length)
  (h : st.s 1 = .var [slN g.nodes, li g.out] /\ st.s 2 = zSn /\ st.s 3 = .lit .nilIface /\ st.s 7 = .var (eLk l0) /\ st.s 73 = slI ord /\ st.s 74 = li ord.length /\ st.s 75 = li 0)
  (hret : ∀ e, a2o g.nodes l0 ord = (sn0, e) -> ∀ s : St, s.s 2 = .var (eSn sn0) /\ s.s 3 = a0v bk e -> Q .ret s)
  (hex : ∀ l, a2o g.nodes l0 ord = (l.sn, .nil) -> ∀ s : St, s.s 2 = zSn /\ s.s 7 = .var (eLk l) -> Q (.exit 2) s) : AW pg G 108 (.loop a64) Q st := by
 refine a06 (Nat × Lk) (fun p st => p.1 <= ord.length /\ p.2.fin /\ p.2.descs.length = g.nodes.length /\ a2o g.nodes p.2 (ord.drop p.1) = a2o g.nodes l0 ord /\ st.s 1 = .var [slN g.nodes, li g.out] /\ st.s 2 = zSn /\ st.s 3 = .lit .nilIface /\ st.s 7 = .var (eLk p.2) /\ st.s 73 = slI ord /\ st.s 74 = li ord.length /\ st.s 75 = li p.1) (fun p => ord.length - p.1) (0, l0) ⟨by simp, hl0, hd0, by simp, h⟩ ?_
 clear h
 rintro ⟨j, l⟩ st K ⟨hj, hfl, hd, hm, h⟩ hK
 simp only at hj hfl hd hm h
 by_cases c : j < ord.length
 ·have hx := hord _ (List.getElem_mem c)
  obtain ⟨i, hi⟩ : ∃ i : Nat, ord[j] = i := ⟨ord[j].toNat, by omega⟩
  rw [hi] at hx
  have hin : i < g.nodes.length := by omega
  have hmem := List.getElem_mem hin
  have hn := hf _ hmem
  have spec := e2r hS l g.nodes[i] hfl hn (fun _ k hk => by rw [hd]; exact hins _ hmem k hk)
  rw [List.drop_eq_getElem_cons c, a2o, hi, show g.nodes[((i : Int)).toNat]! = g.nodes[i] by simp [hin]] at hm
  have hfin := b8d hfl hn
  have hlen := b8e hfl hn (fun _ k hk => by rw [hd]; exact hins _ hmem k hk)
  have hwb := c9d (l := l) (n := g.nodes[i])
  have hde := (b21 (l := l) (n := g.nodes[i])).1
  generalize hr : a3c l g.nodes[i] = r at *
  obtain ⟨⟨d, e⟩, l2⟩ := r
  simp only at hm hfin hlen hwb hde
  simp only [a5u] at spec
  simp (disch := omega) [go_sem, a64, h, c, hi, hin]
  refine b5m spec rfl rfl rfl (by simp (disch := omega) [go_sem, h]) ?_
  cases he : e.isNil with
  | false =>
   simp (disch := omega) [go_sem, h, he, a0g]
   refine a0m (c7t hA hwb he i) (a0t _) (by simp (disch := omega) [go_sem, h]) ?_
   simp (disch := omega) [go_sem, h, he, a0g]
   refine hret (atE i e) (by rw [<- hm]; simp [he]) _ (by simp (disch := omega) [go_sem, h, sn0, eSn, dn, a8t])
  | true =>
   simp (disch := omega) [go_sem, h, he, a0g, eLk]
   have hi2 : i < l2.descs.length := by rw [hde, hd]; exact hin
   have hi3 : i * 2 + 2 <= l2.descs.length * 2 := by omega
   refine a0b ?_
   simp (disch := omega) [go_sem, h, hi2, hi3]
   refine a0d (by decide) fun s3 hs3 hep3 => ?_
   simp (disch := omega) [go_sem, hs3, hep3, h, hi2, hi3, c1q]
   simp only [he, if_true, Int.toNat_natCast] at hm
   refine hK (j + 1, { l2 with descs := l2.descs.set i d }) _ ⟨by simp only; omega, ⟨fun x hx => ?_, hfin.hin, hfin.vals, hfin.ws⟩, by simp only [List.length_set]; rw [hde]; exact hd, hm, ?_⟩ (by simp only; omega)
   ·rcases List.mem_or_eq_of_mem_set hx with hx | rfl
    ·exact hfin.descs _ hx
    ·exact hlen
   ·simp (disch := omega) [go_sem, hs3, hep3, h, hi2, hi3, c1q, eLk]
 ·have : j = ord.length := by omega
  subst this
  simp (disch := omega) [go_sem, a64, h]
  rw [List.drop_length, a2o] at hm
  exact hex l hm.symm _ (by simp (disch := omega) [go_sem, h])
theorem g0f (hS : SentO G bk) (hA : Around G bk) (g : Gr) (hf : ∀ n ∈ g.nodes, n.sh) (hn : g.nodes.length < 2 ^ 36) (htot : tot (g.nodes.map (·.ins)) < 2 ^ 40) : ACalls pg G c2o [d5p g] (.tup [.agg (eSn (ofR g).1), a0v bk (ofR g).2]) := by
 have h2 := hS.val 2 (by decide)
 have h0 := hS.val 0 (by decide)
 refine b57 rfl ?_
 by_cases c1 : 64 < g.nodes.length
 ·have c1' : (64 : Int) < g.nodes.length := by omega
  simp (disch := omega) [go_sem, a6n, c1, c1']
  refine a0b ?_
  simp (disch := omega) [go_sem, h2]
  refine a0d (by decide) fun s2 hs hep => ?_
  simp (disch := omega) [go_sem, hs, ofR, c1, sn0, eSn, dn, a0v, a8t]
 have c1' : ¬ (64 : Int) < g.nodes.length := by omega
 by_cases c2 : g.out < 0
 ·simp (disch := omega) [go_sem, a6n, c1, c1', c2]
  refine a0b ?_
  simp (disch := omega) [go_sem, h0]
  refine a0d (by decide) fun s2 hs hep => ?_
  simp (disch := omega) [go_sem, hs, ofR, c1, c2, sn0, eSn, dn, a0v, a8t]
 by_cases c3 : g.nodes.length <= g.out
 ·simp (disch := omega) [go_sem, a6n, c1, c1', c2, c3]
  refine a0b ?_
  simp (disch := omega) [go_sem, h0]
  refine a0d (by decide) fun s2 hs hep => ?_
  simp (disch := omega) [go_sem, hs, ofR, c1, c2, c3, sn0, eSn, dn, a0v, a8t]
 simp (disch := omega) [go_sem, a6n, c1, c1', c2, c3]
 refine f3d (g := g) (by omega) (by simp (disch := omega) [go_sem]) (fun s h => ?_)
 have spec := e4g hS (g.nodes.map (·.ins)) (by simp; omega) htot
 have hz : a1n ((g.nodes.map (·.ins)).map slI) = (g.nodes.map (·.ins)).map slI := by simp [go_sem]
 simp only [a9e, List.length_map] at spec
 generalize hv : (g.nodes.map (·.ins)).map slI = v at *
 have ht : v.take g.nodes.length = v := List.take_of_length_le (by rw [<- hv]; simp)
 simp (disch := omega) [go_sem, h, ht, hz]
 cases ho : a7x (g.nodes.map (·.ins)) with
 | error e =>
  rw [ho] at spec
  refine a6y spec (by simp [c8c, go_sem, a0r]) ?_ ?_ <;>
  simp (disch := omega) [go_sem, c8c, h, a0g, ofR, c1, c2, c3, ho, sn0, eSn, dn, a8t, Er.isNil]
 | ok ord =>
  rw [ho] at spec
  refine a0j spec (by simp [c8c, go_sem, a0r]) (by simp [c8c, a0x, a04, a2c]) ?_
  have hx := a9y (ins := g.nodes.map (·.ins)) (fun r hr => by
   obtain ⟨n, hn2, rfl⟩ := List.mem_map.1 hr
   have := (hf n hn2).ins
   omega) ho
  have hlen := b8k (ins := g.nodes.map (·.ins)) (fun r hr => by
   obtain ⟨n, hn2, rfl⟩ := List.mem_map.1 hr
   have := (hf n hn2).ins
   omega) ho
  simp only [List.length_map] at hx hlen
  simp (disch := omega) [go_sem, c8c, h, a0g, d3e]
  refine f3e hS hA (g := g) hf (by omega) (ord := ord) hx.2.2.1 (by omega) (fun n hn2 => hx.2.2.2.2 _ (List.mem_map.2 ⟨n, hn2, rfl⟩)) (l0 := lk0 ord g.nodes.length) ⟨?_, by simp [lk0, dn], by simp [lk0], by simp [lk0]⟩ (by simp [lk0]) (by simp (disch := omega) [go_sem, h, lk0, eLk, a8t, dn]) (fun e hm s h => ?_) (fun l hm s h => ?_)
  ·intro d hd
   simp only [lk0, List.mem_replicate] at hd
   rw [hd.2]; simp [dn]
  ·have e1 : eSn sn0 = [.sl 0 [], .sl 0 [], .sl 0 [], lb false, .sl 0 []] := rfl
   rw [e1] at h
   simp (disch := omega) [go_sem, h, ofR, c1, c2, c3, ho, hm, e1]
  ·simp only [eLk] at h
   simp (disch := omega) [go_sem, h, a0g, ofR, c1, c2, c3, ho, hm, eSn, Lk.sn, a0v]
end
end Go.Ideal.Tryd
end
section
namespace Go.Ideal.Tryd
def a12 : IC := (.seq (.seq (.reg [om 29 9,
 om 30 0,
 oo 31 (.bin .lss 3 0 (.t 29) (.t 30) 3)]) (.cond (.t 31) .skip (.exit 0))) (.seq (.block 1 (.reg [oo 34 (.faddr 59 0 (.t 8) 0),
 oo 35 (.load 57 none (.t 34)),
 om 36 9,
 oo 37 (.bslice 24 3 1 1 [.lit (.int .i64 0)] [(0, (.t 36))]),
 oo 38 (.build 73 [.lit (.int .i64 0), .own 1 0 [], .own 1 0 [], .own 1 0 [], .lit (.bool false), .own 1 0 []] [(0, 0, 1, (.n 8)), (1, 1, 1, (.t 37))]),
 oo 39 (.bslice 57 73 6 1 [.lit (.int .i64 0), .own 1 0 [], .own 1 0 [], .own 1 0 [], .lit (.bool false), .own 1 0 []] [(0, (.t 38))]),
 oo 40 (.app 57 73 6 112 (.t 35) (.t 39)),
 oo 41 (.faddr 59 0 (.t 8) 0),
 ov (.store 57 1 (.t 41) (.t 40))])) (.reg [om 32 9,
 oo 33 (.bin .add 3 0 (.t 32) (.n 1) 3),
 oo 9 (.asg (.t 33))])))
def a4n : IC := (.seq (.reg [oo 6 (.asg (.c (.bool false)))]) (.seq (.reg [oc 15 24 [] [],
 oo 7 (.asg (.t 15))]) (.seq (.seq (.reg [om 16 7,
 oo 17 (.un .not 4 (.t 16))]) (.cond (.t 17) (.seq (.reg [oo 6 (.asg (.c (.bool false)))]) .ret) .skip)) (.seq (.reg [om 18 0,
 oc 19 12 [(false, (.t 18)), (false, (.n 50))] [3, 3],
 oo 20 (.bin .add 3 0 (.t 19) (.n 2) 3),
 oo 0 (.asg (.t 20))]) (.seq (.reg [om 21 1,
 oc 22 12 [(false, (.t 21)), (false, (.n 100))] [3, 3],
 oo 23 (.bin .add 3 0 (.t 22) (.n 1) 3),
 oo 1 (.asg (.t 23))]) (.seq (.reg [om 24 1,
 oo 25 (.bslice 24 3 1 2 [.lit (.int .i64 0)] [(0, (.n 0)), (1, (.t 24))]),
 oo 26 (.build 73 [.lit (.int .i64 0), .own 1 0 [], .own 1 0 [], .own 1 0 [], .lit (.bool false), .own 1 0 []] [(0, 0, 1, (.n 1)), (2, 2, 1, (.t 25))]),
 oo 27 (.bslice 57 73 6 1 [.lit (.int .i64 0), .own 1 0 [], .own 1 0 [], .own 1 0 [], .lit (.bool false), .own 1 0 []] [(0, (.t 26))]),
 oo 28 (.build 59 [.own 6 0 [], .lit (.int .i64 0)] [(0, 0, 1, (.t 27))]),
 oo 8 (.alloc 59 [.own 6 0 [], .lit (.int .i64 0)]),
 ov (.store 59 2 (.t 8) (.t 28))]) (.seq (.seq (.reg [oo 9 (.asg (.n 0))]) (.block 0 (.loop a12))) (.seq (.seq (.reg [om 42 2]) (.cond (.t 42) (.reg [oo 43 (.faddr 59 0 (.t 8) 0),
 oo 44 (.load 57 none (.t 43)),
 om 45 0,
 oo 46 (.bslice 24 3 1 2 [.lit (.int .i64 0)] [(0, (.t 45)), (1, (.n 1))]),
 oo 47 (.build 73 [.lit (.int .i64 0), .own 1 0 [], .own 1 0 [], .own 1 0 [], .lit (.bool false), .own 1 0 []] [(0, 0, 1, (.n 7)), (1, 1, 1, (.t 46))]),
 oo 48 (.bslice 57 73 6 1 [.lit (.int .i64 0), .own 1 0 [], .own 1 0 [], .own 1 0 [], .lit (.bool false), .own 1 0 []] [(0, (.t 47))]),
 oo 49 (.app 57 73 6 112 (.t 44) (.t 48)),
 oo 50 (.faddr 59 0 (.t 8) 0),
 ov (.store 57 1 (.t 50) (.t 49))]) .skip)) (.seq (.reg [oo 51 (.faddr 59 0 (.t 8) 0),
 oo 52 (.load 57 none (.t 51)),
 oo 53 (.len 57 false (.t 52)),
 oo 54 (.bin .sub 3 0 (.t 53) (.n 1) 3),
 oo 55 (.faddr 59 1 (.t 8) 1),
 ov (.store 3 1 (.t 55) (.t 54))]) (.seq (.reg [oo 57 (.load 59 (some 2) (.t 8)),
 oc 58 26 [(false, (.t 57))] [59],
 oo 56 (.mva (.t 58)),
 oo 59 (.ext (.t 56) 0),
 oo 60 (.ext (.t 56) 1),
 oo 61 (.ext (.t 56) 2),
 oo 10 (.asg (.t 59)),
 oo 11 (.asg (.t 60)),
 oo 12 (.asg (.t 61))]) (.seq (.reg [om 62 1,
 oo 63 (.bin .add 3 0 (.t 62) (.n 3) 3),
 oo 64 (.bin .quo 3 0 (.t 63) (.n 4) 3),
 oo 65 (.bin .mul 3 0 (.t 64) (.n 4) 3),
 oo 13 (.asg (.t 65))]) (.seq (.reg [om 66 13,
 oo 67 (.bin .mul 3 0 (.n 2) (.t 66) 3),
 oo 14 (.asg (.t 67))]) (.seq (.seq (.reg [om 68 2,
 om 69 68,
 og 70 (.mv (.t 0)) 1 69 true,
 og 71 (.bin .gtr 3 0 (.t 70) (.n 2) 3) 1 69 true,
 oo 72 (.pick (.t 69) (.t 71) (.c (.bool false)))]) (.cond (.t 72) (.reg [om 73 13,
 oo 74 (.bin .mul 3 0 (.n 3) (.t 73) 3),
 oo 14 (.asg (.t 74))]) .skip)) (.seq (.seq (.reg [om 75 2,
 om 76 75,
 og 77 (.mv (.t 0)) 1 76 true,
 og 78 (.bin .eql 3 0 (.t 77) (.n 2) 3) 1 76 true,
 oo 79 (.pick (.t 76) (.t 78) (.c (.bool false)))]) (.cond (.t 79) (.reg [om 80 13,
 oo 81 (.bin .mul 3 0 (.n 3) (.t 80) 3),
 oo 14 (.asg (.t 81))]) .skip)) (.seq (.reg [om 82 7,
 om 83 82,
 og 84 (.mv (.t 12)) 1 83 true,
 og 85 (.bin .eql 45 2 (.t 84) (.c .nilIface) 45) 1 83 true,
 oo 86 (.pick (.t 83) (.t 85) (.c (.bool false))),
 om 87 86,
 og 88 (.mv (.t 11)) 5 87 true,
 og 89 (.mv (.t 14)) 5 87 true,
 og 90 (.bin .eql 3 0 (.t 88) (.t 89) 3) 5 87 true,
 oo 91 (.pick (.t 87) (.t 90) (.c (.bool false))),
 om 92 91,
 og 93 (.mv (.t 10)) 10 92 true,
 og 94 (.len 61 false (.t 93)) 10 92 true,
 og 95 (.faddr 59 0 (.t 8) 0) 10 92 true,
 og 96 (.load 57 none (.t 95)) 10 92 true,
 og 97 (.len 57 false (.t 96)) 10 92 true,
 og 98 (.bin .eql 3 0 (.t 94) (.t 97) 3) 10 92 true,
 oo 99 (.pick (.t 92) (.t 98) (.c (.bool false))),
 om 100 99,
 og 101 (.mv (.t 10)) 18 100 true,
 og 102 (.iaddr 61 4 (.t 101) (.n 0)) 18 100 true,
 og 103 (.faddr 69 0 (.t 102) 0) 18 100 true,
 og 104 (.load 3 none (.t 103)) 18 100 true,
 og 105 (.bin .eql 3 0 (.t 104) (.n (-1)) 3) 18 100 true,
 oo 106 (.pick (.t 100) (.t 105) (.c (.bool false))),
 oo 6 (.asg (.t 106))]) .ret)))))))))))))))
abbrev a7k : Nat := 8
theorem a6j : fnC pg 8 107 [(.tmp 6)] a4n := a09 Go.Proofs.Tryd.f8 [(.tmp 6)] (by kernel_rfl)
@[go_sem] theorem b51 : fnB pg 8 = true := by kernel_rfl
def a1w : IC := (.seq (.seq (.reg [om 27 10,
 om 28 0,
 oo 29 (.len 24 false (.t 28)),
 oo 30 (.bin .lss 3 0 (.t 27) (.t 29) 3)]) (.cond (.t 30) .skip (.exit 0))) (.seq (.block 1 (.seq (.reg [om 33 0,
 om 34 10,
 oo 35 (.iaddr 24 1 (.t 33) (.t 34)),
 oo 36 (.load 3 none (.t 35)),
 oc 37 12 [(false, (.t 36)), (false, (.n 50))] [3, 3],
 oo 38 (.bin .add 3 0 (.t 37) (.n 1) 3),
 oo 39 (.bin .mul 3 0 (.n 4) (.t 38) 3),
 oo 11 (.asg (.t 39))]) (.seq (.reg [om 40 10,
 oo 41 (.bin .mul 3 0 (.n 3) (.t 40) 3),
 om 42 10,
 oo 43 (.bin .mul 3 0 (.n 3) (.t 42) 3),
 oo 44 (.bin .add 3 0 (.t 43) (.n 1) 3),
 om 45 11,
 oo 46 (.build 69 [.lit (.int .i64 0), .lit (.int .i64 0), .lit (.int .i64 0), .lit (.int .i64 0)] [(0, 0, 1, (.t 41)), (1, 1, 1, (.t 44)), (3, 3, 1, (.t 45))]),
 oo 12 (.alloc 69 [.lit (.int .i64 0), .lit (.int .i64 0), .lit (.int .i64 0), .lit (.int .i64 0)]),
 ov (.store 69 4 (.t 12) (.t 46))]) (.seq (.seq (.reg [om 47 1]) (.cond (.t 47) (.seq (.reg [oo 48 (.faddr 69 1 (.t 12) 1),
 ov (.store 3 1 (.t 48) (.n 1000))]) (.reg [om 49 9,
 om 50 7,
 oo 51 (.bslice 24 3 1 1 [.lit (.int .i64 0)] [(0, (.t 50))]),
 oo 52 (.app 24 3 1 8 (.t 49) (.t 51)),
 oo 9 (.asg (.t 52))])) (.reg [om 53 9,
 oo 54 (.bslice 24 3 1 1 [.lit (.int .i64 0)] [(0, (.n 0))]),
 oo 55 (.app 24 3 1 8 (.t 53) (.t 54)),
 oo 9 (.asg (.t 55))]))) (.seq (.reg [om 56 7,
 om 57 11,
 oo 58 (.bin .add 3 0 (.t 56) (.t 57) 3),
 oo 7 (.asg (.t 58))]) (.seq (.reg [om 59 8,
 om 60 11,
 oo 61 (.mm true [3, 3] [(.t 59), (.t 60)]),
 oo 8 (.asg (.t 61))]) (.reg [om 62 6,
 oo 63 (.load 69 (some 4) (.t 12)),
 oo 64 (.bslice 61 69 4 1 [.lit (.int .i64 0), .lit (.int .i64 0), .lit (.int .i64 0), .lit (.int .i64 0)] [(0, (.t 63))]),
 oo 65 (.app 61 69 4 32 (.t 62) (.t 64)),
 oo 6 (.asg (.t 65))]))))))) (.reg [om 31 10,
 oo 32 (.bin .add 3 0 (.t 31) (.n 1) 3),
 oo 10 (.asg (.t 32))])))
def a1x : IC := (.seq (.seq (.reg [om 76 15,
 om 77 13,
 oo 78 (.len 24 false (.t 77)),
 oo 79 (.bin .lss 3 0 (.t 76) (.t 78) 3)]) (.cond (.t 79) .skip (.exit 2))) (.seq (.block 3 (.seq (.draw [om 82 13,
 om 83 15,
 oo 84 (.iaddr 24 1 (.t 82) (.t 83)),
 oo 85 (.load 3 none (.t 84)),
 om 86 9,
 om 87 15,
 oo 88 (.iaddr 24 1 (.t 86) (.t 87)),
 oo 89 (.load 3 none (.t 88)),
 oo 90 (.bin .neq 3 0 (.t 85) (.t 89) 3)] [[], [], [0, 1], [2], [], [], [4, 5], [6], [3, 7]]) (.cond (.t 90) (.seq (.reg [oo 4 (.asg (.c (.bool false)))]) .ret) .skip))) (.reg [om 80 15,
 oo 81 (.bin .add 3 0 (.t 80) (.n 1) 3),
 oo 15 (.asg (.t 81))])))
def a39 : IC := (.seq (.reg [oo 4 (.asg (.c (.bool false)))]) (.seq (.reg [oc 16 24 [] [],
 oo 5 (.asg (.t 16))]) (.seq (.seq (.reg [om 17 5,
 oo 18 (.un .not 4 (.t 17))]) (.cond (.t 18) (.seq (.reg [oo 4 (.asg (.c (.bool false)))]) .ret) .skip)) (.seq (.seq (.reg [om 19 0,
 oo 20 (.len 24 false (.t 19)),
 oo 21 (.bin .gtr 3 0 (.t 20) (.n 30) 3),
 om 22 21,
 og 23 (.mv (.t 5)) 3 22 false,
 og 24 (.un .not 4 (.t 23)) 3 22 false,
 oo 25 (.pick (.t 22) (.c (.bool true)) (.t 24))]) (.cond (.t 25) (.seq (.reg [om 26 5,
 oo 4 (.asg (.t 26))]) .ret) .skip)) (.seq (.reg [oo 6 (.asg (.nl 4))]) (.seq (.reg [oo 7 (.asg (.n 0))]) (.seq (.reg [oo 8 (.asg (.n 0))]) (.seq (.reg [oo 9 (.asg (.nl 1))]) (.seq (.seq (.reg [oo 10 (.asg (.n 0))]) (.block 0 (.loop a1w))) (.seq (.reg [om 67 6,
 oc 68 28 [(false, (.t 67))] [61],
 oo 66 (.mva (.t 68)),
 oo 69 (.ext (.t 66) 0),
 oo 70 (.ext (.t 66) 1),
 oo 13 (.asg (.t 69)),
 oo 14 (.asg (.t 70))]) (.seq (.seq (.reg [om 71 13,
 oo 72 (.len 24 false (.t 71)),
 om 73 9,
 oo 74 (.len 24 false (.t 73)),
 oo 75 (.bin .neq 3 0 (.t 72) (.t 74) 3)]) (.cond (.t 75) (.seq (.reg [oo 4 (.asg (.c (.bool false)))]) .ret) .skip)) (.seq (.seq (.reg [oo 15 (.asg (.n 0))]) (.block 2 (.loop a1x))) (.seq (.reg [om 91 1,
 om 92 91,
 og 93 (.mv (.t 14)) 1 92 true,
 og 94 (.mv (.t 7)) 1 92 true,
 og 95 (.bin .eql 3 0 (.t 93) (.t 94) 3) 1 92 true,
 oo 96 (.pick (.t 92) (.t 95) (.c (.bool false))),
 om 97 96,
 og 98 (.mv (.t 1)) 6 97 false,
 og 99 (.un .not 4 (.t 98)) 6 97 false,
 og 100 (.mv (.t 99)) 6 97 false,
 og 101 (.mv (.t 14)) 9 100 true,
 og 102 (.mv (.t 8)) 9 100 true,
 og 103 (.bin .eql 3 0 (.t 101) (.t 102) 3) 9 100 true,
 og 104 (.pick (.t 100) (.t 103) (.c (.bool false))) 6 97 false,
 oo 105 (.pick (.t 97) (.c (.bool true)) (.t 104)),
 oo 4 (.asg (.t 105))]) .ret)))))))))))))
abbrev a7h : Nat := 9
theorem a54 : fnC pg 9 106 [(.tmp 4)] a39 := a09 Go.Proofs.Tryd.f9 [(.tmp 4)] (by kernel_rfl)
@[go_sem] theorem b4q : fnB pg 9 = true := by kernel_rfl
def a2g : IC := (.seq (.seq (.reg [om 10 2,
 oo 11 (.bin .lss 3 0 (.t 10) (.n 6) 3)]) (.cond (.t 11) .skip (.exit 0))) (.seq (.block 1 (.reg [oo 14 (.faddr 59 0 (.t 1) 0),
 oo 15 (.load 57 none (.t 14)),
 om 16 2,
 oo 17 (.bslice 24 3 1 1 [.lit (.int .i64 0)] [(0, (.t 16))]),
 oo 18 (.build 73 [.lit (.int .i64 0), .own 1 0 [], .own 1 0 [], .own 1 0 [], .lit (.bool false), .own 1 0 []] [(0, 0, 1, (.n 8)), (1, 1, 1, (.t 17))]),
 oo 19 (.bslice 57 73 6 1 [.lit (.int .i64 0), .own 1 0 [], .own 1 0 [], .own 1 0 [], .lit (.bool false), .own 1 0 []] [(0, (.t 18))]),
 oo 20 (.app 57 73 6 112 (.t 15) (.t 19)),
 oo 21 (.faddr 59 0 (.t 1) 0),
 ov (.store 57 1 (.t 21) (.t 20))])) (.reg [om 12 2,
 oo 13 (.bin .add 3 0 (.t 12) (.n 1) 3),
 oo 2 (.asg (.t 13))])))
def a5v : IC := (.seq (.reg [oo 0 (.asg (.c (.bool false)))]) (.seq (.reg [oo 6 (.bslice 24 3 1 2 [.lit (.int .i64 0)] [(0, (.n 0)), (1, (.n 3))]),
 oo 7 (.build 73 [.lit (.int .i64 0), .own 1 0 [], .own 1 0 [], .own 1 0 [], .lit (.bool false), .own 1 0 []] [(0, 0, 1, (.n 1)), (2, 2, 1, (.t 6))]),
 oo 8 (.bslice 57 73 6 1 [.lit (.int .i64 0), .own 1 0 [], .own 1 0 [], .own 1 0 [], .lit (.bool false), .own 1 0 []] [(0, (.t 7))]),
 oo 9 (.build 59 [.own 6 0 [], .lit (.int .i64 0)] [(0, 0, 1, (.t 8))]),
 oo 1 (.alloc 59 [.own 6 0 [], .lit (.int .i64 0)]),
 ov (.store 59 2 (.t 1) (.t 9))]) (.seq (.seq (.reg [oo 2 (.asg (.n 0))]) (.block 0 (.loop a2g))) (.seq (.reg [oo 22 (.faddr 59 1 (.t 1) 1),
 ov (.store 3 1 (.t 22) (.n 6))]) (.seq (.reg [oo 24 (.load 59 (some 2) (.t 1)),
 oc 25 26 [(false, (.t 24))] [59],
 oo 23 (.mva (.t 25)),
 oo 26 (.ext (.t 23) 0),
 oo 27 (.ext (.t 23) 1),
 oo 28 (.ext (.t 23) 2),
 oo 3 (.asg (.t 26)),
 oo 4 (.asg (.t 27)),
 oo 5 (.asg (.t 28))]) (.seq (.reg [om 29 5,
 oo 30 (.bin .eql 45 2 (.t 29) (.c .nilIface) 45),
 om 31 30,
 og 32 (.mv (.t 4)) 2 31 true,
 og 33 (.bin .eql 3 0 (.t 32) (.n 8) 3) 2 31 true,
 oo 34 (.pick (.t 31) (.t 33) (.c (.bool false))),
 oo 0 (.asg (.t 34))]) .ret))))))
abbrev a9f : Nat := 24
theorem a7v : fnC pg 24 35 [(.tmp 0)] a5v := a09 Go.Proofs.Tryd.f24 [(.tmp 0)] (by kernel_rfl)
@[go_sem] theorem b9d : fnB pg 24 = true := by kernel_rfl
def a6h : IC := (.seq (.reg [oo 40 (.bin .lss 3 0 (.t 39) (.t 38) 3)]) (.seq (.cond (.t 40) .skip (.exit 0)) (.seq (.block 1 (.seq (.reg [oo 41 (.iaddr 24 1 (.t 37) (.t 39)),
 oo 42 (.load 3 none (.t 41)),
 oo 11 (.asg (.t 42))]) (.seq (.reg [oo 43 (.faddr 59 0 (.t 1) 0),
 oo 44 (.load 57 none (.t 43)),
 om 45 11,
 oo 46 (.iaddr 57 6 (.t 44) (.t 45)),
 oo 47 (.faddr 73 0 (.t 46) 0),
 oo 48 (.load 3 none (.t 47)),
 oo 49 (.bin .neq 3 0 (.t 48) (.n 1) 3)]) (.cond (.t 49) (.reg [om 50 9,
 om 51 7,
 om 52 11,
 oo 53 (.iaddr 61 4 (.t 51) (.t 52)),
 oo 54 (.load 69 (some 4) (.t 53)),
 oo 55 (.bslice 61 69 4 1 [.lit (.int .i64 0), .lit (.int .i64 0), .lit (.int .i64 0), .lit (.int .i64 0)] [(0, (.t 54))]),
 oo 56 (.app 61 69 4 32 (.t 50) (.t 55)),
 oo 9 (.asg (.t 56))]) .skip)))) (.reg [oo 57 (.bin .add 3 0 (.t 39) (.n 1) 3),
 om 39 57]))))
def a6i : IC := (.seq (.reg [oo 74 (.bin .lss 3 0 (.t 73) (.t 72) 3)]) (.seq (.cond (.t 74) .skip (.exit 2)) (.seq (.block 3 (.seq (.reg [oo 75 (.iaddr 24 1 (.t 71) (.t 73)),
 oo 76 (.load 3 none (.t 75)),
 oo 17 (.asg (.t 76))]) (.seq (.seq (.reg [oo 77 (.faddr 59 0 (.t 1) 0),
 oo 78 (.load 57 none (.t 77)),
 om 79 17,
 oo 80 (.iaddr 57 6 (.t 78) (.t 79)),
 oo 81 (.faddr 73 0 (.t 80) 0),
 oo 82 (.load 3 none (.t 81)),
 oo 83 (.bin .eql 3 0 (.t 82) (.n 1) 3)]) (.cond (.t 83) (.seq (.reg [om 84 7,
 om 85 17,
 oo 86 (.load 69 (some 4) (.t 8)),
 oo 87 (.iaddr 61 4 (.t 84) (.t 85)),
 ov (.store 69 4 (.t 87) (.t 86)),
 oo 15 (.asg (.c (.bool false)))]) (.exit 3)) .skip)) (.seq (.reg [om 88 7,
 om 89 17,
 om 90 12,
 om 91 14,
 oo 92 (.iaddr 24 1 (.t 90) (.t 91)),
 oo 93 (.load 3 none (.t 92)),
 oo 94 (.iaddr 61 4 (.t 88) (.t 89)),
 oo 95 (.faddr 69 2 (.t 94) 2),
 ov (.store 3 1 (.t 95) (.t 93))]) (.reg [om 96 14,
 oo 97 (.bin .add 3 0 (.t 96) (.n 1) 3),
 oo 14 (.asg (.t 97))]))))) (.reg [oo 98 (.bin .add 3 0 (.t 73) (.n 1) 3),
 om 73 98]))))
def b70 : IC := (.seq (.reg [oo 1 (.box 59 2 (.t 0)),
 oo 2 (.asg (.nl 4)),
 oo 3 (.asg (.n 0)),
 oo 4 (.asg (.c .nilIface))]) (.seq (.reg [oo 19 (.load 59 (some 2) (.t 1)),
 oc 20 27 [(false, (.t 19))] [59],
 oo 18 (.mva (.t 20)),
 oo 21 (.ext (.t 18) 0),
 oo 22 (.ext (.t 18) 1),
 oo 5 (.alloc 65 [.own 1 0 [], .own 2 0 [], .own 1 0 [], .lit (.bool false), .own 2 0 []]),
 ov (.store 65 5 (.t 5) (.t 21)),
 oo 6 (.asg (.t 22))]) (.seq (.seq (.reg [om 23 6,
 oo 24 (.bin .neq 45 2 (.t 23) (.c .nilIface) 45)]) (.cond (.t 24) (.seq (.reg [om 25 6,
 oo 2 (.asg (.nl 4)),
 oo 3 (.asg (.n 0)),
 oo 4 (.asg (.t 25))]) .ret) .skip)) (.seq (.reg [oo 27 (.load 59 (some 2) (.t 1)),
 oo 28 (.load 65 (some 5) (.t 5)),
 oc 29 46 [(false, (.t 27)), (false, (.t 28))] [59, 65],
 oo 26 (.mva (.t 29)),
 oo 30 (.ext (.t 26) 0),
 oo 31 (.ext (.t 26) 1),
 oo 8 (.alloc 69 [.lit (.int .i64 0), .lit (.int .i64 0), .lit (.int .i64 0), .lit (.int .i64 0)]),
 oo 7 (.asg (.t 30)),
 ov (.store 69 4 (.t 8) (.t 31))]) (.seq (.reg [oo 9 (.asg (.nl 4))]) (.seq (.reg [om 32 9,
 oo 33 (.load 69 (some 4) (.t 8)),
 oo 34 (.bslice 61 69 4 1 [.lit (.int .i64 0), .lit (.int .i64 0), .lit (.int .i64 0), .lit (.int .i64 0)] [(0, (.t 33))]),
 oo 35 (.app 61 69 4 32 (.t 32) (.t 34)),
 oo 9 (.asg (.t 35))]) (.seq (.seq (.reg [oo 36 (.faddr 65 0 (.t 5) 0),
 oo 37 (.load 24 none (.t 36)),
 oo 38 (.len 24 false (.t 37)),
 oo 39 (.mv (.n 0))]) (.block 0 (.loop a6h))) (.seq (.reg [om 59 9,
 oc 60 28 [(false, (.t 59))] [61],
 oo 58 (.mva (.t 60)),
 oo 61 (.ext (.t 58) 0),
 oo 62 (.ext (.t 58) 1),
 oo 12 (.asg (.t 61)),
 oo 13 (.asg (.t 62))]) (.seq (.seq (.reg [om 63 13,
 oo 64 (.bin .gtr 3 0 (.t 63) (.n 65536) 3)]) (.cond (.t 64) (.seq (.draw [oo 65 (.load 45 none (.g 1)),
 oo 2 (.asg (.nl 4)),
 oo 3 (.asg (.n 0)),
 oo 4 (.asg (.t 65))] [[], [], [1, 1], [0, 2, 0, 1, 2]]) .ret) .skip)) (.seq (.reg [om 66 12,
 oo 67 (.iaddr 24 1 (.t 66) (.n 0)),
 oo 68 (.load 3 none (.t 67)),
 oo 69 (.faddr 69 2 (.t 8) 2),
 ov (.store 3 1 (.t 69) (.t 68))]) (.seq (.reg [oo 14 (.asg (.n 1)),
 oo 15 (.asg (.c (.bool true)))]) (.seq (.seq (.reg [oo 70 (.faddr 65 0 (.t 5) 0),
 oo 71 (.load 24 none (.t 70)),
 oo 72 (.len 24 false (.t 71)),
 oo 73 (.mv (.n 0))]) (.block 2 (.loop a6i))) (.seq (.seq (.reg [om 99 15]) (.cond (.t 99) (.reg [om 100 7,
 oo 101 (.load 69 (some 4) (.t 8)),
 oo 102 (.bslice 61 69 4 1 [.lit (.int .i64 0), .lit (.int .i64 0), .lit (.int .i64 0), .lit (.int .i64 0)] [(0, (.t 101))]),
 oo 103 (.app 61 69 4 32 (.t 100) (.t 102)),
 oo 7 (.asg (.t 103))]) .skip)) (.seq (.reg [om 104 7,
 om 105 13,
 oo 2 (.asg (.t 104)),
 oo 3 (.asg (.t 105)),
 oo 4 (.asg (.c .nilIface))]) .ret))))))))))))))
abbrev b6v : Nat := 26
theorem b71 : fnC pg 26 106 [(.tmp 2), (.tmp 3), (.tmp 4)] b70 := a09 Go.Proofs.Tryd.f26 [(.tmp 2), (.tmp 3), (.tmp 4)] (by kernel_rfl)
@[go_sem] theorem d2l : fnB pg 26 = true := by kernel_rfl
def a23 : IC := (.seq (.reg [oo 30 (.bin .lss 3 0 (.t 29) (.t 28) 3)]) (.seq (.cond (.t 30) .skip (.exit 4)) (.seq (.block 5 (.seq (.reg [om 31 29,
 oo 32 (.iaddr 61 4 (.t 27) (.t 29)),
 oo 33 (.load 69 (some 4) (.t 32)),
 oo 10 (.alloc 69 [.lit (.int .i64 0), .lit (.int .i64 0), .lit (.int .i64 0), .lit (.int .i64 0)]),
 oo 9 (.asg (.t 31)),
 ov (.store 69 4 (.t 10) (.t 33))]) (.seq (.reg [oo 34 (.faddr 69 3 (.t 10) 3),
 oo 35 (.load 3 none (.t 34)),
 oo 36 (.bin .gtr 3 0 (.t 35) (.n 0) 3),
 om 37 36,
 og 38 (.faddr 69 0 (.t 7) 0) 3 37 true,
 og 39 (.load 3 none (.t 38)) 3 37 true,
 og 40 (.faddr 69 0 (.t 10) 0) 3 37 true,
 og 41 (.load 3 none (.t 40)) 3 37 true,
 og 42 (.mm true [3, 3] [(.t 39), (.t 41)]) 3 37 true,
 og 43 (.faddr 69 1 (.t 7) 1) 3 37 true,
 og 44 (.load 3 none (.t 43)) 3 37 true,
 og 45 (.faddr 69 1 (.t 10) 1) 3 37 true,
 og 46 (.load 3 none (.t 45)) 3 37 true,
 og 47 (.mm false [3, 3] [(.t 44), (.t 46)]) 3 37 true,
 og 48 (.bin .leq 3 0 (.t 42) (.t 47) 3) 3 37 true,
 oo 49 (.pick (.t 37) (.t 48) (.c (.bool false))),
 oo 11 (.asg (.t 49))]) (.seq (.draw [om 50 11,
 om 51 50,
 og 52 (.mv (.t 8)) 1 51 true,
 og 53 (.mv (.t 4)) 1 51 true,
 og 54 (.mv (.t 9)) 1 51 true,
 og 55 (.iaddr 24 1 (.t 53) (.t 54)) 1 51 true,
 og 56 (.load 3 none (.t 55)) 1 51 true,
 og 57 (.faddr 69 3 (.t 10) 3) 1 51 true,
 og 58 (.load 3 none (.t 57)) 1 51 true,
 ⟨(some 59), .call 50 [(false, (.t 56)), (false, (.t 58))] [3, 3], (some (1, 51, true))⟩,
 og 60 (.bin .lss 3 0 (.t 52) (.t 59) 3) 1 51 true,
 oo 61 (.pick (.t 51) (.t 60) (.c (.bool false))),
 om 62 61,
 og 63 (.mv (.t 4)) 12 62 true,
 og 64 (.mv (.t 9)) 12 62 true,
 og 65 (.iaddr 24 1 (.t 63) (.t 64)) 12 62 true,
 og 66 (.load 3 none (.t 65)) 12 62 true,
 og 67 (.mv (.t 8)) 12 62 true,
 og 68 (.faddr 69 3 (.t 7) 3) 12 62 true,
 og 69 (.load 3 none (.t 68)) 12 62 true,
 ⟨(some 70), .call 50 [(false, (.t 67)), (false, (.t 69))] [3, 3], (some (12, 62, true))⟩,
 og 71 (.bin .lss 3 0 (.t 66) (.t 70) 3) 12 62 true,
 oo 72 (.pick (.t 62) (.t 71) (.c (.bool false))),
 om 73 72,
 og 74 (.mv (.t 8)) 23 73 true,
 og 75 (.mv (.t 4)) 23 73 true,
 og 76 (.mv (.t 9)) 23 73 true,
 og 77 (.iaddr 24 1 (.t 75) (.t 76)) 23 73 true,
 og 78 (.load 3 none (.t 77)) 23 73 true,
 og 79 (.faddr 69 3 (.t 10) 3) 23 73 true,
 og 80 (.load 3 none (.t 79)) 23 73 true,
 ⟨(some 81), .call 50 [(false, (.t 78)), (false, (.t 80))] [3, 3], (some (23, 73, true))⟩,
 ⟨(some 82), .call 51 [(false, (.t 81))] [3], (some (23, 73, true))⟩,
 og 83 (.bin .lss 3 0 (.t 74) (.t 82) 3) 23 73 true,
 oo 84 (.pick (.t 73) (.t 83) (.c (.bool false)))] [[], [0], [1], [1], [1], [3, 4, 1], [5, 1], [1], [7, 1], [6, 8, 1, 1], [2, 9, 1], [1, 10], [11, 9], [12], [12], [13, 14, 12], [15, 12], [12], [12], [18, 12], [17, 19, 12, 12], [16, 20, 12], [12, 21], [22, 20], [23], [23], [23], [25, 26, 23], [27, 23], [23], [29, 23], [28, 30, 23, 23], [31, 31, 23], [24, 32, 23], [23, 33]]) (.cond (.t 84) (.seq (.draw [om 85 4,
 om 86 9,
 oo 87 (.iaddr 24 1 (.t 85) (.t 86)),
 oo 88 (.load 3 none (.t 87)),
 oo 89 (.faddr 69 3 (.t 10) 3),
 oo 90 (.load 3 none (.t 89)),
 oc 91 50 [(false, (.t 88)), (false, (.t 90))] [3, 3],
 oc 92 51 [(false, (.t 91))] [3],
 oo 8 (.asg (.t 92))] [[], [], [0, 1], [2], [], [4], [3, 5], [6, 6], [7, 7, 0, 1, 2, 3, 4, 5, 6, 7]]) (.exit 3)) .skip))))) (.reg [oo 93 (.bin .add 3 0 (.t 29) (.n 1) 3),
 om 29 93]))))
def a61 : IC := (.block 3 (.seq (.seq (.reg [om 25 0,
 om 26 6,
 oo 27 (.slice 61 4 (.t 25) none (some (.t 26)) none),
 oo 28 (.len 61 false (.t 27)),
 oo 29 (.mv (.n 0))]) (.block 4 (.loop a23))) (.exit 2)))
def a3y : IC := (.seq (.reg [oo 18 (.bin .lss 3 0 (.t 17) (.t 16) 3)]) (.seq (.cond (.t 18) .skip (.exit 0)) (.seq (.block 1 (.seq (.reg [om 19 17,
 oo 20 (.iaddr 61 4 (.t 15) (.t 17)),
 oo 21 (.load 69 (some 4) (.t 20)),
 oo 7 (.alloc 69 [.lit (.int .i64 0), .lit (.int .i64 0), .lit (.int .i64 0), .lit (.int .i64 0)]),
 oo 6 (.asg (.t 19)),
 ov (.store 69 4 (.t 7) (.t 21))]) (.scope (.seq (.seq (.reg [oo 22 (.faddr 69 3 (.t 7) 3),
 oo 23 (.load 3 none (.t 22)),
 oo 24 (.bin .lss 3 0 (.t 23) (.n 1) 3)]) (.cond (.t 24) (.exit 1) .skip)) (.seq (.reg [oo 8 (.asg (.n 0))]) (.seq (.label 0) (.seq (.block 2 (.loop a61)) (.seq (.reg [om 94 4,
 om 95 6,
 om 96 8,
 oo 97 (.iaddr 24 1 (.t 94) (.t 95)),
 ov (.store 3 1 (.t 97) (.t 96))]) (.reg [om 98 5,
 om 99 8,
 oo 100 (.faddr 69 3 (.t 7) 3),
 oo 101 (.load 3 none (.t 100)),
 oc 102 50 [(false, (.t 99)), (false, (.t 101))] [3, 3],
 oo 103 (.mm true [3, 3] [(.t 98), (.t 102)]),
 oo 5 (.asg (.t 103))]))))))))) (.reg [oo 104 (.bin .add 3 0 (.t 17) (.n 1) 3),
 om 17 104]))))
def b09 : IC := (.seq (.reg [oo 2 (.asg (.nl 1)),
 oo 3 (.asg (.n 0))]) (.seq (.reg [om 12 0,
 oo 13 (.len 61 false (.t 12)),
 oo 14 (.mks 24 3 1 8 [.lit (.int .i64 0)] (.t 13) (.t 13)),
 oo 4 (.asg (.t 14))]) (.seq (.reg [oo 5 (.asg (.n 0))]) (.seq (.seq (.reg [om 15 0,
 oo 16 (.len 61 false (.t 15)),
 oo 17 (.mv (.n 0))]) (.block 0 (.loop a3y))) (.seq (.reg [om 105 4,
 om 106 5,
 oo 2 (.asg (.t 105)),
 oo 3 (.asg (.t 106))]) .ret)))))
abbrev b6w : Nat := 28
theorem b2n : fnC pg 28 107 [(.tmp 2), (.tmp 3)] b09 := a09 Go.Proofs.Tryd.f28 [(.tmp 2), (.tmp 3)] (by kernel_rfl)
@[go_sem] theorem c7d : fnB pg 28 = true := by kernel_rfl
def a42 : IC := (.seq (.reg [oo 24 (.bin .lss 3 0 (.t 23) (.t 22) 3)]) (.seq (.cond (.t 24) .skip (.exit 0)) (.seq (.block 1 (.seq (.reg [om 25 23,
 oo 26 (.iaddr 24 1 (.t 21) (.t 23)),
 oo 27 (.load 3 none (.t 26)),
 oo 7 (.asg (.t 25)),
 oo 8 (.asg (.t 27))]) (.reg [om 28 6,
 om 29 8,
 om 30 7,
 oo 31 (.iaddr 24 1 (.t 28) (.t 29)),
 ov (.store 3 1 (.t 31) (.t 30))]))) (.reg [oo 32 (.bin .add 3 0 (.t 23) (.n 1) 3),
 om 23 32]))))
def a43 : IC := (.seq (.reg [oo 65 (.bin .lss 3 0 (.t 64) (.t 63) 3)]) (.seq (.cond (.t 65) .skip (.exit 4)) (.seq (.block 5 (.seq (.reg [oo 66 (.iaddr 24 1 (.t 62) (.t 64)),
 oo 67 (.load 3 none (.t 66)),
 oo 15 (.asg (.t 67))]) (.draw [oo 68 (.faddr 69 1 (.t 13) 1),
 oo 69 (.load 3 none (.t 68)),
 om 70 6,
 om 71 15,
 oo 72 (.iaddr 24 1 (.t 70) (.t 71)),
 oo 73 (.load 3 none (.t 72)),
 oo 74 (.mm true [3, 3] [(.t 69), (.t 73)]),
 oo 75 (.faddr 69 1 (.t 13) 1),
 ov (.store 3 1 (.t 75) (.t 74))] [[], [0], [], [], [2, 3], [4], [1, 5], [0, 1, 2, 3, 4, 5, 6], [7, 6, 0, 1, 2, 3, 4, 5, 6]]))) (.reg [oo 76 (.bin .add 3 0 (.t 64) (.n 1) 3),
 om 64 76]))))
def a44 : IC := (.seq (.reg [oo 42 (.bin .lss 3 0 (.t 41) (.t 40) 3)]) (.seq (.cond (.t 42) .skip (.exit 2)) (.seq (.block 3 (.seq (.reg [om 43 41,
 oo 44 (.iaddr 95 1 (.t 39) (.t 41)),
 oo 45 (.load 24 none (.t 44)),
 oo 11 (.asg (.t 43)),
 oo 12 (.asg (.t 45))]) (.seq (.draw [om 46 6,
 om 47 11,
 oo 48 (.iaddr 24 1 (.t 46) (.t 47)),
 oo 49 (.load 3 none (.t 48)),
 om 50 6,
 om 51 11,
 oo 52 (.iaddr 24 1 (.t 50) (.t 51)),
 oo 53 (.load 3 none (.t 52)),
 oo 54 (.faddr 65 1 (.t 3) 1),
 oo 55 (.load 34 none (.t 54)),
 om 56 11,
 oo 57 (.iaddr 34 2 (.t 55) (.t 56)),
 oo 58 (.load 26 (some 2) (.t 57)),
 oc 59 33 [(false, (.t 58))] [26],
 oc 60 51 [(false, (.t 59))] [3],
 oo 61 (.build 69 [.lit (.int .i64 0), .lit (.int .i64 0), .lit (.int .i64 0), .lit (.int .i64 0)] [(0, 0, 1, (.t 49)), (1, 1, 1, (.t 53)), (3, 3, 1, (.t 60))]),
 oo 13 (.alloc 69 [.lit (.int .i64 0), .lit (.int .i64 0), .lit (.int .i64 0), .lit (.int .i64 0)]),
 ov (.store 69 4 (.t 13) (.t 61))] [[], [], [0, 1], [2], [], [], [4, 5], [6], [], [8], [], [9, 10], [11], [12], [13, 13], [3, 7, 14], [], [16, 15, 14, 0, 1, 2, 3, 4, 5, 6, 7, 8, 9, 10, 11, 12, 13, 14, 15, 16]]) (.seq (.seq (.reg [om 62 12,
 oo 63 (.len 24 false (.t 62)),
 oo 64 (.mv (.n 0))]) (.block 4 (.loop a43))) (.seq (.seq (.reg [om 77 11,
 oo 78 (.faddr 59 1 (.t 2) 1),
 oo 79 (.load 3 none (.t 78)),
 oo 80 (.bin .eql 3 0 (.t 77) (.t 79) 3)]) (.cond (.t 80) (.reg [oo 81 (.faddr 59 0 (.t 2) 0),
 oo 82 (.load 57 none (.t 81)),
 oo 83 (.len 57 false (.t 82)),
 oo 84 (.faddr 69 1 (.t 13) 1),
 ov (.store 3 1 (.t 84) (.t 83))]) .skip)) (.seq (.reg [om 85 9,
 om 86 11,
 oo 87 (.load 69 (some 4) (.t 13)),
 oo 88 (.iaddr 61 4 (.t 85) (.t 86)),
 ov (.store 69 4 (.t 88) (.t 87))]) (.seq (.reg [oo 89 (.faddr 59 0 (.t 2) 0),
 oo 90 (.load 57 none (.t 89)),
 om 91 11,
 oo 92 (.iaddr 57 6 (.t 90) (.t 91)),
 oo 93 (.faddr 73 0 (.t 92) 0),
 oo 94 (.load 3 none (.t 93)),
 oo 95 (.bin .eql 3 0 (.t 94) (.n 1) 3)]) (.cond (.t 95) (.draw [oo 96 (.faddr 69 1 (.t 10) 1),
 oo 97 (.load 3 none (.t 96)),
 oo 98 (.faddr 69 1 (.t 13) 1),
 oo 99 (.load 3 none (.t 98)),
 oo 100 (.mm true [3, 3] [(.t 97), (.t 99)]),
 oo 101 (.faddr 69 3 (.t 13) 3),
 oo 102 (.load 3 none (.t 101)),
 oo 103 (.faddr 69 1 (.t 10) 1),
 ov (.store 3 1 (.t 103) (.t 100)),
 oo 104 (.faddr 69 3 (.t 10) 3),
 ov (.store 3 1 (.t 104) (.t 102))] [[], [0], [], [2], [1, 3], [], [5], [0, 1, 2, 3, 4], [7, 4, 0, 1, 2, 3, 4], [0, 1, 2, 3, 4, 5, 6, 7, 8], [9, 6, 8, 0, 1, 2, 3, 4, 5, 6, 7, 8]]) .skip)))))))) (.reg [oo 105 (.bin .add 3 0 (.t 41) (.n 1) 3),
 om 41 105]))))
def b1a : IC := (.seq (.reg [oo 2 (.box 59 2 (.t 0)),
 oo 3 (.box 65 5 (.t 1)),
 oo 4 (.asg (.nl 4)),
 oo 5 (.alloc 69 [.lit (.int .i64 0), .lit (.int .i64 0), .lit (.int .i64 0), .lit (.int .i64 0)])]) (.seq (.reg [oo 16 (.faddr 59 0 (.t 2) 0),
 oo 17 (.load 57 none (.t 16)),
 oo 18 (.len 57 false (.t 17)),
 oo 19 (.mks 24 3 1 8 [.lit (.int .i64 0)] (.t 18) (.t 18)),
 oo 6 (.asg (.t 19))]) (.seq (.seq (.reg [oo 20 (.faddr 65 0 (.t 3) 0),
 oo 21 (.load 24 none (.t 20)),
 oo 22 (.len 24 false (.t 21)),
 oo 23 (.mv (.n 0))]) (.block 0 (.loop a42))) (.seq (.reg [oo 33 (.faddr 59 0 (.t 2) 0),
 oo 34 (.load 57 none (.t 33)),
 oo 35 (.len 57 false (.t 34)),
 oo 36 (.mks 61 69 4 32 [.lit (.int .i64 0), .lit (.int .i64 0), .lit (.int .i64 0), .lit (.int .i64 0)] (.t 35) (.t 35)),
 oo 9 (.asg (.t 36))]) (.seq (.reg [oo 37 (.build 69 [.lit (.int .i64 0), .lit (.int .i64 0), .lit (.int .i64 0), .lit (.int .i64 0)] [(0, 0, 1, (.n (-1))), (1, 1, 1, (.n (-1))), (3, 3, 1, (.n 4))]),
 oo 10 (.alloc 69 [.lit (.int .i64 0), .lit (.int .i64 0), .lit (.int .i64 0), .lit (.int .i64 0)]),
 ov (.store 69 4 (.t 10) (.t 37))]) (.seq (.seq (.reg [oo 38 (.load 59 (some 2) (.t 2)),
 oc 39 65 [(false, (.t 38))] [59],
 oo 40 (.len 95 false (.t 39)),
 oo 41 (.mv (.n 0))]) (.block 2 (.loop a44))) (.seq (.draw [om 106 9,
 oo 107 (.load 69 (some 4) (.t 10)),
 oo 4 (.asg (.t 106)),
 ov (.store 69 4 (.t 5) (.t 107))] [[], [], [0, 0], [1, 2, 0, 1, 2]]) .ret)))))))
abbrev b6x : Nat := 46
theorem b2o : fnC pg 46 108 [(.tmp 4), (.cells 5 4)] b1a := a09 Go.Proofs.Tryd.f46 [(.tmp 4), (.cell 5 69)] (by kernel_rfl)
@[go_sem] theorem c7e : fnB pg 46 = true := by kernel_rfl
def b0p : IC := (.seq (.reg [oo 4 (.asg (.n 0))]) (.seq (.seq (.reg [om 5 1,
 om 6 0,
 oo 7 (.bin .sub 3 0 (.n 9223372036854775807) (.t 6) 3),
 oo 8 (.bin .gtr 3 0 (.t 5) (.t 7) 3)]) (.cond (.t 8) (.seq (.reg [oo 4 (.asg (.n 9223372036854775807))]) .ret) .skip)) (.seq (.reg [om 9 0,
 om 10 1,
 oo 11 (.bin .add 3 0 (.t 9) (.t 10) 3),
 oo 4 (.asg (.t 11))]) .ret)))
abbrev c2m : Nat := 50
theorem b5y : fnC pg 50 12 [(.tmp 4)] b0p := a09 Go.Proofs.Tryd.f50 [(.tmp 4)] (by kernel_rfl)
@[go_sem] theorem d0p : fnB pg 50 = true := by kernel_rfl
def b2p : IC := (.seq (.reg [oo 2 (.asg (.n 0))]) (.seq (.seq (.reg [om 3 0,
 oo 4 (.bin .gtr 3 0 (.t 3) (.n 9223372036854775803) 3)]) (.cond (.t 4) (.seq (.reg [oo 2 (.asg (.n 9223372036854775807))]) .ret) .skip)) (.seq (.reg [om 5 0,
 oo 6 (.bin .add 3 0 (.t 5) (.n 4) 3),
 oo 7 (.bin .sub 3 0 (.t 6) (.n 1) 3),
 oo 8 (.bin .quo 3 0 (.t 7) (.n 4) 3),
 oo 9 (.bin .mul 3 0 (.t 8) (.n 4) 3),
 oo 2 (.asg (.t 9))]) .ret)))
abbrev c35 : Nat := 51
theorem b72 : fnC pg 51 10 [(.tmp 2)] b2p := a09 Go.Proofs.Tryd.f51 [(.tmp 2)] (by kernel_rfl)
@[go_sem] theorem d2m : fnB pg 51 = true := by kernel_rfl
end Go.Ideal.Tryd
end
section
namespace Go.Ideal.Tryd
def upI (n : Int) : Int := if 9223372036854775803 < n then 9223372036854775807 else (n + 3) / 4 * 4
def b36 (off n : Int) : Int := if 9223372036854775807 - off < n then 9223372036854775807 else off + n
section
variable {G : GG}
theorem f9e (n : Int) (h : 0 <= n /\ n < 2 ^ 63) : ACalls pg G c35 [li n] (li (upI n)) := by
 refine b72 rfl ?_
 by_cases c : 9223372036854775803 < n
 ·simp (disch := omega) [go_sem, b2p, c, upI]
 ·have e : (n + 4 - 1).tdiv 4 = (n + 3) / 4 := by rw [show n + 4 - 1 = n + 3 by omega, Int.tdiv_eq_ediv_of_nonneg (by omega)]
  simp (disch := omega) [go_sem, b2p, c, upI, e]
theorem d1y (off n : Int) (h : 0 <= off /\ off < 2 ^ 63) (hn : 0 <= n /\ n < 2 ^ 63) : ACalls pg G c2m [li off, li n] (li (b36 off n)) := by
 refine b5y rfl ?_
 by_cases c : 9223372036854775807 - off < n
 ·simp (disch := omega) [go_sem, b0p, c, b36]
 ·simp (disch := omega) [go_sem, b0p, c, b36]
end
end Go.Ideal.Tryd
end
