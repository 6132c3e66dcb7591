/- Part Pm of the proof: a machine with trees for values, its soundness, and walks on it. -/
import Derived.Test.YtfdhkijgolgnfaaDoorPk
import Derived.Test.YtfdhkijgolgnfaaDoorPj
import Derived.Test.YtfdhkijgolgnfaaDoorPl
section
set_option linter.unusedVariables false
set_option linter.unusedSimpArgs false
namespace Go.Ideal
section
variable {N : Nat} {st st1 st2 : St} {P : Program} {G : Nat → Option Value} {K : St → Prop}
def b5j (N : Nat) (a b : St) : Prop := (∀ u, u < N → b.s u = a.s u) ∧ ∀ u, b.ep u = a.ep u
@[congr] theorem d93 {a b b' : St} (h : b = b') : b5j N a b = b5j N a b' := by rw [h]
@[go_sem] theorem e2q : b5j N st st = True := by simp [b5j]
def d8m (N : Nat) (a b : St) : Prop := b5j N a b
@[go_sem] theorem e4o {t : Nat} {v : AV} : b5j N st1 (st2.put t v) = frI (decide (N ≤ t) && !(a0e v).isSome) (b5j N st1 st2) (d8m N st1 (st2.put t v)) := by
  simp only [frI, d8m]
  split
  · rename_i h
    simp only [Bool.and_eq_true, decide_eq_true_eq, Bool.not_eq_true'] at h
    apply propext
    simp only [b5j, St.put_s, St.put_ep, h.2, Bool.false_eq_true, and_false, if_false]
    constructor
    · rintro ⟨h1, h2⟩
      exact ⟨fun u hu => by have := h1 u hu; rwa [if_neg (by omega)] at this, h2⟩
    · rintro ⟨h1, h2⟩
      exact ⟨fun u hu => by rw [if_neg (by omega)]; exact h1 u hu, h2⟩
  · rfl
theorem d2b {T : List (Nat × AV)} {d : Option Nat} {res : AV} (h : b5j N st1 st2) : d2l st2 N T d res = d2l st1 N T d res := by
  have e : st2.lentS N T = st1.lentS N T := by
    refine St.ext' (fun u => ?_) (fun u => h.2 u)
    simp only [St.lentS]
    by_cases hu : u < N
    · simp [hu, h.1 u hu]
    · simp [hu]
  cases d <;> simp only [d2l, e]
theorem b48 {d : Option Nat} {res : AV} (h : b5j N st1 st2) : b3o st2 N d res = b3o st1 N d res := by
  have e : st2.clear N = st1.clear N := by
    refine St.ext' (fun u => ?_) (fun u => h.2 u)
    simp only [St.clear]
    by_cases hu : u < N
    · simp [hu, h.1 u hu]
    · simp [hu]
  cases d <;> simp only [b3o, e]
theorem a0y {d : Option Nat} {f : FuncId} {pre : List AV} {L : List (Nat × Nat)} {res : AV} {posts : List (Nat × AV)} (hA : ACallsX P G f pre res posts) (hn : a0l res = true) (hp : posts.map (·.1) = L.map (·.2)) (hv : (posts.all fun p => d2d p.2) = true) (h12 : b5j N st1 st2)
    (h : K (d2l st1 N ((L.map (·.1)).zip (posts.map (·.2))) d res)) : clx P G N d f pre L st1 st2 K := d9t hA hn hp hv h (by rw [d2b h12]; exact h)
theorem b0s {d : Option Nat} {f : FuncId} {pre : List AV} {res : AV} (hA : ACalls P G f pre res) (hn : a0l res = true) (h12 : b5j N st1 st2) (h : K (b3o st1 N d res)) : cal P G N d f pre st1 st2 K := d9e hA hn h (by rw [b48 h12]; exact h)
theorem d3m {aft : DA} {rest : List AO} {fps : List (List Nat × List Nat)} {d : Option Nat} {f : FuncId} {st : St} {pre : List AV} {rd : List Nat} {res : AV} (hA : ACalls P G f pre res) (hn : a0l res = true) (h12 : b5j N st1 st2) (hrd : ∀ t ∈ rd, t < N) (W : List Nat) (hW : ∀ t ∈ W, t < N) (hf : fr N W st (b3o st1 N d res)) (h : b0t aft.2 (b3o st1 N d res) ∧ b3p P G N aft rest (fps ++ [(rd, W)]) K (b3o st1 N d res)) : d8b P G N aft d f pre rd rest fps K st st1 st2 := by
  cases hi : a0r res with
  | true => exact a3r hA hn hi hrd W hW hf h
  | false => exact d7l hA hn hi hrd W hW (by rw [b48 h12]; exact hf) (by rw [b48 h12]; exact h)
end
namespace Tryd
section
variable {bk : Nat → Nat × Nat} {e : Er} {st : St} {N d t j : Nat} {x : X}
@[go_sem] theorem e19 : a0e (a1p bk e) = none := by cases e <;> rfl
@[go_sem] theorem e0x : a19 (a1p bk e) = none := by cases e <;> rfl
@[go_sem] theorem f3e : frz (a1p bk e) = a1p bk e := by cases e <;> simp only [a1p, frz]
@[go_sem] theorem e22 {kl : Nat → List Nat → Bool} : a0z kl (a1p bk e) = a1p bk e := by cases e <;> simp only [a1p, a0z]
@[go_sem] theorem f4c : mvS st d x (a1p bk e) = some (st.put d (a1p bk e)) := by cases e <;> simp [a1p, mvS, a0j]
@[go_sem] theorem e7p : c2a st N d (.t t) (a1p bk e) = some (st.put d (a1p bk e)) := by cases e <;> simp [a1p, go_sem]
@[go_sem] theorem f2h {q : List Nat} {o : Nat} : ldK st t q o (some (a1p bk e)) = some (a1p bk e) := by cases e <;> simp [a1p, ldK, a0j]
@[go_sem] theorem f01 : psS st N (.t t) j (a1p bk e) = some (st.put j (a1p bk e)) := by cases e <;> simp [a1p, go_sem]
@[go_sem] theorem f4g : gvS st N (.t t) j (a1p bk e) = some (st.put j (a1p bk e)) := by cases e <;> simp [a1p, go_sem]
@[go_sem] theorem e4l {i : Nat} {ks : List AV} : e0q st N d (.t t) i ks (some (a1p bk e)) = some (st.put d (a1p bk e)) := by cases e <;> simp [a1p, go_sem]
@[go_sem] theorem f06 : a1g .eql 2 (a1p bk e) (.lit .nilIface) = some (.lit (.bool e.isNil)) := by cases e <;> rfl
@[go_sem] theorem f3x : a1g .neq 2 (a1p bk e) (.lit .nilIface) = some (.lit (.bool !e.isNil)) := by cases e <;> rfl
def kE (st : St) (t : Nat) : Er → St
  | .at _ _ => st.put t .dead
  | _ => st
@[go_sem] theorem f2f : giv st N (.t t) (a1p bk e) = some (kE st t e, [a1p bk e]) := by cases e <;> simp [a1p, go_sem, kE, d8v]
@[go_sem] theorem g5j {u : Nat} (h : u ≠ t) : (kE st t e).s u = st.s u := by cases e <;> simp [kE, h]
@[go_sem] theorem g4h {u : Nat} : (kE st t e).ep u = st.ep u := by cases e <;> simp [kE, St.put_ep, a0e]
end
end Tryd
end Go.Ideal
end
section
set_option linter.unusedVariables false
set_option linter.unusedSimpArgs false
set_option maxRecDepth 10000
namespace Go.Ideal
theorem d99 {x m j : Nat} (hx : x < 2 ^ j) (ht : x + m * 2 ^ j < 2 ^ 63) : a4v (Op.intBits .or .i64 (x : Int) ((m * 2 ^ j : Nat) : Int)) = some (.int .i64 ((x + m * 2 ^ j : Nat) : Int)) := by
  have h1 : (BitVec.ofInt 64 (x : Int) ||| BitVec.ofInt 64 ((m * 2 ^ j : Nat) : Int)).toNat = x + m * 2 ^ j := by
    rw [BitVec.toNat_or, BitVec.ofInt_natCast, BitVec.ofInt_natCast, BitVec.toNat_ofNat, BitVec.toNat_ofNat, Nat.mod_eq_of_lt (by omega), Nat.mod_eq_of_lt (by omega), Nat.or_comm, ← Nat.shiftLeft_eq, ← Nat.shiftLeft_add_eq_or_of_lt hx, Nat.shiftLeft_eq]
    omega
  have h2 : Op.intBits .or .i64 (x : Int) ((m * 2 ^ j : Nat) : Int) = Sem.pure (.int .i64 (IntKind.i64.wrap (BitVec.ofInt 64 (x : Int) ||| BitVec.ofInt 64 ((m * 2 ^ j : Nat) : Int)).toNat)) := rfl
  rw [h2, h1]
  show some (Value.int .i64 (IntKind.i64.wrap ((x + m * 2 ^ j : Nat) : Int))) = _
  rw [b77 (by omega)]
theorem d0h {x m : Int} (j : Nat) {M : Int} (hM : M = 2 ^ j) (h : 0 ≤ x ∧ x < M ∧ 0 ≤ m ∧ x + m * M < 9223372036854775808) : a1g .or 0 (.lit (.int .i64 x)) (.lit (.int .i64 (m * M))) = some (.lit (.int .i64 (x + m * M))) := by
  obtain ⟨h1, h2, h3, h4⟩ := h
  obtain ⟨a, rfl⟩ := Int.eq_ofNat_of_zero_le h1
  obtain ⟨c, rfl⟩ := Int.eq_ofNat_of_zero_le h3
  subst hM
  have e : ((c : Int) * 2 ^ j) = ((c * 2 ^ j : Nat) : Int) := by simp
  have h2' : a < 2 ^ j := by have : (a : Int) < ((2 ^ j : Nat) : Int) := by simpa using h2
                             omega
  have := d99 (x := a) (m := c) (j := j) h2' (by
    have h5 : ((a + c * 2 ^ j : Nat) : Int) < 9223372036854775808 := by rw [e] at h4; simpa using h4
    omega)
  rw [e]
  simp only [a1g, b6i, a07, if_true, this]
  simp
section
variable {x m : Int}
@[go_sem] theorem g3x (h : 0 ≤ x ∧ x < 256 ∧ 0 ≤ m ∧ m < 1099511627776) : a1g .or 0 (.lit (.int .i64 x)) (.lit (.int .i64 (m * 256))) = some (.lit (.int .i64 (x + m * 256))) := d0h 8 rfl (by omega)
@[go_sem] theorem f5n (h : 0 ≤ x ∧ x < 65536 ∧ 0 ≤ m ∧ m < 4294967296) : a1g .or 0 (.lit (.int .i64 x)) (.lit (.int .i64 (m * 65536))) = some (.lit (.int .i64 (x + m * 65536))) := d0h 16 rfl (by omega)
@[go_sem] theorem f98 (h : 0 ≤ x ∧ x < 16777216 ∧ 0 ≤ m ∧ m < 4294967296) : a1g .or 0 (.lit (.int .i64 x)) (.lit (.int .i64 (m * 16777216))) = some (.lit (.int .i64 (x + m * 16777216))) := d0h 24 rfl (by omega)
@[go_sem] theorem g1z {k yk : IntKind} {a b : Int} (h : 0 ≤ b) : a1g .shl 0 (.lit (.int k a)) (.lit (.int yk b)) = some (.lit (.int k (k.wrap (a * 2 ^ min b.toNat k.bits)))) := by
  have : a07 .shl (.int k a) (.int yk b) = some (.int k (k.wrap (a * 2 ^ min b.toNat k.bits))) := by simp [a07, Op.shift, show ¬ b < 0 by omega]; rfl
  simp [a1g, b6i, this]
end
namespace Tryd
structure Rs where
  at_ : Nat
  err : Er
abbrev a7q (bk : Nat → Nat × Nat) (b : List Int) (s : Rs) : AV := .var [slU b, li s.at_, a1p bk s.err]
def a2l (b : List Int) : Prop := ∀ x ∈ b, 0 ≤ x ∧ x ≤ 255
def a1m (b : List Int) (s : Rs) : Int × Rs := if s.err.isNil = true then (if s.at_ < b.length then (b[s.at_]!, ⟨s.at_ + 1, s.err⟩) else (0, ⟨s.at_, .s 4⟩)) else (0, s)
def a0m (b : List Int) (s : Rs) : Int × Rs := ((a1m b s).1 + (a1m b (a1m b s).2).1 * 256, (a1m b (a1m b s).2).2)
def s32 (n : Int) : Int := if 2147483648 ≤ n then n - 4294967296 else n
def a01 (b : List Int) (s : Rs) : Int × Rs := (s32 ((a0m b s).1 + (a0m b (a0m b s).2).1 * 65536), (a0m b (a0m b s).2).2)
def b3f (s : Rs) (p : Int) (e : Er) : Rs := if s.err.isNil = true then ⟨s.at_, .at p e⟩ else s
theorem d7s {b : List Int} (hb : a2l b) (i : Nat) : 0 ≤ b[i]! ∧ b[i]! ≤ 255 := by
  by_cases h : i < b.length
  · have := hb _ (List.getElem_mem h)
    simpa [h] using this
  · simp [show b[i]? = none by simp; omega, List.getElem!_eq_getElem?_getD]
theorem a65 {b : List Int} (hb : a2l b) (s : Rs) : 0 ≤ (a1m b s).1 ∧ (a1m b s).1 ≤ 255 := by
  unfold a1m
  split
  · split
    · exact d7s hb _
    · simp
  · simp
theorem a3l {b : List Int} (s : Rs) (h : s.at_ ≤ b.length) : (a1m b s).2.at_ ≤ b.length := by
  unfold a1m
  split
  · split
    · simp only; omega
    · simpa using h
  · simpa using h
theorem b5l {b : List Int} (hb : a2l b) (s : Rs) : 0 ≤ (a0m b s).1 ∧ (a0m b s).1 ≤ 65535 := by
  have h1 := a65 hb s
  have h2 := a65 hb (a1m b s).2
  unfold a0m
  simp only
  omega
theorem a5e {b : List Int} (s : Rs) (h : s.at_ ≤ b.length) : (a0m b s).2.at_ ≤ b.length := a3l _ (a3l _ h)
theorem a1a {b : List Int} (s : Rs) (h : s.at_ ≤ b.length) : (a01 b s).2.at_ ≤ b.length := a5e _ (a5e _ h)
section
variable {G : Nat → Option Value} {bk : Nat → Nat × Nat} {Q : Exit → St → Prop} {st : St} {b : List Int}
theorem c5u (hS : Sent5 G bk) (hB : a2l b) (hl : b.length < 2 ^ 40) (s : Rs) (ha : s.at_ ≤ b.length) : ACallsX pg G b45 [a7q bk b s] (li (a1m b s).1) [(0, a7q bk b (a1m b s).2)] := by
  refine a8v (pins := [0]) (by kernel_rfl) rfl rfl (by simp [go_sem]) rfl ?_
  obtain ⟨a, e⟩ := s
  simp only at ha
  cases he : e.isNil with
  | true =>
    by_cases hlt : a < b.length
    · simp (disch := omega) [go_sem, a2k]
      refine a2i ?_
      simp (disch := omega) [go_sem, he]
      refine a13 (by decide) fun s2 hs hep => ?_
      have hlt' : ¬ (b.length : Int) ≤ a := by omega
      simp (disch := omega) [go_sem, hs, hep, he, hlt', hlt]
      refine a2i ?_
      simp (disch := omega) [go_sem, hs, hep, he, hlt]
      refine a13 (by decide) fun s3 hs3 hep3 => ?_
      have hr := hB _ (List.getElem_mem hlt)
      simp (disch := omega) [go_sem, hs3, hs, hep, a1m, he, hlt]
    · simp (disch := omega) [go_sem, a2k]
      refine a2i ?_
      simp (disch := omega) [go_sem, he]
      refine a13 (by decide) fun s2 hs hep => ?_
      have hlt' : (b.length : Int) ≤ a := by omega
      simp (disch := omega) [go_sem, hs, hep, he, hlt', hlt, hS.val, a1m, a1p]
  | false =>
    simp (disch := omega) [go_sem, a2k]
    refine a2i ?_
    simp (disch := omega) [go_sem, he]
    refine a13 (by decide) fun s2 hs hep => ?_
    simp (disch := omega) [go_sem, hs, hep, he, a1m]
theorem c20 (hS : Sent5 G bk) (hB : a2l b) (hl : b.length < 2 ^ 40) (s : Rs) (ha : s.at_ ≤ b.length) : ACallsX pg G b15 [a7q bk b s] (li (a0m b s).1) [(0, a7q bk b (a0m b s).2)] := by
  refine a71 (pins := [0]) (by kernel_rfl) rfl rfl (by simp [go_sem]) rfl ?_
  have r1 := a65 hB s
  have r2 := a65 hB (a1m b s).2
  simp (disch := omega) [go_sem, a5o]
  refine a0y (c5u hS hB hl s ha) rfl rfl rfl (by simp (disch := omega) [go_sem]) ?_
  simp (disch := omega) [go_sem]
  refine a0y (c5u hS hB hl (a1m b s).2 (a3l s ha)) rfl rfl rfl (by simp (disch := omega) [go_sem]) ?_
  simp (disch := omega) [go_sem, a0m]
theorem d5c (n : Int) (h : 0 ≤ n ∧ n < 4294967296) : ACalls pg G d04 [li n] (li (s32 n)) := by
  refine b9n rfl ?_
  have e : IntKind.i64.wrap (IntKind.i32.wrap (IntKind.u32.wrap (IntKind.u64.wrap n))) = s32 n := by
    rw [IntKind.wrap_i64, IntKind.wrap_i32, IntKind.wrap_u32, IntKind.wrap_u64]
    unfold s32
    omega
  simp (disch := omega) [go_sem, b8g, e]
theorem a51 (hS : Sent5 G bk) (hB : a2l b) (hl : b.length < 2 ^ 40) (s : Rs) (ha : s.at_ ≤ b.length) : ACallsX pg G b1n [a7q bk b s] (li (a01 b s).1) [(0, a7q bk b (a01 b s).2)] := by
  refine a61 (pins := [0]) (by kernel_rfl) rfl rfl (by simp [go_sem]) rfl ?_
  have r1 := b5l hB s
  have r2 := b5l hB (a0m b s).2
  simp (disch := omega) [go_sem, a4x]
  refine a0y (c20 hS hB hl s ha) rfl rfl rfl (by simp (disch := omega) [go_sem]) ?_
  simp (disch := omega) [go_sem]
  refine a0y (c20 hS hB hl (a0m b s).2 (a5e s ha)) rfl rfl rfl (by simp (disch := omega) [go_sem]) ?_
  simp (disch := omega) [go_sem]
  refine a0w (d5c ((a0m b s).1 + (a0m b (a0m b s).2).1 * 65536) (by omega)) rfl rfl ?_
  simp (disch := omega) [go_sem, a01]
theorem c8r (s : Rs) (p : Int) (e : Er) : ACallsX pg G b5k [a7q bk b s, li p, a1p bk e] (.tup []) [(0, a7q bk b (b3f s p e))] := by
  refine b0l (pins := [0]) (by kernel_rfl) rfl rfl (by simp [go_sem]) rfl ?_
  obtain ⟨a, er⟩ := s
  cases he : er.isNil with
  | true =>
    simp (disch := omega) [go_sem, a35, he, b3f, a1p]
  | false =>
    simp (disch := omega) [go_sem, a35, he, b3f]
def a4w (most : Int) (rd : Rs → Int × Rs) (s : Rs) : Int × Rs := if (rd s).2.err.isNil = true then (if most < (rd s).1 then (0, b3f (rd s).2 s.at_ (.s 2)) else rd s) else (0, (rd s).2)
structure Reads (G : Nat → Option Value) (bk : Nat → Nat × Nat) (b : List Int) (f : FuncId) (rd : Rs → Int × Rs) : Prop where
  fn : fnB pg f = true
  call : ∀ s, s.at_ ≤ b.length → ACallsX pg G f [a7q bk b s] (li (rd s).1) [(0, a7q bk b (rd s).2)]
  at_ : ∀ s, s.at_ ≤ b.length → (rd s).2.at_ ≤ b.length
theorem d4x (hS : Sent5 G bk) (hl : b.length < 2 ^ 40) {f : FuncId} {rd : Rs → Int × Rs} (hr : Reads G bk b f rd) (most : Int) (s : Rs) (ha : s.at_ ≤ b.length) : ACallsX pg G b49 [a7q bk b s, li most, .fn f [.ref 0 [] 0 0] []] (li (a4w most rd s).1) [(0, a7q bk b (a4w most rd s).2)] := by
  refine b0c (pins := [0]) (by kernel_rfl) rfl rfl (by simp [go_sem]) rfl ?_
  have hfn := hr.fn
  have hat := hr.at_ s ha
  have h2 := hS.val 2 (by decide)
  simp (disch := omega) [go_sem, a66, hfn]
  refine a0y (hr.call s ha) rfl rfl rfl (by simp (disch := omega) [go_sem]) ?_
  generalize hp : rd s = p at *
  obtain ⟨n, a, e⟩ := p
  simp only at hat
  cases he : e.isNil with
  | true =>
    by_cases hm : most < n
    · simp (disch := omega) [go_sem, he, hm, h2]
      refine a0y (c8r (b := b) ⟨a, e⟩ s.at_ (.s 2)) rfl rfl rfl (by simp (disch := omega) [go_sem]) ?_
      have hn : (Er.at (s.at_ : Int) (.s 2)).isNil = false := rfl
      simp (disch := omega) [go_sem, b3f, he, hn, a4w, hp, hm]
    · simp (disch := omega) [go_sem, he, hm, a4w, hp]
  | false =>
    simp (disch := omega) [go_sem, he, a4w, hp]
end
end Tryd
end Go.Ideal
end
section
set_option linter.unusedVariables false
set_option linter.unusedSimpArgs false
set_option maxRecDepth 10000
namespace Go.Ideal
section
variable {G : Nat → Option Value} {N d : Nat} {st : St}
def e6i (G : Nat → Option Value) (st : St) (N d : Nat) (s t : TypeId) (x : X) (v : AV) : Option St := match v with
  | .sl n ks => gO (ks.length = n) (b6d st d ((bytesOf ks).map fun s => .lit (.string s)))
  | _ => evS G N (some d) (.conv s t .str x) st
@[congr] theorem e4f {s t : TypeId} {x : X} {v v' : AV} (h : v = v') : e6i G st N d s t x v = e6i G st N d s t x v' := by rw [h]
@[go_sem] theorem f8p {s t : TypeId} {x : X} {n : Nat} {ks : List AV} : e6i G st N d s t x (.sl n ks) = gO (ks.length = n) (b6d st d ((bytesOf ks).map fun s => .lit (.string s))) := (rfl)
@[go_sem] theorem e8g {s t : TypeId} {x : X} : evS G N (some d) (.conv s t .str x) st = e6i G st N d s t x (rdv st x) := by
  cases hv : rdv st x <;> try rfl
  rename_i n ks
  simp only [e6i, evS, a06, Ev.run_bind, a0p, hv, Option.bind, a0d, gO]
  by_cases h : ks.length = n
  · simp only [h, decide_true, if_true, a0v]
    cases bytesOf ks <;> rfl
  · simp only [h, decide_false, Bool.false_eq_true, if_false]; rfl
@[go_sem] theorem f8m {a c : ByteArray} : a1g .neq 0 (.lit (.string a)) (.lit (.string c)) = some (.lit (.bool (!decide (a = c)))) := by
  have : a07 .neq (.string a) (.string c) = some (.bool (!(a.toList == c.toList))) := rfl
  simp only [a1g, b6i, this, if_true, Option.map_some, ByteArray.toList_eq]
  have e : (a.data.toList == c.data.toList) = decide (a = c) := by
    by_cases h : a = c
    · subst h; simp
    · have : a.data.toList ≠ c.data.toList := fun hh => h (by cases a; cases c; simp only [ByteArray.mk.injEq]; exact Array.toList_inj.1 hh)
      rw [decide_eq_false h]
      simpa using this
  rw [e]
@[go_sem] theorem e6d {T : List (Nat × AV)} {t : Nat} : a5u T t [] = false := by unfold a5u; cases T.lookup t <;> rfl
theorem e9b (x y : Int) : bytesOf [.lit (.int .u8 x), .lit (.int .u8 y)] = some ⟨#[UInt8.ofNat x.toNat, UInt8.ofNat y.toNat]⟩ := rfl
theorem g4v {x y : Int} {p q : UInt8} (hx : 0 ≤ x ∧ x ≤ 255) (hy : 0 ≤ y ∧ y ≤ 255) : ((⟨#[UInt8.ofNat x.toNat, UInt8.ofNat y.toNat]⟩ : ByteArray) = ⟨#[p, q]⟩) ↔ (x = p.toNat ∧ y = q.toNat) := by
  have key : ∀ (z : Int) (r : UInt8), 0 ≤ z ∧ z ≤ 255 → (UInt8.ofNat z.toNat = r ↔ z = r.toNat) := by
    intro z r hz
    constructor
    · intro h
      have := congrArg UInt8.toNat h
      rw [UInt8.toNat_ofNat', Nat.mod_eq_of_lt (by omega)] at this
      omega
    · intro h
      apply UInt8.toNat_inj.1
      rw [UInt8.toNat_ofNat', Nat.mod_eq_of_lt (by omega)]
      omega
  simp only [ByteArray.mk.injEq, Array.mk.injEq, List.cons.injEq, and_true, key x p hx, key y q hy]
end
namespace Tryd
theorem d1n {most : Int} {rd : Rs → Int × Rs} (h : ∀ s, 0 ≤ (rd s).1) (hm : 0 ≤ most) (s : Rs) : 0 ≤ (a4w most rd s).1 ∧ (a4w most rd s).1 ≤ most := by
  unfold a4w
  have := h s
  split
  · split
    · simp only; omega
    · omega
  · simp only; omega
theorem c15 (s : Rs) (p : Int) (e : Er) : (b3f s p e).at_ = s.at_ := by unfold b3f; split <;> rfl
theorem d0i {most : Int} {rd : Rs → Int × Rs} {b : List Int} (h : ∀ s, s.at_ ≤ b.length → (rd s).2.at_ ≤ b.length) (s : Rs) (ha : s.at_ ≤ b.length) : (a4w most rd s).2.at_ ≤ b.length := by
  have := h s ha
  unfold a4w
  split
  · split
    · rw [c15]; exact this
    · exact this
  · exact this
def a1y (rd : Rs → Int × Rs) : Nat → List Int → Rs → List Int × Rs
  | 0, l, s => (l, s)
  | n + 1, l, s => if s.err.isNil = true then a1y rd n (l ++ [(rd s).1]) (rd s).2 else (l, s)
def b7b (b : List Int) (rd : Rs → Int × Rs) (s : Rs) : List Int × Rs := a1y rd (a4w 8 (a1m b) s).1.toNat [] (a4w 8 (a1m b) s).2
theorem b7s {rd : Rs → Int × Rs} {b : List Int} (h : ∀ s, s.at_ ≤ b.length → (rd s).2.at_ ≤ b.length) : ∀ (n : Nat) (l : List Int) (s : Rs), s.at_ ≤ b.length → (a1y rd n l s).2.at_ ≤ b.length
  | 0, l, s, ha => ha
  | n + 1, l, s, ha => by
    unfold a1y
    split
    · exact b7s h n _ _ (h s ha)
    · exact ha
def a33 (b : List Int) (p q : UInt8) (s : Rs) : Rs := if b.length < 2 then ⟨s.at_, .s 4⟩ else ⟨2, (if b[0]! = p.toNat ∧ b[1]! = q.toNat then s else b3f s 0 (.s 5)).err⟩
def c27 (b : List Int) (s : Rs) : Rs := if s.err.isNil = true ∧ s.at_ < b.length then b3f s s.at_ (.s 2) else s
section
variable {G : Nat → Option Value} {bk : Nat → Nat × Nat} {Q : Exit → St → Prop} {st : St} {b : List Int}
theorem d9n (hS : Sent5 G bk) (hB : a2l b) (hl : b.length < 2 ^ 40) : Reads G bk b 84 (a1m b) := ⟨b1s, fun s ha => c5u hS hB hl s ha, fun s ha => a3l s ha⟩
theorem c34 (hS : Sent5 G bk) (hB : a2l b) (hl : b.length < 2 ^ 40) : Reads G bk b 83 (a0m b) := ⟨a9a, fun s ha => c20 hS hB hl s ha, fun s ha => a5e s ha⟩
theorem d4s (hS : Sent5 G bk) (hB : a2l b) (hl : b.length < 2 ^ 40) : Reads G bk b 86 (a01 b) := ⟨a81, fun s ha => a51 hS hB hl s ha, fun s ha => a1a s ha⟩
theorem c65 (hS : Sent5 G bk) (hB : a2l b) (hl : b.length < 2 ^ 40) {f : FuncId} {rd : Rs → Int × Rs} (hr : Reads G bk b f rd) (s : Rs) (ha : s.at_ ≤ b.length) : ACallsX pg G a90 [a7q bk b s, .fn f [.ref 0 [] 0 0] []] (owI (b7b b rd s).1) [(0, a7q bk b (b7b b rd s).2)] := by
  refine a6i (pins := [0]) (by kernel_rfl) rfl rfl (by simp [go_sem]) rfl ?_
  have hfn := hr.fn
  have hrng := d1n (most := 8) (rd := a1m b) (fun s => (a65 hB s).1) (by omega) s
  have hat := d0i (most := 8) (rd := a1m b) (b := b) (fun s h => a3l s h) s ha
  simp (disch := omega) [go_sem, a4i]
  refine a0y (d4x hS hl (d9n hS hB hl) 8 s ha) rfl rfl rfl (by simp (disch := omega) [go_sem]) ?_
  simp (disch := omega) [go_sem]
  unfold b7b
  generalize hp : a4w 8 (a1m b) s = p at *
  obtain ⟨m, s1⟩ := p
  simp only at hrng hat ⊢
  obtain ⟨n0, rfl⟩ := Int.eq_ofNat_of_zero_le hrng.1
  simp only [Int.ofNat_eq_natCast, Int.toNat_natCast]
  refine a02 (Nat × List Int × Rs) (fun p st => p.2.2.at_ ≤ b.length ∧ p.2.1.length + p.1 ≤ 8 ∧ a1y rd p.1 p.2.1 p.2.2 = a1y rd n0 [] s1 ∧ st.ep 0 = 0 ∧ st.s 0 = a7q bk b p.2.2 ∧ st.s 1 = .fn f [.ref 0 [] 0 0] [] ∧ st.s 5 = owI p.2.1 ∧ st.s 6 = li p.1) (fun p => p.1) (n0, [], s1) ⟨hat, by simp; omega, rfl, by simp (disch := omega) [go_sem], by simp (disch := omega) [go_sem]⟩ ?_
  rintro ⟨n, l, a, e⟩ st K ⟨h1, h2, hm, h0, h⟩ hK
  simp only at h1 h2 hm h
  cases n with
  | zero =>
    rw [a1y] at hm
    rw [← hm]
    simp (disch := omega) [go_sem, a1l, h]
  | succ n =>
    rw [a1y] at hm
    cases he : e.isNil with
    | true =>
      simp only [he, if_true] at hm
      have hpos : (0 : Int) < ((n + 1 : Nat) : Int) := by omega
      simp (disch := omega) [go_sem, a1l, h, h0, he, hpos, hfn]
      refine a0y (hr.call ⟨a, e⟩ h1) rfl rfl rfl (by simp (disch := omega) [go_sem]) ?_
      simp (disch := omega) [go_sem, h, h0]
      exact hK (n, l ++ [(rd ⟨a, e⟩).1], (rd ⟨a, e⟩).2) _ ⟨hr.at_ _ h1, by simp; omega, hm, by simp (disch := omega) [go_sem, h0], by simp (disch := omega) [go_sem, h, h0]⟩ (by simp only; omega)
    | false =>
      simp only [he, Bool.false_eq_true, if_false] at hm
      have hpos : (0 : Int) < ((n + 1 : Nat) : Int) := by omega
      rw [← hm]
      simp (disch := omega) [go_sem, a1l, h, h0, he, hpos]
theorem e7y (hS : Sent5 G bk) (hB : a2l b) (hl : b.length < 2 ^ 40) (p q : UInt8) (s : Rs) : ACallsX pg G b44 [a7q bk b s, .lit (.string ⟨#[p, q]⟩)] (.tup []) [(0, a7q bk b (a33 b p q s))] := by
  refine a8t (pins := [0]) (by kernel_rfl) rfl rfl (by simp [go_sem]) rfl ?_
  obtain ⟨a, e⟩ := s
  have h4 := hS.val 4 (by decide)
  have h5 := hS.val 5 (by decide)
  have hsz : (⟨#[p, q]⟩ : ByteArray).size = 2 := rfl
  by_cases k : b.length < 2
  · have k' : (b.length : Int) < 2 := by omega
    simp (disch := omega) [go_sem, a3k, hsz, k', h4, a33, k, a1p]
  · have k' : ¬ (b.length : Int) < 2 := by omega
    match b, k, k', hl, hB with
    | [], k, _, _, _ => exact absurd (by simp) k
    | [_], k, _, _, _ => exact absurd (by simp) k
    | x :: y :: r, k, k', hl, hB =>
      have hx := hB x (by simp)
      have hy := hB y (by simp)
      simp only [List.length_cons] at k' hl
      have hs2 := g4v (p := p) (q := q) hx hy
      simp (disch := omega) [go_sem, a3k, hsz, k', h5, e9b, hs2]
      by_cases hpq : x = (p.toNat : Int) ∧ y = (q.toNat : Int)
      · have hk : ¬ r.length + 1 + 1 < 2 := by omega
        simp (disch := omega) [go_sem, hpq, a33, hk]
      · have hk : ¬ r.length + 1 + 1 < 2 := by omega
        have hd : (!decide (x = (p.toNat : Int)) || !decide (y = (q.toNat : Int))) = true := by
          by_cases h1 : x = (p.toNat : Int)
          · by_cases h2 : y = (q.toNat : Int)
            · exact absurd ⟨h1, h2⟩ hpq
            · simp [h2]
          · simp [h1]
        have hh : a33 (x :: y :: r) p q ⟨a, e⟩ = ⟨2, (b3f ⟨a, e⟩ 0 (.s 5)).err⟩ := by
          unfold a33
          rw [if_neg k, if_neg]
          exact hpq
        simp (disch := omega) [go_sem, hd, h5]
        refine a0y (c8r (b := x :: y :: r) ⟨a, e⟩ 0 (.s 5)) rfl rfl rfl (by simp (disch := omega) [go_sem]) ?_
        simp (disch := omega) [go_sem, hh]
theorem g0p (hS : Sent5 G bk) (hl : b.length < 2 ^ 40) (s : Rs) (ha : s.at_ ≤ b.length) : ACallsX pg G b47 [a7q bk b s] (a1p bk (c27 b s).err) [(0, a7q bk b (c27 b s))] := by
  refine a9l (pins := [0]) (by kernel_rfl) rfl rfl (by simp [go_sem]) rfl ?_
  have h2 := hS.val 2 (by decide)
  obtain ⟨a, e⟩ := s
  cases he : e.isNil with
  | true =>
    simp (disch := omega) [go_sem, a39]
    refine a2i ?_
    simp (disch := omega) [go_sem, he]
    refine a13 (by decide) fun s2 hs hep => ?_
    by_cases hlt : a < b.length
    · simp (disch := omega) [go_sem, hs, hep, hlt]
      refine a56 [(0, s2.ep 0)] (by simp) (by simp (disch := omega) [go_sem, hs]) ?_
      simp (disch := omega) [go_sem, hs, hep, h2]
      refine d2c (fs := []) (cs := []) (L := [(0, 0)]) [0, 20, 24, 25] (c8r (bk := bk) (b := b) ⟨a, e⟩ a (.s 2)) rfl (by simp (disch := omega) [go_sem, hs, hep, a1p]) ?_
      simp (disch := omega) [go_sem, hs, hep]
      refine a13 (by decide) fun s3 hs3 hep3 => ?_
      simp (disch := omega) [go_sem, hs3, hep3, hs, hep, c27, he, hlt]
    · simp (disch := omega) [go_sem, hs, hep, hlt, c27, he]
  | false =>
    simp (disch := omega) [go_sem, a39]
    refine a2i ?_
    simp (disch := omega) [go_sem, he]
    refine a13 (by decide) fun s2 hs hep => ?_
    simp (disch := omega) [go_sem, hs, hep, c27, he]
end
end Tryd
end Go.Ideal
end
section
set_option linter.unusedVariables false
set_option linter.unusedSimpArgs false
set_option maxRecDepth 10000
namespace Go.Ideal.Tryd
theorem d9c (n : Int) : IntKind.i8.wrap n = (n + 128) % 256 - 128 := by
  simp [IntKind.wrap, IntKind.bits, IntKind.signed]
  split <;> omega
def s8 (n : Int) : Int := if 128 ≤ n then n - 256 else n
def a8h (w : Bool) (b : List Int) (i : Nat) : Int := if w = true then s32 (b[4 * i]! + b[4 * i + 1]! * 256 + b[4 * i + 2]! * 65536 + b[4 * i + 3]! * 16777216) else s8 b[i]!
def b2g (w : Bool) (b : List Int) (n : Nat) : List Int := (List.range n).map (a8h w b)
theorem d5b (sh : List Int) (w : Bool) : a14 sh w = (if w = true then 4 else 1) * a1n sh := by unfold a14; split <;> omega
section
variable {G : Nat → Option Value} {bk : Nat → Nat × Nat} {Q : Exit → St → Prop} {st : St} {b : List Int}
theorem d9h (hB : a2l b) (hl : b.length < 2 ^ 40) (w : Bool) (i : Nat) (hi : (if w = true then 4 * i + 4 else i + 1) ≤ b.length) : ACalls pg G c9u [slU b, li i, lb w] (li (a8h w b i)) := by
  refine c07 rfl ?_
  cases w with
  | false =>
    simp only [Bool.false_eq_true, if_false] at hi
    have h1 : i < b.length := by omega
    have r1 := hB _ (List.getElem_mem h1)
    have e : IntKind.i64.wrap (IntKind.i8.wrap b[i]) = s8 b[i] := by
      rw [IntKind.wrap_i64, d9c]
      unfold s8
      omega
    simp (disch := omega) [go_sem, b2d, a8h, h1, e]
  | true =>
    simp only [if_true] at hi
    obtain ⟨c, hC⟩ : ∃ c, c = b.drop (4 * i) := ⟨_, rfl⟩
    have hcl : c.length = b.length - 4 * i := by rw [hC]; simp
    have hd : ((b.length : Int) - 4 * i).toNat = c.length := by omega
    have ht : ((4 : Int) * (i : Int)).toNat = 4 * i := by omega
    have hm : List.take c.length (List.drop (4 * i) (List.map lu b)) = c.map lu := by
      rw [← List.map_drop, ← hC]; exact List.take_of_length_le (by simp)
    have hc : 4 * (i : Int) ≤ b.length := by omega
    have hcB : a2l c := fun x hx => hB x (by rw [hC] at hx; exact List.mem_of_mem_drop hx)
    have g : ∀ k, k < 4 → b[4 * i + k]! = c[k]! := fun k hk => by rw [hC]; simp [List.getElem!_eq_getElem?_getD, List.getElem?_drop]
    have r0 := hcB _ (List.getElem_mem (show 0 < c.length by omega))
    have r1 := hcB _ (List.getElem_mem (show 1 < c.length by omega))
    have r2 := hcB _ (List.getElem_mem (show 2 < c.length by omega))
    have r3 := hcB _ (List.getElem_mem (show 3 < c.length by omega))
    have et : a8h true b i = s32 (c[0]'(by omega) + c[1]'(by omega) * 256 + c[2]'(by omega) * 65536 + c[3]'(by omega) * 16777216) := by
      have h0 := g 0 (by omega)
      have h1 := g 1 (by omega)
      have h2 := g 2 (by omega)
      have h3 := g 3 (by omega)
      rw [Nat.add_zero] at h0
      simp only [a8h, if_true, h0, h1, h2, h3]
      simp [show 0 < c.length by omega, show 1 < c.length by omega, show 2 < c.length by omega, show 3 < c.length by omega]
    simp (disch := omega) [go_sem, b2d, hd, ht, hm, hc, et]
    refine a2i ?_
    simp (disch := omega) [go_sem]
    refine a3r (d5c _ (by omega)) rfl rfl (by simp) [34] (by simp) (by simp (disch := omega) [go_sem]) ?_
    simp (disch := omega) [go_sem]
    refine a13 (by decide) fun s2 hs he => ?_
    simp (disch := omega) [go_sem, hs]
end
end Go.Ideal.Tryd
end
section
set_option linter.unusedVariables false
set_option linter.unusedSimpArgs false
set_option maxRecDepth 10000
namespace Go.Ideal
section
variable {x : Int}
theorem g4j : ∀ n : Nat, n < 256 → (BitVec.ofNat 8 n &&& 8#8).toNat = if n / 8 % 2 = 1 then 8 else 0 := by decide
theorem d9o : ∀ n : Nat, n < 256 → (BitVec.ofNat 64 n &&& ~~~(8#64)).toNat = if n / 8 % 2 = 1 then n - 8 else n := by decide
@[go_sem] theorem f6o (h : 0 ≤ x ∧ x ≤ 255) : a1g .and 0 (.lit (.int .u8 x)) (.lit (.int .u8 8)) = some (.lit (.int .u8 (if x / 8 % 2 = 1 then 8 else 0))) := by
  obtain ⟨n, rfl⟩ := Int.eq_ofNat_of_zero_le h.1
  have h1 := g4j n (by omega)
  have h2 : Op.intBits .and .u8 (n : Int) 8 = Sem.pure (.int .u8 (IntKind.u8.wrap (BitVec.ofInt 8 (n : Int) &&& BitVec.ofInt 8 8).toNat)) := rfl
  have h3 : BitVec.ofInt 8 (n : Int) = BitVec.ofNat 8 n := BitVec.ofInt_natCast ..
  simp only [a1g, b6i, a07, if_true, h2, h3, a4v, Option.map_some]
  have h4 : (BitVec.ofNat 8 n &&& BitVec.ofInt 8 8).toNat = if n / 8 % 2 = 1 then 8 else 0 := h1
  rw [h4, IntKind.wrap_u8]
  by_cases k : n / 8 % 2 = 1
  · have k' : (n : Int) / 8 % 2 = 1 := by omega
    simp [k, k']
  · have k' : ¬ (n : Int) / 8 % 2 = 1 := by omega
    simp [k, k']
@[go_sem] theorem e4i (h : 0 ≤ x ∧ x ≤ 255) : a1g .andNot 0 (.lit (.int .i64 x)) (.lit (.int .i64 8)) = some (.lit (.int .i64 (if x / 8 % 2 = 1 then x - 8 else x))) := by
  obtain ⟨n, rfl⟩ := Int.eq_ofNat_of_zero_le h.1
  have h1 := d9o n (by omega)
  have h2 : Op.intBits .andNot .i64 (n : Int) 8 = Sem.pure (.int .i64 (IntKind.i64.wrap (BitVec.ofInt 64 (n : Int) &&& ~~~(BitVec.ofInt 64 8)).toNat)) := rfl
  have h3 : BitVec.ofInt 64 (n : Int) = BitVec.ofNat 64 n := BitVec.ofInt_natCast ..
  simp only [a1g, b6i, a07, if_true, h2, h3, a4v, Option.map_some]
  have h4 : (BitVec.ofNat 64 n &&& ~~~(BitVec.ofInt 64 8)).toNat = if n / 8 % 2 = 1 then n - 8 else n := h1
  rw [h4, IntKind.wrap_i64]
  by_cases k : n / 8 % 2 = 1
  · have k' : (n : Int) / 8 % 2 = 1 := by omega
    rw [if_pos k, if_pos k']
    simp only [Option.some.injEq, AV.lit.injEq, Value.int.injEq, true_and]
    omega
  · have k' : ¬ (n : Int) / 8 % 2 = 1 := by omega
    rw [if_neg k, if_neg k']
    simp only [Option.some.injEq, AV.lit.injEq, Value.int.injEq, true_and]
    omega
end
namespace Tryd
section
variable {G : Nat → Option Value} {bk : Nat → Nat × Nat} {Q : Exit → St → Prop} {st : St} {b : List Int}
theorem e1a (hS : Sent5 G bk) (sh : List Int) (w : Bool) (ok : b9e sh = true) (hlen : sh.length < 2 ^ 40) : ACalls pg G d0v [.agg [slI sh, lb w]] (.tup [.agg [owI sh, lb w, owI (List.replicate (a1n sh).toNat 0)], .lit .nilIface]) := by
  refine b88 rfl ?_
  have hv := b34 (G := G) hS.three sh w (by omega)
  rw [a2j.2 ok] at hv
  simp only [a1p] at hv
  have hr := a34 sh
  simp (disch := omega) [go_sem, b8b]
  refine a0w hv rfl rfl ?_
  simp (disch := omega) [go_sem]
  refine a2i ?_
  simp (disch := omega) [go_sem]
  refine a3r (d6u sh w hlen) rfl (by simp [a0r, a08, b4j]) (by simp) [12] (by simp) (by simp (disch := omega) [go_sem]) ?_
  simp (disch := omega) [go_sem]
  refine a3r (c4v hS.three sh (by omega)) rfl rfl (by simp) [15] (by simp) (by simp (disch := omega) [go_sem]) ?_
  simp (disch := omega) [go_sem]
  refine a13 (by decide) fun s2 hs he => ?_
  simp (disch := omega) [go_sem, hs]
theorem f6k (hB : a2l b) (hl : b.length < 2 ^ 40) {sh : List Int} {w : Bool} {n : Nat} {d0 : List Int} (hn : (if w = true then 4 * n else n) ≤ b.length) (hd0 : d0.length = n) (h : st.s 1 = slU b ∧ st.s 2 = .var [slI sh, lb w] ∧ st.s 4 = .var [.own 1 0 [], lb false, .own 1 0 []] ∧ st.s 8 = .var [owI sh, lb w, owI d0] ∧ st.s 9 = .lit .nilIface ∧ st.s 40 = li n ∧ st.s 41 = li 0)
    (hex : ∀ s, s.s 4 = .var [.own 1 0 [], lb false, .own 1 0 []] ∧ s.s 8 = .var [owI sh, lb w, owI (b2g w b n)] ∧ s.s 9 = .lit .nilIface → Q (.exit 1) s) : AW pg G 56 (.loop b0r) Q st := by
  have hnn : n < 2 ^ 40 := by split at hn <;> omega
  refine a02 (Nat × List Int) (fun p st => p.1 ≤ n ∧ p.2.length = n ∧ (∀ j, j < p.1 → p.2[j]! = a8h w b j) ∧ st.s 1 = slU b ∧ st.s 2 = .var [slI sh, lb w] ∧ st.s 4 = .var [.own 1 0 [], lb false, .own 1 0 []] ∧ st.s 8 = .var [owI sh, lb w, owI p.2] ∧ st.s 9 = .lit .nilIface ∧ st.s 40 = li n ∧ st.s 41 = li p.1) (fun p => n - p.1) (0, d0) ⟨by simp, hd0, fun j hj => by omega, h⟩ ?_
  clear h
  rintro ⟨i, d⟩ st K ⟨hi, hd, hm, h⟩ hK
  simp only at hi hd hm h
  by_cases hlt : i < n
  · have hid : i < d.length := by omega
    have hic : (i : Int) < (d.length : Int) := by omega
    simp (disch := omega) [go_sem, b0r, h, hlt]
    refine a2i ?_
    simp (disch := omega) [go_sem, h, hlt]
    refine a3r (d9h hB hl w i (by split <;> rename_i hw <;> simp [hw] at hn <;> omega)) rfl rfl (by simp) [51] (by simp) (by simp (disch := omega) [go_sem, h]) ?_
    simp (disch := omega) [go_sem, h, hlt]
    refine a13 (by decide) fun s2 hs he => ?_
    simp (disch := omega) [go_sem, hs, h]
    refine hK (i + 1, d.set i (a8h w b i)) _ ⟨by simp only; omega, by simpa using hd, fun j hj => ?_, by simp (disch := omega) [go_sem, hs, h, hid]⟩ (by simp only; omega)
    simp only at hj ⊢
    by_cases hji : j = i
    · subst hji; simp [hid]
    · have := hm j (by omega)
      rw [← this]
      simp [List.getElem!_eq_getElem?_getD, List.getElem?_set, show i ≠ j by omega]
  · obtain rfl : i = n := by omega
    have e : d = b2g w b i := by
      apply List.ext_getElem
      · simp [b2g, hd]
      · intro j h1 h2
        have := hm j (by omega)
        simp only [List.getElem!_eq_getElem?_getD, h1, List.getElem?_eq_getElem, Option.getD_some] at this
        rw [this]
        simp [b2g]
    subst e
    simp (disch := omega) [go_sem, b0r, h]
    exact hex _ (by simp (disch := omega) [go_sem, h])
theorem f9g (hS : Sent5 G bk) (hB : a2l b) (hl : b.length < 2 ^ 40) (sh : List Int) (w : Bool) (ok : b9e sh = true) (hlen : sh.length < 2 ^ 40) (hbl : (b.length : Int) = a14 sh w) : ACalls pg G d5t [.agg [slI sh, lb w], slU b] (.tup [.agg [owI sh, lb w, owI (b2g w b (a1n sh).toNat)], .lit .nilIface]) := by
  refine c7f rfl ?_
  have hv := b34 (G := G) hS.three sh w (by omega)
  rw [a2j.2 ok] at hv
  simp only [a1p] at hv
  have hr := a34 sh
  have hn : (if w = true then 4 * (a1n sh).toNat else (a1n sh).toNat) ≤ b.length := by
    unfold a14 at hbl
    cases w <;> simp at hbl ⊢ <;> omega
  simp (disch := omega) [go_sem, c57]
  refine a0w hv rfl rfl ?_
  simp (disch := omega) [go_sem]
  refine a0w (c3g hS.three sh w (by omega)) rfl rfl ?_
  simp (disch := omega) [go_sem, hbl]
  refine a0w (e1a hS sh w ok hlen) rfl (by simp only [a0r, a08, b4j, Bool.and_true]) ?_
  simp (disch := omega) [go_sem]
  refine f6k hB hl (sh := sh) (w := w) (n := (a1n sh).toNat) (d0 := List.replicate (a1n sh).toNat 0) hn (by simp) (by simp (disch := omega) [go_sem]) fun s h => ?_
  simp (disch := omega) [go_sem, h]
end
end Tryd
end Go.Ideal
end
section
set_option linter.unusedVariables false
set_option linter.unusedSimpArgs false
set_option maxRecDepth 10000
namespace Go.Ideal.Tryd
structure Tr where
  sh : List Int
  wide : Bool
  data : List Int
  at_ : Nat
  er : Er
abbrev g48 (bk : Nat → Nat × Nat) (t : Tr) : AV := .tup [e55 t.sh t.wide t.data, li t.at_, a1p bk t.er]
def b5z (b : List Int) : Nat → List Int → Nat → Option (List Int × Nat)
  | 0, l, a => some (l, a)
  | n + 1, l, a => if b.length < a + 2 then none else b5z b n (l ++ [b[a]! + b[a + 1]! * 256]) (a + 2)
def b5p (b : List Int) (w : Bool) (l : List Int) (a : Nat) : Tr :=
  if (b1h l).isNil = true then (if b.length < a + (a14 l w).toNat then ⟨[], false, [], 0, .s 4⟩ else ⟨l, w, b2g w ((b.drop a).take (a14 l w).toNat) (a1n l).toNat, a + (a14 l w).toNat, .nil⟩) else ⟨[], false, [], 0, b1h l⟩
def a5s (b : List Int) (w : Bool) (n : Nat) (l : List Int) (a : Nat) : Tr := match b5z b n l a with
  | none => ⟨[], false, [], 0, .s 4⟩
  | some (l, a) => b5p b w l a
def a2f (b : List Int) : Tr := match b with
  | [] => ⟨[], false, [], 0, .s 4⟩
  | x :: _ => if 16 ≤ x then ⟨[], false, [], 0, .s 5⟩ else a5s b (decide (x / 8 % 2 = 1)) (x % 8).toNat [] 1
theorem a2m {e : Er} : e.isNil = true ↔ e = .nil := by cases e <;> simp [Er.isNil]
section
variable {G : Nat → Option Value} {bk : Nat → Nat × Nat} {Q : Exit → St → Prop} {st : St} {b : List Int}
theorem d9v (hS : Sent5 G bk) (hB : a2l b) (hl : b.length < 2 ^ 40) {w : Bool} {n : Nat} (hn : n ≤ 7) (h : st.s 0 = slU b ∧ st.s 2 = .var [.own 1 0 [], lb false, .own 1 0 []] ∧ st.s 3 = li 0 ∧ st.s 4 = .lit .nilIface ∧ st.s 6 = .var [owI [], lb w] ∧ st.s 7 = li 1 ∧ st.s 34 = li n ∧ st.s 35 = li 0)
    (hbad : a5s b w n [] 1 = ⟨[], false, [], 0, .s 4⟩ → ∀ s, s.s 2 = .var [.sl 0 [], lb false, .sl 0 []] ∧ s.s 3 = li 0 ∧ s.s 4 = a1p bk (.s 4) → Q .ret s)
    (hex : ∀ l (a : Nat), l.length ≤ 7 → a ≤ b.length + 1 → a5s b w n [] 1 = b5p b w l a → ∀ s, s.s 0 = slU b ∧ s.s 2 = .var [.own 1 0 [], lb false, .own 1 0 []] ∧ s.s 3 = li 0 ∧ s.s 4 = .lit .nilIface ∧ s.s 6 = .var [owI l, lb w] ∧ s.s 7 = li a → Q (.exit 0) s) : AW pg G 93 (.loop a4f) Q st := by
  have h4 := hS.val 4 (by decide)
  refine a02 (Nat × List Int × Nat) (fun p st => p.1 ≤ n ∧ p.2.1.length = n - p.1 ∧ p.2.2 ≤ b.length + 1 ∧ a5s b w n [] 1 = a5s b w p.1 p.2.1 p.2.2 ∧ st.s 0 = slU b ∧ st.s 2 = .var [.own 1 0 [], lb false, .own 1 0 []] ∧ st.s 3 = li 0 ∧ st.s 4 = .lit .nilIface ∧ st.s 6 = .var [owI p.2.1, lb w] ∧ st.s 7 = li p.2.2 ∧ st.s 34 = li n ∧ st.s 35 = li (n - p.1 : Nat)) (fun p => p.1) (n, [], 1) ⟨by simp, by simp, by simp, rfl, by simp (disch := omega) [go_sem, h]⟩ ?_
  clear h
  rintro ⟨k, l, a⟩ st K ⟨hi, hlen, ha, hm, h⟩ hK
  simp only at hi hlen ha hm h
  cases k with
  | zero =>
    simp only [a5s, b5z, Nat.sub_zero] at hm h
    have hnn : ¬ (n : Int) < n := by omega
    simp (disch := omega) [go_sem, a4f, h, hnn]
    exact hex l a (by omega) ha (by simpa only [a5s] using hm) _ (by simp (disch := omega) [go_sem, h])
  | succ k =>
    have hlt : ((n - (k + 1) : Nat) : Int) < n := by omega
    by_cases hb : b.length < a + 2
    · have hb' : (b.length : Int) < (a : Int) + 2 := by omega
      simp only [a5s, b5z, hb, if_true] at hm
      simp (disch := omega) [go_sem, a4f, h, hlt, hb']
      refine a2i ?_
      simp (disch := omega) [go_sem, h, h4]
      refine a13 (by decide) fun s2 hs he => ?_
      simp (disch := omega) [go_sem, h4, hs]
      exact hbad (by simpa only [a5s] using hm) _ (by simp (disch := omega) [go_sem, hs, a1p])
    · have hb' : ¬ (b.length : Int) < (a : Int) + 2 := by omega
      have e : a5s b w (k + 1) l a = a5s b w k (l ++ [b[a]! + b[a + 1]! * 256]) (a + 2) := by simp only [a5s, b5z, hb, if_false]
      have en : ((n - k : Nat) : Int) = ((n - (k + 1) : Nat) : Int) + 1 := by omega
      rw [e] at hm
      have g1 : a < b.length := by omega
      have g2 : a + 1 < b.length := by omega
      have r1 := hB _ (List.getElem_mem g1)
      have r2 := hB _ (List.getElem_mem g2)
      have e1 : b[a]! = b[a] := by simp [g1]
      have e2 : b[a + 1]! = b[a + 1] := by simp [g2]
      rw [e1, e2] at hm
      simp (disch := omega) [go_sem, a4f, h, hlt, hb']
      refine a2i ?_
      simp (disch := omega) [go_sem, h, g1, g2]
      refine a13 (by decide) fun s2 hs he => ?_
      simp (disch := omega) [go_sem, hs, h]
      refine hK (k, l ++ [b[a] + b[a + 1] * 256], a + 2) _ ⟨by simp only; omega, by simp only [List.length_append, hlen, List.length_cons, List.length_nil]; omega, by simp only; omega, hm, by simp (disch := omega) [go_sem, hs, h, en]⟩ (by simp only; omega)
theorem e1e (hS : Sent5 G bk) (hB : a2l b) (hl : b.length < 2 ^ 40) : ACalls pg G d07 [slU b] (g48 bk (a2f b)) := by
  refine b82 rfl ?_
  have h4 := hS.val 4 (by decide)
  have h5 := hS.val 5 (by decide)
  cases b with
  | nil =>
    simp (disch := omega) [go_sem, a74]
    refine a2i ?_
    simp (disch := omega) [go_sem, h4]
    refine a13 (by decide) fun s2 hs he => ?_
    simp (disch := omega) [go_sem, hs, h4, a2f, a1p, Er.isNil]
  | cons x r =>
  obtain ⟨hx0, hx1⟩ := hB x (by simp)
  by_cases h16 : 16 ≤ x
  · have hlen : (((x :: r).length : Nat) : Int) ≠ 0 := by simp only [List.length_cons]; omega
    simp (disch := omega) [go_sem, a74, hlen, h16]
    refine a2i ?_
    simp (disch := omega) [go_sem, h5, h16]
    refine a13 (by decide) fun s2 hs he => ?_
    simp (disch := omega) [go_sem, hs, h5, a2f, h16, a1p, Er.isNil]
  obtain ⟨n, w, hn, hx, hw, hk⟩ : ∃ (n : Nat) (w : Bool), n ≤ 7 ∧ x = (if w = true then (n : Int) + 8 else n) ∧ decide (x / 8 % 2 = 1) = w ∧ (x % 8).toNat = n := by
    by_cases k : x / 8 % 2 = 1
    · exact ⟨(x - 8).toNat, true, by omega, by simp; omega, by simp [k], by omega⟩
    · exact ⟨x.toNat, false, by omega, by simp; omega, by simp [k], by omega⟩
  have ht : a2f (x :: r) = a5s (x :: r) w n [] 1 := by simp only [a2f, h16, if_false, hw, hk]
  rw [ht]
  have hg : ∃ h0 : 0 < (x :: r).length, (x :: r)[0] = x := ⟨by simp, rfl⟩
  have hv : (if x / 8 % 2 = 1 then x - 8 else x) = n := by cases w <;> simp at hx hw <;> simp [hw] <;> omega
  have hv2 : (!decide ((if x / 8 % 2 = 1 then (8 : Int) else 0) = 0)) = w := by cases w <;> simp at hw <;> simp [hw]
  have h16' : ¬ 16 ≤ x := h16
  clear hk ht h16
  generalize hb : x :: r = b at *
  clear hb
  obtain ⟨h0, hg⟩ := hg
  have hne : ¬ b.length = 0 := by omega
  have hne' : ¬ (b.length : Int) = 0 := by omega
  simp (disch := omega) [go_sem, a74, h0, hg, h16', hne', hne, hv, hv2, hw]
  refine d9v hS hB hl (w := w) (n := n) hn (by simp (disch := omega) [go_sem]) (fun ht s h => ?_) fun l a hl7 ha ht s h => ?_
  · rw [ht]
    simp (disch := omega) [go_sem, h, Er.isNil]
  · rw [ht]
    have hv := b34 (G := G) hS.three l w (by omega)
    have hbr := a34 l
    have hbe := d5b l w
    have hbw : (if w = true then 4 * (a1n l).toNat else (a1n l).toNat) = (a14 l w).toNat ∧ 0 ≤ a14 l w ∧ a14 l w ≤ 65536 := by cases w <;> simp at hbe ⊢ <;> omega
    have hby := c3g (G := G) hS.three l w (by omega)
    unfold b5p
    obtain ⟨m, hm⟩ := Int.eq_ofNat_of_zero_le hbw.2.1
    rw [hm] at hbw hby
    rw [hm]
    simp only [Int.ofNat_eq_natCast, Int.toNat_natCast] at hbw hby ⊢
    obtain ⟨hn1, -, hm2⟩ := hbw
    simp (disch := omega) [go_sem, h]
    refine b0s hv (c1j _) (by simp (disch := omega) [go_sem, h]) ?_
    cases he : (b1h l).isNil with
    | true =>
      simp (disch := omega) [go_sem, h, he]
      refine a0w hby rfl rfl ?_
      by_cases hlt : b.length < a + m
      · have hlt' : (b.length : Int) < a + m := by omega
        simp (disch := omega) [go_sem, h, hlt']
        refine a2i ?_
        simp (disch := omega) [go_sem, h, h4]
        refine a13 (by decide) fun s2 hs hep => ?_
        simp (disch := omega) [go_sem, hs, h4, h, hlt, a1p, Er.isNil]
      · have hlt' : ¬ (b.length : Int) < a + m := by omega
        obtain ⟨c, hC⟩ : ∃ c, c = (b.drop a).take m := ⟨_, rfl⟩
        have hcl : c.length = m := by rw [hC]; simp; omega
        have hcB : a2l c := fun x hx => hB x (by rw [hC] at hx; exact List.mem_of_mem_drop (List.mem_of_mem_take hx))
        have hd : ((a : Int) + m).toNat - a = c.length := by omega
        have hmm : List.take c.length (List.drop a (List.map lu b)) = c.map lu := by
          rw [hcl, ← List.map_drop, ← List.map_take, ← hC]
        have hof := f9g (G := G) hS hcB (by omega) l w (a2j.1 (a2m.1 he)) (by omega) (by rw [hm]; omega)
        simp (disch := omega) [go_sem, h, hlt']
        refine a2i ?_
        simp (disch := omega) [go_sem, h, hd, hmm]
        refine a3r hof rfl (by simp only [a0r, a08, b4j, Bool.and_true]) (by simp) [87, 82, 86] (by simp) (by simp (disch := omega) [go_sem, h]) ?_
        simp (disch := omega) [go_sem, h]
        refine a13 (by decide) fun s2 hs hep => ?_
        simp (disch := omega) [go_sem, hs, h, hlt, hC, Er.isNil, a1p]
    | false =>
      simp (disch := omega) [go_sem, h, he]
end
end Go.Ideal.Tryd
end
section
set_option linter.unusedVariables false
set_option linter.unusedSimpArgs false
set_option maxRecDepth 10000
namespace Go.Ideal.Tryd
def Er.is4 (e : Er) : Bool := match e with
  | .s g => decide (g = 4)
  | _ => false
def b7m (s : Rs) (p : Int) (e : Er) : Rs := if e.is4 = true then ⟨s.at_, e⟩ else if e.isNil = true then s else b3f s p e
def a2g (b : List Int) (p : Int) (s : Rs) : (List Int × Bool × List Int) × Rs := if s.err.isNil = true then
    (((a2f (b.drop s.at_)).sh, (a2f (b.drop s.at_)).wide, (a2f (b.drop s.at_)).data), ⟨s.at_ + (a2f (b.drop s.at_)).at_, (b7m s p (a2f (b.drop s.at_)).er).err⟩)
  else (([], false, []), s)
theorem b72 (b : List Int) : ((a2f b).er = .nil ∧ (a2f b).at_ ≤ b.length) ∨ ((∃ g, (2 ≤ g ∧ g ≤ 6) ∧ (a2f b).er = .s g) ∧ (a2f b).at_ = 0) := by
  have rest : ∀ w l a, ((b5p b w l a).er = .nil ∧ (b5p b w l a).at_ ≤ b.length) ∨ ((∃ g, (2 ≤ g ∧ g ≤ 6) ∧ (b5p b w l a).er = .s g) ∧ (b5p b w l a).at_ = 0) := by
    intro w l a
    unfold b5p
    split
    · split
      · exact .inr ⟨⟨4, by omega, rfl⟩, rfl⟩
      · exact .inl ⟨rfl, by simp only; omega⟩
    · rename_i h
      refine .inr ⟨?_, rfl⟩
      rcases a7u l with k | k | k
      · exact absurd (a2m.2 k) h
      · exact ⟨2, by omega, k⟩
      · exact ⟨3, by omega, k⟩
  have dims : ∀ w n l a, ((a5s b w n l a).er = .nil ∧ (a5s b w n l a).at_ ≤ b.length) ∨ ((∃ g, (2 ≤ g ∧ g ≤ 6) ∧ (a5s b w n l a).er = .s g) ∧ (a5s b w n l a).at_ = 0) := by
    intro w n l a
    unfold a5s
    split
    · exact .inr ⟨⟨4, by omega, rfl⟩, rfl⟩
    · exact rest _ _ _
  cases b with
  | nil => exact .inr ⟨⟨4, by omega, rfl⟩, rfl⟩
  | cons x r =>
    unfold a2f
    simp only
    split
    · exact .inr ⟨⟨5, by omega, rfl⟩, rfl⟩
    · exact dims _ _ _ _
theorem d27 {b : List Int} (p : Int) (s : Rs) (h : s.at_ ≤ b.length) : (a2g b p s).2.at_ ≤ b.length := by
  unfold a2g
  split
  · have := b72 (b.drop s.at_)
    simp only [List.length_drop] at this ⊢
    omega
  · exact h
section
variable {G : Nat → Option Value} {bk : Nat → Nat × Nat} {Q : Exit → St → Prop} {st : St} {b : List Int}
theorem d7u (hS : Sent5 G bk) (hB : a2l b) (hl : b.length < 2 ^ 40) (p : Int) (s : Rs) (ha : s.at_ ≤ b.length) : ACallsX pg G b1w [a7q bk b s, li p] (e55 (a2g b p s).1.1 (a2g b p s).1.2.1 (a2g b p s).1.2.2) [(0, a7q bk b (a2g b p s).2)] := by
  refine a7d (pins := [0]) (by kernel_rfl) rfl rfl (by simp [go_sem]) rfl ?_
  have h4 := hS.val 4 (by decide)
  obtain ⟨a, e⟩ := s
  simp only at ha
  cases he : e.isNil with
  | true =>
    obtain ⟨c, hC⟩ : ∃ c, c = b.drop a := ⟨_, rfl⟩
    have hcl : c.length = b.length - a := by rw [hC]; simp
    have hcB : a2l c := fun x hx => hB x (by rw [hC] at hx; exact List.mem_of_mem_drop hx)
    have hmm : AV.sl (b.length - a) (List.take (b.length - a) (List.drop a (List.map lu b))) = slU c := by
      rw [← List.map_drop, ← hC, List.take_of_length_le (by simp [hcl]), ← hcl]
    have hr := e1e (G := G) hS hcB (by omega)
    have hm : a2g b p ⟨a, e⟩ = (((a2f c).sh, (a2f c).wide, (a2f c).data), ⟨a + (a2f c).at_, (b7m ⟨a, e⟩ p (a2f c).er).err⟩) := by simp only [a2g, he, if_true, hC]
    have hc := b72 c
    rw [hm]
    generalize a2f c = t at *
    clear hm
    obtain ⟨sh, w, d, n, er⟩ := t
    simp only at hc ⊢
    have h0 : er = .nil ∨ ∃ g, (2 ≤ g ∧ g ≤ 6) ∧ er = .s g := by rcases hc with h | h; exact .inl h.1; exact .inr h.1
    have hn : n ≤ c.length := by rcases hc with h | h <;> omega
    have hi : ACalls pg G 124 [a1p bk er, sv bk 4] (lb er.is4) := by
      rcases h0 with rfl | ⟨g, hg, rfl⟩
      · exact e6n hS (.inl rfl) (by decide)
      · exact e6n hS (.inr ⟨g, hg, rfl⟩) (by decide)
    simp (disch := omega) [go_sem, a26, he]
    refine a56 [(0, 0)] (by simp) (by simp (disch := omega) [go_sem]) ?_
    simp (disch := omega) [go_sem, hmm]
    refine d3m hr (by simp [go_sem]) (by simp (disch := omega) [go_sem]) (by simp) [24, 23] (by simp) (by simp (disch := omega) [go_sem]) ?_
    simp (disch := omega) [go_sem]
    refine a13 (by decide) fun s2 hs hep => ?_
    simp (disch := omega) [go_sem, hs, hep, h4]
    refine b0s hi rfl (by simp (disch := omega) [go_sem]) ?_
    cases h4i : er.is4 with
    | true =>
      simp (disch := omega) [go_sem, hs, hep, b7m, h4i]
    | false =>
      cases hni : er.isNil with
      | true =>
        simp (disch := omega) [go_sem, hs, hep, hni, b7m, h4i]
      | false =>
        simp (disch := omega) [go_sem, hs, hep, hni]
        refine a0y (c8r (bk := bk) (b := b) ⟨a, e⟩ p er) rfl rfl rfl (by simp (disch := omega) [go_sem, hs, hep]) ?_
        simp (disch := omega) [go_sem, hs, hep, c15, b7m, h4i, hni]
  | false =>
    simp (disch := omega) [go_sem, a26, he, a2g]
end
end Go.Ideal.Tryd
end
