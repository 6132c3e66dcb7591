/- Part Pm of the proof: a machine with trees for values, its soundness, and walks on it. -/
import Derived.Test.YtfdhkijgolgnfaaGreatDoorPk
import Derived.Test.YtfdhkijgolgnfaaGreatDoorPj
import Derived.Test.YtfdhkijgolgnfaaGreatDoorPl
section
set_option linter.unusedVariables false
set_option linter.unusedSimpArgs false
namespace Go.Ideal
section
variable {N : Nat} {st st1 st2 : St} {P : Program} {G : Nat → Option Value} {K : St → Prop}
def c2i (N : Nat) (a b : St) : Prop := (∀ u, u < N → b.s u = a.s u) ∧ ∀ u, b.ep u = a.ep u
@[congr] theorem f1m {a b b' : St} (h : b = b') : c2i N a b = c2i N a b' := by rw [h]
@[go_sem] theorem f4e : c2i N st st = True := by simp [c2i]
def e9i (N : Nat) (a b : St) : Prop := c2i N a b
@[go_sem] theorem g3j {t : Nat} {v : AV} : c2i N st1 (st2.put t v) = frI (decide (N ≤ t) && !(a0e v).isSome) (c2i N st1 st2) (e9i N st1 (st2.put t v)) := by
  simp only [frI, e9i]
  split
  · rename_i h
    simp only [Bool.and_eq_true, decide_eq_true_eq, Bool.not_eq_true'] at h
    apply propext
    simp only [c2i, St.put_s, St.put_ep, h.2, Bool.false_eq_true, and_false, if_false]
    constructor
    · rintro ⟨h1, h2⟩
      exact ⟨fun u hu => by have := h1 u hu; rwa [if_neg (by omega)] at this, h2⟩
    · rintro ⟨h1, h2⟩
      exact ⟨fun u hu => by rw [if_neg (by omega)]; exact h1 u hu, h2⟩
  · rfl
theorem e29 {T : List (Nat × AV)} {d : Option Nat} {res : AV} (h : c2i N st1 st2) : e23 st2 N T d res = e23 st1 N T d res := by
  have e : st2.lentS N T = st1.lentS N T := by
    refine St.ext' (fun u => ?_) (fun u => h.2 u)
    simp only [St.lentS]
    by_cases hu : u < N
    · simp [hu, h.1 u hu]
    · simp [hu]
  cases d <;> simp only [e23, e]
theorem c1f {d : Option Nat} {res : AV} (h : c2i N st1 st2) : b82 st2 N d res = b82 st1 N d res := by
  have e : st2.clear N = st1.clear N := by
    refine St.ext' (fun u => ?_) (fun u => h.2 u)
    simp only [St.clear]
    by_cases hu : u < N
    · simp [hu, h.1 u hu]
    · simp [hu]
  cases d <;> simp only [b82, e]
theorem a0z {d : Option Nat} {f : FuncId} {pre : List AV} {L : List (Nat × Nat)} {res : AV} {posts : List (Nat × AV)} (hA : ACallsX P G f pre res posts) (hn : a0k res = true) (hp : posts.map (·.1) = L.map (·.2)) (hv : (posts.all fun p => e22 p.2) = true) (h12 : c2i N st1 st2)
    (h : K (e23 st1 N ((L.map (·.1)).zip (posts.map (·.2))) d res)) : clx P G N d f pre L st1 st2 K := f0l hA hn hp hv h (by rw [e29 h12]; exact h)
theorem a3b {d : Option Nat} {f : FuncId} {pre : List AV} {res : AV} (hA : ACalls P G f pre res) (hn : a0k res = true) (h12 : c2i N st1 st2) (h : K (b82 st1 N d res)) : cal P G N d f pre st1 st2 K := e5o hA hn h (by rw [c1f h12]; exact h)
theorem e34 {aft : DA} {rest : List AO} {fps : List (List Nat × List Nat)} {d : Option Nat} {f : FuncId} {st : St} {pre : List AV} {rd : List Nat} {res : AV} (hA : ACalls P G f pre res) (hn : a0k res = true) (h12 : c2i N st1 st2) (hrd : ∀ t ∈ rd, t < N) (W : List Nat) (hW : ∀ t ∈ W, t < N) (hf : fr N W st (b82 st1 N d res)) (h : b4q aft.2 (b82 st1 N d res) ∧ b83 P G N aft rest (fps ++ [(rd, W)]) K (b82 st1 N d res)) : e9a P G N aft d f pre rd rest fps K st st1 st2 := by
  cases hi : a0w res with
  | true => exact a16 hA hn hi hrd W hW hf h
  | false => exact e8t hA hn hi hrd W hW (by rw [c1f h12]; exact hf) (by rw [c1f h12]; exact h)
end
namespace Tryz
section
variable {bk : Nat → Nat × Nat} {e : Er} {st : St} {N d t j : Nat} {x : X}
@[go_sem] theorem f5o : a0e (a1j bk e) = none := by cases e <;> rfl
@[go_sem] theorem e98 : a2w (a1j bk e) = none := by cases e <;> rfl
@[go_sem] theorem g7r : frz (a1j bk e) = a1j bk e := by cases e <;> simp only [a1j, frz]
@[go_sem] theorem f5y {kl : Nat → List Nat → Bool} : a02 kl (a1j bk e) = a1j bk e := by cases e <;> simp only [a1j, a02]
@[go_sem] theorem g78 : mvS st d x (a1j bk e) = some (st.put d (a1j bk e)) := by cases e <;> simp [a1j, mvS, a0l]
@[go_sem] theorem g3o : d3e st N d (.t t) (a1j bk e) = some (st.put d (a1j bk e)) := by cases e <;> simp [a1j, go_sem]
@[go_sem] theorem g7w {q : List Nat} {o : Nat} : ldK st t q o (some (a1j bk e)) = some (a1j bk e) := by cases e <;> simp [a1j, ldK, a0l]
@[go_sem] theorem g36 : psS st N (.t t) j (a1j bk e) = some (st.put j (a1j bk e)) := by cases e <;> simp [a1j, go_sem]
@[go_sem] theorem g44 : gvS st N (.t t) j (a1j bk e) = some (st.put j (a1j bk e)) := by cases e <;> simp [a1j, go_sem]
@[go_sem] theorem f8b {i : Nat} {ks : List AV} : f1o st N d (.t t) i ks (some (a1j bk e)) = some (st.put d (a1j bk e)) := by cases e <;> simp [a1j, go_sem]
@[go_sem] theorem g4c : a1o .eql 2 (a1j bk e) (.lit .nilIface) = some (.lit (.bool e.isNil)) := by cases e <;> rfl
@[go_sem] theorem g6o : a1o .neq 2 (a1j bk e) (.lit .nilIface) = some (.lit (.bool !e.isNil)) := by cases e <;> rfl
def kE (st : St) (t : Nat) : Er → St
  | .at _ _ => st.put t .dead
  | _ => st
@[go_sem] theorem g4y : giv st N (.t t) (a1j bk e) = some (kE st t e, [a1j bk e]) := by cases e <;> simp [a1j, go_sem, kE, e9j]
@[go_sem] theorem h9s {u : Nat} (h : u ≠ t) : (kE st t e).s u = st.s u := by cases e <;> simp [kE, h]
@[go_sem] theorem h81 {u : Nat} : (kE st t e).ep u = st.ep u := by cases e <;> simp [kE, St.put_ep, a0e]
end
end Tryz
end Go.Ideal
end
section
set_option linter.unusedVariables false
set_option linter.unusedSimpArgs false
set_option maxRecDepth 10000
namespace Go.Ideal
theorem f0o {x m j : Nat} (hx : x < 2 ^ j) (ht : x + m * 2 ^ j < 2 ^ 63) : a5u (Op.intBits .or .i64 (x : Int) ((m * 2 ^ j : Nat) : Int)) = some (.int .i64 ((x + m * 2 ^ j : Nat) : Int)) := by
  have h1 : (BitVec.ofInt 64 (x : Int) ||| BitVec.ofInt 64 ((m * 2 ^ j : Nat) : Int)).toNat = x + m * 2 ^ j := by
    rw [BitVec.toNat_or, BitVec.ofInt_natCast, BitVec.ofInt_natCast, BitVec.toNat_ofNat, BitVec.toNat_ofNat, Nat.mod_eq_of_lt (by omega), Nat.mod_eq_of_lt (by omega), Nat.or_comm, ← Nat.shiftLeft_eq, ← Nat.shiftLeft_add_eq_or_of_lt hx, Nat.shiftLeft_eq]
    omega
  have h2 : Op.intBits .or .i64 (x : Int) ((m * 2 ^ j : Nat) : Int) = Sem.pure (.int .i64 (IntKind.i64.wrap (BitVec.ofInt 64 (x : Int) ||| BitVec.ofInt 64 ((m * 2 ^ j : Nat) : Int)).toNat)) := rfl
  rw [h2, h1]
  show some (Value.int .i64 (IntKind.i64.wrap ((x + m * 2 ^ j : Nat) : Int))) = _
  rw [c4d (by omega)]
theorem e0n {x m : Int} (j : Nat) {M : Int} (hM : M = 2 ^ j) (h : 0 ≤ x ∧ x < M ∧ 0 ≤ m ∧ x + m * M < 9223372036854775808) : a1o .or 0 (.lit (.int .i64 x)) (.lit (.int .i64 (m * M))) = some (.lit (.int .i64 (x + m * M))) := by
  obtain ⟨h1, h2, h3, h4⟩ := h
  obtain ⟨a, rfl⟩ := Int.eq_ofNat_of_zero_le h1
  obtain ⟨c, rfl⟩ := Int.eq_ofNat_of_zero_le h3
  subst hM
  have e : ((c : Int) * 2 ^ j) = ((c * 2 ^ j : Nat) : Int) := by simp
  have h2' : a < 2 ^ j := by have : (a : Int) < ((2 ^ j : Nat) : Int) := by simpa using h2
                             omega
  have := f0o (x := a) (m := c) (j := j) h2' (by
    have h5 : ((a + c * 2 ^ j : Nat) : Int) < 9223372036854775808 := by rw [e] at h4; simpa using h4
    omega)
  rw [e]
  simp only [a1o, c3f, a1d, if_true, this]
  simp
section
variable {x m : Int}
@[go_sem] theorem h4c (h : 0 ≤ x ∧ x < 256 ∧ 0 ≤ m ∧ m < 1099511627776) : a1o .or 0 (.lit (.int .i64 x)) (.lit (.int .i64 (m * 256))) = some (.lit (.int .i64 (x + m * 256))) := e0n 8 rfl (by omega)
@[go_sem] theorem g86 (h : 0 ≤ x ∧ x < 65536 ∧ 0 ≤ m ∧ m < 4294967296) : a1o .or 0 (.lit (.int .i64 x)) (.lit (.int .i64 (m * 65536))) = some (.lit (.int .i64 (x + m * 65536))) := e0n 16 rfl (by omega)
@[go_sem] theorem h3r (h : 0 ≤ x ∧ x < 16777216 ∧ 0 ≤ m ∧ m < 4294967296) : a1o .or 0 (.lit (.int .i64 x)) (.lit (.int .i64 (m * 16777216))) = some (.lit (.int .i64 (x + m * 16777216))) := e0n 24 rfl (by omega)
@[go_sem] theorem h5y {k yk : IntKind} {a b : Int} (h : 0 ≤ b) : a1o .shl 0 (.lit (.int k a)) (.lit (.int yk b)) = some (.lit (.int k (k.wrap (a * 2 ^ min b.toNat k.bits)))) := by
  have : a1d .shl (.int k a) (.int yk b) = some (.int k (k.wrap (a * 2 ^ min b.toNat k.bits))) := by simp [a1d, Op.shift, show ¬ b < 0 by omega]; rfl
  simp [a1o, c3f, this]
end
namespace Tryz
structure Rs where
  at_ : Nat
  err : Er
abbrev b0a (bk : Nat → Nat × Nat) (b : List Int) (s : Rs) : AV := .var [slU b, li s.at_, a1j bk s.err]
def a1l (b : List Int) : Prop := ∀ x ∈ b, 0 ≤ x ∧ x ≤ 255
def a1x (b : List Int) (s : Rs) : Int × Rs := if s.err.isNil = true then (if s.at_ < b.length then (b[s.at_]!, ⟨s.at_ + 1, s.err⟩) else (0, ⟨s.at_, .s 4⟩)) else (0, s)
def a0n (b : List Int) (s : Rs) : Int × Rs := ((a1x b s).1 + (a1x b (a1x b s).2).1 * 256, (a1x b (a1x b s).2).2)
def s32 (n : Int) : Int := if 2147483648 ≤ n then n - 4294967296 else n
def a06 (b : List Int) (s : Rs) : Int × Rs := (s32 ((a0n b s).1 + (a0n b (a0n b s).2).1 * 65536), (a0n b (a0n b s).2).2)
def b77 (s : Rs) (p : Int) (e : Er) : Rs := if s.err.isNil = true then ⟨s.at_, .at p e⟩ else s
theorem e74 {b : List Int} (hb : a1l b) (i : Nat) : 0 ≤ b[i]! ∧ b[i]! ≤ 255 := by
  by_cases h : i < b.length
  · have := hb _ (List.getElem_mem h)
    simpa [h] using this
  · simp [show b[i]? = none by simp; omega, List.getElem!_eq_getElem?_getD]
theorem a96 {b : List Int} (hb : a1l b) (s : Rs) : 0 ≤ (a1x b s).1 ∧ (a1x b s).1 ≤ 255 := by
  unfold a1x
  split
  · split
    · exact e74 hb _
    · simp
  · simp
theorem a4i {b : List Int} (s : Rs) (h : s.at_ ≤ b.length) : (a1x b s).2.at_ ≤ b.length := by
  unfold a1x
  split
  · split
    · simp only; omega
    · simpa using h
  · simpa using h
theorem c1y {b : List Int} (hb : a1l b) (s : Rs) : 0 ≤ (a0n b s).1 ∧ (a0n b s).1 ≤ 65535 := by
  have h1 := a96 hb s
  have h2 := a96 hb (a1x b s).2
  unfold a0n
  simp only
  omega
theorem a6d {b : List Int} (s : Rs) (h : s.at_ ≤ b.length) : (a0n b s).2.at_ ≤ b.length := a4i _ (a4i _ h)
theorem a1f {b : List Int} (s : Rs) (h : s.at_ ≤ b.length) : (a06 b s).2.at_ ≤ b.length := a6d _ (a6d _ h)
section
variable {G : Nat → Option Value} {bk : Nat → Nat × Nat} {Q : Exit → St → Prop} {st : St} {b : List Int}
theorem d6d (hS : Sent5 G bk) (hB : a1l b) (hl : b.length < 2 ^ 40) (s : Rs) (ha : s.at_ ≤ b.length) : ACallsX pg G b90 [b0a bk b s] (li (a1x b s).1) [(0, b0a bk b (a1x b s).2)] := by
  refine b1z (pins := [0]) (by kernel_rfl) rfl rfl (by simp [go_sem]) rfl ?_
  obtain ⟨a, e⟩ := s
  simp only at ha
  cases he : e.isNil with
  | true =>
    by_cases hlt : a < b.length
    · simp (disch := omega) [go_sem, a3c]
      refine a1r ?_
      simp (disch := omega) [go_sem, he]
      refine a1q (by decide) fun s2 hs hep => ?_
      have hlt' : ¬ (b.length : Int) ≤ a := by omega
      simp (disch := omega) [go_sem, hs, hep, he, hlt', hlt]
      refine a1r ?_
      simp (disch := omega) [go_sem, hs, hep, he, hlt]
      refine a1q (by decide) fun s3 hs3 hep3 => ?_
      have hr := hB _ (List.getElem_mem hlt)
      simp (disch := omega) [go_sem, hs3, hs, hep, a1x, he, hlt]
    · simp (disch := omega) [go_sem, a3c]
      refine a1r ?_
      simp (disch := omega) [go_sem, he]
      refine a1q (by decide) fun s2 hs hep => ?_
      have hlt' : (b.length : Int) ≤ a := by omega
      simp (disch := omega) [go_sem, hs, hep, he, hlt', hlt, hS.val, a1x, a1j]
  | false =>
    simp (disch := omega) [go_sem, a3c]
    refine a1r ?_
    simp (disch := omega) [go_sem, he]
    refine a1q (by decide) fun s2 hs hep => ?_
    simp (disch := omega) [go_sem, hs, hep, he, a1x]
theorem d2r (hS : Sent5 G bk) (hB : a1l b) (hl : b.length < 2 ^ 40) (s : Rs) (ha : s.at_ ≤ b.length) : ACallsX pg G b6t [b0a bk b s] (li (a0n b s).1) [(0, b0a bk b (a0n b s).2)] := by
  refine b1l (pins := [0]) (by kernel_rfl) rfl rfl (by simp [go_sem]) rfl ?_
  have r1 := a96 hB s
  have r2 := a96 hB (a1x b s).2
  simp (disch := omega) [go_sem, a6u]
  refine a0z (d6d hS hB hl s ha) rfl rfl rfl (by simp (disch := omega) [go_sem]) ?_
  simp (disch := omega) [go_sem]
  refine a0z (d6d hS hB hl (a1x b s).2 (a4i s ha)) rfl rfl rfl (by simp (disch := omega) [go_sem]) ?_
  simp (disch := omega) [go_sem, a0n]
theorem e4v (n : Int) (h : 0 ≤ n ∧ n < 4294967296) : ACalls pg G d9w [li n] (li (s32 n)) := by
  refine c7f rfl ?_
  have e : IntKind.i64.wrap (IntKind.i32.wrap (IntKind.u32.wrap (IntKind.u64.wrap n))) = s32 n := by
    rw [IntKind.wrap_i64, IntKind.wrap_i32, IntKind.wrap_u32, IntKind.wrap_u64]
    unfold s32
    omega
  simp (disch := omega) [go_sem, c4h, e]
theorem a7v (hS : Sent5 G bk) (hB : a1l b) (hl : b.length < 2 ^ 40) (s : Rs) (ha : s.at_ ≤ b.length) : ACallsX pg G b5p [b0a bk b s] (li (a06 b s).1) [(0, b0a bk b (a06 b s).2)] := by
  refine a92 (pins := [0]) (by kernel_rfl) rfl rfl (by simp [go_sem]) rfl ?_
  have r1 := c1y hB s
  have r2 := c1y hB (a0n b s).2
  simp (disch := omega) [go_sem, a5t]
  refine a0z (d2r hS hB hl s ha) rfl rfl rfl (by simp (disch := omega) [go_sem]) ?_
  simp (disch := omega) [go_sem]
  refine a0z (d2r hS hB hl (a0n b s).2 (a6d s ha)) rfl rfl rfl (by simp (disch := omega) [go_sem]) ?_
  simp (disch := omega) [go_sem]
  refine a0g (e4v ((a0n b s).1 + (a0n b (a0n b s).2).1 * 65536) (by omega)) rfl rfl ?_
  simp (disch := omega) [go_sem, a06]
theorem d48 (s : Rs) (p : Int) (e : Er) : ACallsX pg G c1j [b0a bk b s, li p, a1j bk e] (.tup []) [(0, b0a bk b (b77 s p e))] := by
  refine b28 (pins := [0]) (by kernel_rfl) rfl rfl (by simp [go_sem]) rfl ?_
  obtain ⟨a, er⟩ := s
  cases he : er.isNil with
  | true =>
    simp (disch := omega) [go_sem, a4u, he, b77, a1j]
  | false =>
    simp (disch := omega) [go_sem, a4u, he, b77]
def a5v (most : Int) (rd : Rs → Int × Rs) (s : Rs) : Int × Rs := if (rd s).2.err.isNil = true then (if most < (rd s).1 then (0, b77 (rd s).2 s.at_ (.s 2)) else rd s) else (0, (rd s).2)
structure Reads (G : Nat → Option Value) (bk : Nat → Nat × Nat) (b : List Int) (f : FuncId) (rd : Rs → Int × Rs) : Prop where
  fn : fnB pg f = true
  call : ∀ s, s.at_ ≤ b.length → ACallsX pg G f [b0a bk b s] (li (rd s).1) [(0, b0a bk b (rd s).2)]
  at_ : ∀ s, s.at_ ≤ b.length → (rd s).2.at_ ≤ b.length
theorem e4f (hS : Sent5 G bk) (hl : b.length < 2 ^ 40) {f : FuncId} {rd : Rs → Int × Rs} (hr : Reads G bk b f rd) (most : Int) (s : Rs) (ha : s.at_ ≤ b.length) : ACallsX pg G c1x [b0a bk b s, li most, .fn f [.ref 0 [] 0 0] []] (li (a5v most rd s).1) [(0, b0a bk b (a5v most rd s).2)] := by
  refine b35 (pins := [0]) (by kernel_rfl) rfl rfl (by simp [go_sem]) rfl ?_
  have hfn := hr.fn
  have hat := hr.at_ s ha
  have h2 := hS.val 0 (by decide)
  simp (disch := omega) [go_sem, a9k, hfn]
  refine a0z (hr.call s ha) rfl rfl rfl (by simp (disch := omega) [go_sem]) ?_
  generalize hp : rd s = p at *
  obtain ⟨n, a, e⟩ := p
  simp only at hat
  cases he : e.isNil with
  | true =>
    by_cases hm : most < n
    · simp (disch := omega) [go_sem, he, hm, h2]
      refine a0z (d48 (b := b) ⟨a, e⟩ s.at_ (.s 2)) rfl rfl rfl (by simp (disch := omega) [go_sem]) ?_
      have hn : (Er.at (s.at_ : Int) (.s 2)).isNil = false := rfl
      simp (disch := omega) [go_sem, b77, he, hn, a5v, hp, hm]
    · simp (disch := omega) [go_sem, he, hm, a5v, hp]
  | false =>
    simp (disch := omega) [go_sem, he, a5v, hp]
end
end Tryz
end Go.Ideal
end
section
set_option linter.unusedVariables false
set_option linter.unusedSimpArgs false
set_option maxRecDepth 10000
namespace Go.Ideal
section
variable {G : Nat → Option Value} {N d : Nat} {st : St}
def g0v (G : Nat → Option Value) (st : St) (N d : Nat) (s t : TypeId) (x : X) (v : AV) : Option St := match v with
  | .sl n ks => gO (ks.length = n) (c3k st d ((bytesOf ks).map fun s => .lit (.string s)))
  | _ => evS G N (some d) (.conv s t .str x) st
@[congr] theorem f3p {s t : TypeId} {x : X} {v v' : AV} (h : v = v') : g0v G st N d s t x v = g0v G st N d s t x v' := by rw [h]
@[go_sem] theorem h2c {s t : TypeId} {x : X} {n : Nat} {ks : List AV} : g0v G st N d s t x (.sl n ks) = gO (ks.length = n) (c3k st d ((bytesOf ks).map fun s => .lit (.string s))) := (rfl)
@[go_sem] theorem f93 {s t : TypeId} {x : X} : evS G N (some d) (.conv s t .str x) st = g0v G st N d s t x (rdv st x) := by
  cases hv : rdv st x <;> try rfl
  rename_i n ks
  simp only [g0v, evS, a1c, Ev.run_bind, a0r, hv, Option.bind, a0d, gO]
  by_cases h : ks.length = n
  · simp only [h, decide_true, if_true, a00]
    cases bytesOf ks <;> rfl
  · simp only [h, decide_false, Bool.false_eq_true, if_false]; rfl
@[go_sem] theorem g9f {a c : ByteArray} : a1o .neq 0 (.lit (.string a)) (.lit (.string c)) = some (.lit (.bool (!decide (a = c)))) := by
  have : a1d .neq (.string a) (.string c) = some (.bool (!(a.toList == c.toList))) := rfl
  simp only [a1o, c3f, this, if_true, Option.map_some, ByteArray.toList_eq]
  have e : (a.data.toList == c.data.toList) = decide (a = c) := by
    by_cases h : a = c
    · subst h; simp
    · have : a.data.toList ≠ c.data.toList := fun hh => h (by cases a; cases c; simp only [ByteArray.mk.injEq]; exact Array.toList_inj.1 hh)
      rw [decide_eq_false h]
      simpa using this
  rw [e]
@[go_sem] theorem g0j {T : List (Nat × AV)} {t : Nat} : a66 T t [] = false := by unfold a66; cases T.lookup t <;> rfl
theorem g10 (x y : Int) : bytesOf [.lit (.int .u8 x), .lit (.int .u8 y)] = some ⟨#[UInt8.ofNat x.toNat, UInt8.ofNat y.toNat]⟩ := rfl
theorem h7z {x y : Int} {p q : UInt8} (hx : 0 ≤ x ∧ x ≤ 255) (hy : 0 ≤ y ∧ y ≤ 255) : ((⟨#[UInt8.ofNat x.toNat, UInt8.ofNat y.toNat]⟩ : ByteArray) = ⟨#[p, q]⟩) ↔ (x = p.toNat ∧ y = q.toNat) := by
  have key : ∀ (z : Int) (r : UInt8), 0 ≤ z ∧ z ≤ 255 → (UInt8.ofNat z.toNat = r ↔ z = r.toNat) := by
    intro z r hz
    constructor
    · intro h
      have := congrArg UInt8.toNat h
      rw [UInt8.toNat_ofNat', Nat.mod_eq_of_lt (by omega)] at this
      omega
    · intro h
      apply UInt8.toNat_inj.1
      rw [UInt8.toNat_ofNat', Nat.mod_eq_of_lt (by omega)]
      omega
  simp only [ByteArray.mk.injEq, Array.mk.injEq, List.cons.injEq, and_true, key x p hx, key y q hy]
end
namespace Tryz
theorem e00 {most : Int} {rd : Rs → Int × Rs} (h : ∀ s, 0 ≤ (rd s).1) (hm : 0 ≤ most) (s : Rs) : 0 ≤ (a5v most rd s).1 ∧ (a5v most rd s).1 ≤ most := by
  unfold a5v
  have := h s
  split
  · split
    · simp only; omega
    · omega
  · simp only; omega
theorem d21 (s : Rs) (p : Int) (e : Er) : (b77 s p e).at_ = s.at_ := by unfold b77; split <;> rfl
theorem e0g {most : Int} {rd : Rs → Int × Rs} {b : List Int} (h : ∀ s, s.at_ ≤ b.length → (rd s).2.at_ ≤ b.length) (s : Rs) (ha : s.at_ ≤ b.length) : (a5v most rd s).2.at_ ≤ b.length := by
  have := h s ha
  unfold a5v
  split
  · split
    · rw [d21]; exact this
    · exact this
  · exact this
def a2g (rd : Rs → Int × Rs) : Nat → List Int → Rs → List Int × Rs
  | 0, l, s => (l, s)
  | n + 1, l, s => if s.err.isNil = true then a2g rd n (l ++ [(rd s).1]) (rd s).2 else (l, s)
def c5e (b : List Int) (rd : Rs → Int × Rs) (s : Rs) : List Int × Rs := a2g rd (a5v 8 (a1x b) s).1.toNat [] (a5v 8 (a1x b) s).2
theorem c6e {rd : Rs → Int × Rs} {b : List Int} (h : ∀ s, s.at_ ≤ b.length → (rd s).2.at_ ≤ b.length) : ∀ (n : Nat) (l : List Int) (s : Rs), s.at_ ≤ b.length → (a2g rd n l s).2.at_ ≤ b.length
  | 0, l, s, ha => ha
  | n + 1, l, s, ha => by
    unfold a2g
    split
    · exact c6e h n _ _ (h s ha)
    · exact ha
def a5a (b : List Int) (p q : UInt8) (s : Rs) : Rs := if b.length < 2 then ⟨s.at_, .s 4⟩ else ⟨2, (if b[0]! = p.toNat ∧ b[1]! = q.toNat then s else b77 s 0 (.s 5)).err⟩
def d35 (b : List Int) (s : Rs) : Rs := if s.err.isNil = true ∧ s.at_ < b.length then b77 s s.at_ (.s 2) else s
section
variable {G : Nat → Option Value} {bk : Nat → Nat × Nat} {Q : Exit → St → Prop} {st : St} {b : List Int}
theorem f1z (hS : Sent5 G bk) (hB : a1l b) (hl : b.length < 2 ^ 40) : Reads G bk b 64 (a1x b) := ⟨b6b, fun s ha => d6d hS hB hl s ha, fun s ha => a4i s ha⟩
theorem d3a (hS : Sent5 G bk) (hB : a1l b) (hl : b.length < 2 ^ 40) : Reads G bk b 28 (a0n b) := ⟨b4f, fun s ha => d2r hS hB hl s ha, fun s ha => a6d s ha⟩
theorem e32 (hS : Sent5 G bk) (hB : a1l b) (hl : b.length < 2 ^ 40) : Reads G bk b 26 (a06 b) := ⟨b19, fun s ha => a7v hS hB hl s ha, fun s ha => a1f s ha⟩
theorem d66 (hS : Sent5 G bk) (hB : a1l b) (hl : b.length < 2 ^ 40) {f : FuncId} {rd : Rs → Int × Rs} (hr : Reads G bk b f rd) (s : Rs) (ha : s.at_ ≤ b.length) : ACallsX pg G b3v [b0a bk b s, .fn f [.ref 0 [] 0 0] []] (owI (c5e b rd s).1) [(0, b0a bk b (c5e b rd s).2)] := by
  refine a73 (pins := [0]) (by kernel_rfl) rfl rfl (by simp [go_sem]) rfl ?_
  have hfn := hr.fn
  have hrng := e00 (most := 8) (rd := a1x b) (fun s => (a96 hB s).1) (by omega) s
  have hat := e0g (most := 8) (rd := a1x b) (b := b) (fun s h => a4i s h) s ha
  simp (disch := omega) [go_sem, a5b]
  refine a0z (e4f hS hl (f1z hS hB hl) 8 s ha) rfl rfl rfl (by simp (disch := omega) [go_sem]) ?_
  simp (disch := omega) [go_sem]
  unfold c5e
  generalize hp : a5v 8 (a1x b) s = p at *
  obtain ⟨m, s1⟩ := p
  simp only at hrng hat ⊢
  obtain ⟨n0, rfl⟩ := Int.eq_ofNat_of_zero_le hrng.1
  simp only [Int.ofNat_eq_natCast, Int.toNat_natCast]
  refine a0u (Nat × List Int × Rs) (fun p st => p.2.2.at_ ≤ b.length ∧ p.2.1.length + p.1 ≤ 8 ∧ a2g rd p.1 p.2.1 p.2.2 = a2g rd n0 [] s1 ∧ st.ep 0 = 0 ∧ st.s 0 = b0a bk b p.2.2 ∧ st.s 1 = .fn f [.ref 0 [] 0 0] [] ∧ st.s 5 = owI p.2.1 ∧ st.s 6 = li p.1) (fun p => p.1) (n0, [], s1) ⟨hat, by simp; omega, rfl, by simp (disch := omega) [go_sem], by simp (disch := omega) [go_sem]⟩ ?_
  rintro ⟨n, l, a, e⟩ st K ⟨h1, h2, hm, h0, h⟩ hK
  simp only at h1 h2 hm h
  cases n with
  | zero =>
    rw [a2g] at hm
    rw [← hm]
    simp (disch := omega) [go_sem, a1v, h]
  | succ n =>
    rw [a2g] at hm
    cases he : e.isNil with
    | true =>
      simp only [he, if_true] at hm
      have hpos : (0 : Int) < ((n + 1 : Nat) : Int) := by omega
      simp (disch := omega) [go_sem, a1v, h, h0, he, hpos, hfn]
      refine a0z (hr.call ⟨a, e⟩ h1) rfl rfl rfl (by simp (disch := omega) [go_sem]) ?_
      simp (disch := omega) [go_sem, h, h0]
      exact hK (n, l ++ [(rd ⟨a, e⟩).1], (rd ⟨a, e⟩).2) _ ⟨hr.at_ _ h1, by simp; omega, hm, by simp (disch := omega) [go_sem, h0], by simp (disch := omega) [go_sem, h, h0]⟩ (by simp only; omega)
    | false =>
      simp only [he, Bool.false_eq_true, if_false] at hm
      have hpos : (0 : Int) < ((n + 1 : Nat) : Int) := by omega
      rw [← hm]
      simp (disch := omega) [go_sem, a1v, h, h0, he, hpos]
theorem g3d (hS : Sent5 G bk) (hB : a1l b) (hl : b.length < 2 ^ 40) (p q : UInt8) (s : Rs) : ACallsX pg G c0z [b0a bk b s, .lit (.string ⟨#[p, q]⟩)] (.tup []) [(0, b0a bk b (a5a b p q s))] := by
  refine b12 (pins := [0]) (by kernel_rfl) rfl rfl (by simp [go_sem]) rfl ?_
  obtain ⟨a, e⟩ := s
  have h4 := hS.val 2 (by decide)
  have h5 := hS.val 3 (by decide)
  have hsz : (⟨#[p, q]⟩ : ByteArray).size = 2 := rfl
  by_cases k : b.length < 2
  · have k' : (b.length : Int) < 2 := by omega
    simp (disch := omega) [go_sem, a4j, hsz, k', h4, a5a, k, a1j]
  · have k' : ¬ (b.length : Int) < 2 := by omega
    match b, k, k', hl, hB with
    | [], k, _, _, _ => exact absurd (by simp) k
    | [_], k, _, _, _ => exact absurd (by simp) k
    | x :: y :: r, k, k', hl, hB =>
      have hx := hB x (by simp)
      have hy := hB y (by simp)
      simp only [List.length_cons] at k' hl
      have hs2 := h7z (p := p) (q := q) hx hy
      simp (disch := omega) [go_sem, a4j, hsz, k', h5, g10, hs2]
      by_cases hpq : x = (p.toNat : Int) ∧ y = (q.toNat : Int)
      · have hk : ¬ r.length + 1 + 1 < 2 := by omega
        simp (disch := omega) [go_sem, hpq, a5a, hk]
      · have hk : ¬ r.length + 1 + 1 < 2 := by omega
        have hd : (!decide (x = (p.toNat : Int)) || !decide (y = (q.toNat : Int))) = true := by
          by_cases h1 : x = (p.toNat : Int)
          · by_cases h2 : y = (q.toNat : Int)
            · exact absurd ⟨h1, h2⟩ hpq
            · simp [h2]
          · simp [h1]
        have hh : a5a (x :: y :: r) p q ⟨a, e⟩ = ⟨2, (b77 ⟨a, e⟩ 0 (.s 5)).err⟩ := by
          unfold a5a
          rw [if_neg k, if_neg]
          exact hpq
        simp (disch := omega) [go_sem, hd, h5]
        refine a0z (d48 (b := x :: y :: r) ⟨a, e⟩ 0 (.s 5)) rfl rfl rfl (by simp (disch := omega) [go_sem]) ?_
        simp (disch := omega) [go_sem, hh]
theorem g81 (hS : Sent5 G bk) (hl : b.length < 2 ^ 40) (s : Rs) (ha : s.at_ ≤ b.length) : ACallsX pg G c1g [b0a bk b s] (a1j bk (d35 b s).err) [(0, b0a bk b (d35 b s))] := by
  refine b3a (pins := [0]) (by kernel_rfl) rfl rfl (by simp [go_sem]) rfl ?_
  have h2 := hS.val 0 (by decide)
  obtain ⟨a, e⟩ := s
  cases he : e.isNil with
  | true =>
    simp (disch := omega) [go_sem, a4w]
    refine a1r ?_
    simp (disch := omega) [go_sem, he]
    refine a1q (by decide) fun s2 hs hep => ?_
    by_cases hlt : a < b.length
    · simp (disch := omega) [go_sem, hs, hep, hlt]
      refine a7w [(0, s2.ep 0)] (by simp) (by simp (disch := omega) [go_sem, hs]) ?_
      simp (disch := omega) [go_sem, hs, hep, h2]
      refine e2k (fs := []) (cs := []) (L := [(0, 0)]) [0, 20, 24, 25] (d48 (bk := bk) (b := b) ⟨a, e⟩ a (.s 2)) rfl (by simp (disch := omega) [go_sem, hs, hep, a1j]) ?_
      simp (disch := omega) [go_sem, hs, hep]
      refine a1q (by decide) fun s3 hs3 hep3 => ?_
      simp (disch := omega) [go_sem, hs3, hep3, hs, hep, d35, he, hlt]
    · simp (disch := omega) [go_sem, hs, hep, hlt, d35, he]
  | false =>
    simp (disch := omega) [go_sem, a4w]
    refine a1r ?_
    simp (disch := omega) [go_sem, he]
    refine a1q (by decide) fun s2 hs hep => ?_
    simp (disch := omega) [go_sem, hs, hep, d35, he]
end
end Tryz
end Go.Ideal
end
section
set_option linter.unusedVariables false
set_option linter.unusedSimpArgs false
set_option maxRecDepth 10000
namespace Go.Ideal.Tryz
theorem f0z (n : Int) : IntKind.i8.wrap n = (n + 128) % 256 - 128 := by
  simp [IntKind.wrap, IntKind.bits, IntKind.signed]
  split <;> omega
def s8 (n : Int) : Int := if 128 ≤ n then n - 256 else n
def b1d (w : Bool) (b : List Int) (i : Nat) : Int := if w = true then s32 (b[4 * i]! + b[4 * i + 1]! * 256 + b[4 * i + 2]! * 65536 + b[4 * i + 3]! * 16777216) else s8 b[i]!
def b7h (w : Bool) (b : List Int) (n : Nat) : List Int := (List.range n).map (b1d w b)
theorem e3j (sh : List Int) (w : Bool) : a2p sh w = (if w = true then 4 else 1) * a1y sh := by unfold a2p; split <;> omega
section
variable {G : Nat → Option Value} {bk : Nat → Nat × Nat} {Q : Exit → St → Prop} {st : St} {b : List Int}
theorem f2f (hB : a1l b) (hl : b.length < 2 ^ 40) (w : Bool) (i : Nat) (hi : (if w = true then 4 * i + 4 else i + 1) ≤ b.length) : ACalls pg G d9d [slU b, li i, lb w] (li (b1d w b i)) := by
  refine c7a rfl ?_
  cases w with
  | false =>
    simp only [Bool.false_eq_true, if_false] at hi
    have h1 : i < b.length := by omega
    have r1 := hB _ (List.getElem_mem h1)
    have e : IntKind.i64.wrap (IntKind.i8.wrap b[i]) = s8 b[i] := by
      rw [IntKind.wrap_i64, f0z]
      unfold s8
      omega
    simp (disch := omega) [go_sem, b7i, b1d, h1, e]
  | true =>
    simp only [if_true] at hi
    obtain ⟨c, hC⟩ : ∃ c, c = b.drop (4 * i) := ⟨_, rfl⟩
    have hcl : c.length = b.length - 4 * i := by rw [hC]; simp
    have hd : ((b.length : Int) - 4 * i).toNat = c.length := by omega
    have ht : ((4 : Int) * (i : Int)).toNat = 4 * i := by omega
    have hm : List.take c.length (List.drop (4 * i) (List.map lu b)) = c.map lu := by
      rw [← List.map_drop, ← hC]; exact List.take_of_length_le (by simp)
    have hc : 4 * (i : Int) ≤ b.length := by omega
    have hcB : a1l c := fun x hx => hB x (by rw [hC] at hx; exact List.mem_of_mem_drop hx)
    have g : ∀ k, k < 4 → b[4 * i + k]! = c[k]! := fun k hk => by rw [hC]; simp [List.getElem!_eq_getElem?_getD, List.getElem?_drop]
    have r0 := hcB _ (List.getElem_mem (show 0 < c.length by omega))
    have r1 := hcB _ (List.getElem_mem (show 1 < c.length by omega))
    have r2 := hcB _ (List.getElem_mem (show 2 < c.length by omega))
    have r3 := hcB _ (List.getElem_mem (show 3 < c.length by omega))
    have et : b1d true b i = s32 (c[0]'(by omega) + c[1]'(by omega) * 256 + c[2]'(by omega) * 65536 + c[3]'(by omega) * 16777216) := by
      have h0 := g 0 (by omega)
      have h1 := g 1 (by omega)
      have h2 := g 2 (by omega)
      have h3 := g 3 (by omega)
      rw [Nat.add_zero] at h0
      simp only [b1d, if_true, h0, h1, h2, h3]
      simp [show 0 < c.length by omega, show 1 < c.length by omega, show 2 < c.length by omega, show 3 < c.length by omega]
    simp (disch := omega) [go_sem, b7i, hd, ht, hm, hc, et]
    refine a1r ?_
    simp (disch := omega) [go_sem]
    refine a16 (e4v _ (by omega)) rfl rfl (by simp) [34] (by simp) (by simp (disch := omega) [go_sem]) ?_
    simp (disch := omega) [go_sem]
    refine a1q (by decide) fun s2 hs he => ?_
    simp (disch := omega) [go_sem, hs]
end
end Go.Ideal.Tryz
end
section
set_option linter.unusedVariables false
set_option linter.unusedSimpArgs false
set_option maxRecDepth 10000
namespace Go.Ideal
section
variable {x : Int}
theorem h8a : ∀ n : Nat, n < 256 → (BitVec.ofNat 8 n &&& 8#8).toNat = if n / 8 % 2 = 1 then 8 else 0 := by decide
theorem f08 : ∀ n : Nat, n < 256 → (BitVec.ofNat 64 n &&& ~~~(8#64)).toNat = if n / 8 % 2 = 1 then n - 8 else n := by decide
@[go_sem] theorem h0h (h : 0 ≤ x ∧ x ≤ 255) : a1o .and 0 (.lit (.int .u8 x)) (.lit (.int .u8 8)) = some (.lit (.int .u8 (if x / 8 % 2 = 1 then 8 else 0))) := by
  obtain ⟨n, rfl⟩ := Int.eq_ofNat_of_zero_le h.1
  have h1 := h8a n (by omega)
  have h2 : Op.intBits .and .u8 (n : Int) 8 = Sem.pure (.int .u8 (IntKind.u8.wrap (BitVec.ofInt 8 (n : Int) &&& BitVec.ofInt 8 8).toNat)) := rfl
  have h3 : BitVec.ofInt 8 (n : Int) = BitVec.ofNat 8 n := BitVec.ofInt_natCast ..
  simp only [a1o, c3f, a1d, if_true, h2, h3, a5u, Option.map_some]
  have h4 : (BitVec.ofNat 8 n &&& BitVec.ofInt 8 8).toNat = if n / 8 % 2 = 1 then 8 else 0 := h1
  rw [h4, IntKind.wrap_u8]
  by_cases k : n / 8 % 2 = 1
  · have k' : (n : Int) / 8 % 2 = 1 := by omega
    simp [k, k']
  · have k' : ¬ (n : Int) / 8 % 2 = 1 := by omega
    simp [k, k']
@[go_sem] theorem f5w (h : 0 ≤ x ∧ x ≤ 255) : a1o .andNot 0 (.lit (.int .i64 x)) (.lit (.int .i64 8)) = some (.lit (.int .i64 (if x / 8 % 2 = 1 then x - 8 else x))) := by
  obtain ⟨n, rfl⟩ := Int.eq_ofNat_of_zero_le h.1
  have h1 := f08 n (by omega)
  have h2 : Op.intBits .andNot .i64 (n : Int) 8 = Sem.pure (.int .i64 (IntKind.i64.wrap (BitVec.ofInt 64 (n : Int) &&& ~~~(BitVec.ofInt 64 8)).toNat)) := rfl
  have h3 : BitVec.ofInt 64 (n : Int) = BitVec.ofNat 64 n := BitVec.ofInt_natCast ..
  simp only [a1o, c3f, a1d, if_true, h2, h3, a5u, Option.map_some]
  have h4 : (BitVec.ofNat 64 n &&& ~~~(BitVec.ofInt 64 8)).toNat = if n / 8 % 2 = 1 then n - 8 else n := h1
  rw [h4, IntKind.wrap_i64]
  by_cases k : n / 8 % 2 = 1
  · have k' : (n : Int) / 8 % 2 = 1 := by omega
    rw [if_pos k, if_pos k']
    simp only [Option.some.injEq, AV.lit.injEq, Value.int.injEq, true_and]
    omega
  · have k' : ¬ (n : Int) / 8 % 2 = 1 := by omega
    rw [if_neg k, if_neg k']
    simp only [Option.some.injEq, AV.lit.injEq, Value.int.injEq, true_and]
    omega
end
namespace Tryz
section
variable {G : Nat → Option Value} {bk : Nat → Nat × Nat} {Q : Exit → St → Prop} {st : St} {b : List Int}
theorem f0r (hS : Sent5 G bk) (sh : List Int) (w : Bool) (ok : c74 sh = true) (hlen : sh.length < 2 ^ 40) : ACalls pg G d8p [.agg [slI sh, lb w]] (.tup [.agg [owI sh, lb w, owI (List.replicate (a1y sh).toNat 0)], .lit .nilIface]) := by
  refine c85 rfl ?_
  have hv := b84 (G := G) hS.three sh w (by omega)
  rw [a29.2 ok] at hv
  simp only [a1j] at hv
  have hr := a4t sh
  simp (disch := omega) [go_sem, c43]
  refine a0g hv rfl rfl ?_
  simp (disch := omega) [go_sem]
  refine a1r ?_
  simp (disch := omega) [go_sem]
  refine a16 (e8j sh w hlen) rfl (by simp [a0w, a1e, b9g]) (by simp) [12] (by simp) (by simp (disch := omega) [go_sem]) ?_
  simp (disch := omega) [go_sem]
  refine a16 (d1o hS.three sh (by omega)) rfl rfl (by simp) [15] (by simp) (by simp (disch := omega) [go_sem]) ?_
  simp (disch := omega) [go_sem]
  refine a1q (by decide) fun s2 hs he => ?_
  simp (disch := omega) [go_sem, hs]
theorem h4a (hB : a1l b) (hl : b.length < 2 ^ 40) {sh : List Int} {w : Bool} {n : Nat} {d0 : List Int} (hn : (if w = true then 4 * n else n) ≤ b.length) (hd0 : d0.length = n) (h : st.s 1 = slU b ∧ st.s 2 = .var [slI sh, lb w] ∧ st.s 4 = .var [.own 1 0 [], lb false, .own 1 0 []] ∧ st.s 8 = .var [owI sh, lb w, owI d0] ∧ st.s 9 = .lit .nilIface ∧ st.s 40 = li n ∧ st.s 41 = li 0)
    (hex : ∀ s, s.s 4 = .var [.own 1 0 [], lb false, .own 1 0 []] ∧ s.s 8 = .var [owI sh, lb w, owI (b7h w b n)] ∧ s.s 9 = .lit .nilIface → Q (.exit 1) s) : AW pg G 56 (.loop b4k) Q st := by
  have hnn : n < 2 ^ 40 := by split at hn <;> omega
  refine a0u (Nat × List Int) (fun p st => p.1 ≤ n ∧ p.2.length = n ∧ (∀ j, j < p.1 → p.2[j]! = b1d w b j) ∧ st.s 1 = slU b ∧ st.s 2 = .var [slI sh, lb w] ∧ st.s 4 = .var [.own 1 0 [], lb false, .own 1 0 []] ∧ st.s 8 = .var [owI sh, lb w, owI p.2] ∧ st.s 9 = .lit .nilIface ∧ st.s 40 = li n ∧ st.s 41 = li p.1) (fun p => n - p.1) (0, d0) ⟨by simp, hd0, fun j hj => by omega, h⟩ ?_
  clear h
  rintro ⟨i, d⟩ st K ⟨hi, hd, hm, h⟩ hK
  simp only at hi hd hm h
  by_cases hlt : i < n
  · have hid : i < d.length := by omega
    have hic : (i : Int) < (d.length : Int) := by omega
    simp (disch := omega) [go_sem, b4k, h, hlt]
    refine a1r ?_
    simp (disch := omega) [go_sem, h, hlt]
    refine a16 (f2f hB hl w i (by split <;> rename_i hw <;> simp [hw] at hn <;> omega)) rfl rfl (by simp) [51] (by simp) (by simp (disch := omega) [go_sem, h]) ?_
    simp (disch := omega) [go_sem, h, hlt]
    refine a1q (by decide) fun s2 hs he => ?_
    simp (disch := omega) [go_sem, hs, h]
    refine hK (i + 1, d.set i (b1d w b i)) _ ⟨by simp only; omega, by simpa using hd, fun j hj => ?_, by simp (disch := omega) [go_sem, hs, h, hid]⟩ (by simp only; omega)
    simp only at hj ⊢
    by_cases hji : j = i
    · subst hji; simp [hid]
    · have := hm j (by omega)
      rw [← this]
      simp [List.getElem!_eq_getElem?_getD, List.getElem?_set, show i ≠ j by omega]
  · obtain rfl : i = n := by omega
    have e : d = b7h w b i := by
      apply List.ext_getElem
      · simp [b7h, hd]
      · intro j h1 h2
        have := hm j (by omega)
        simp only [List.getElem!_eq_getElem?_getD, h1, List.getElem?_eq_getElem, Option.getD_some] at this
        rw [this]
        simp [b7h]
    subst e
    simp (disch := omega) [go_sem, b4k, h]
    exact hex _ (by simp (disch := omega) [go_sem, h])
theorem h3x (hS : Sent5 G bk) (hB : a1l b) (hl : b.length < 2 ^ 40) (sh : List Int) (w : Bool) (ok : c74 sh = true) (hlen : sh.length < 2 ^ 40) (hbl : (b.length : Int) = a2p sh w) : ACalls pg G e4x [.agg [slI sh, lb w], slU b] (.tup [.agg [owI sh, lb w, owI (b7h w b (a1y sh).toNat)], .lit .nilIface]) := by
  refine d5m rfl ?_
  have hv := b84 (G := G) hS.three sh w (by omega)
  rw [a29.2 ok] at hv
  simp only [a1j] at hv
  have hr := a4t sh
  have hn : (if w = true then 4 * (a1y sh).toNat else (a1y sh).toNat) ≤ b.length := by
    unfold a2p at hbl
    cases w <;> simp at hbl ⊢ <;> omega
  simp (disch := omega) [go_sem, d4d]
  refine a0g hv rfl rfl ?_
  simp (disch := omega) [go_sem]
  refine a0g (d1x hS.three sh w (by omega)) rfl rfl ?_
  simp (disch := omega) [go_sem, hbl]
  refine a0g (f0r hS sh w ok hlen) rfl (by simp only [a0w, a1e, b9g, Bool.and_true]) ?_
  simp (disch := omega) [go_sem]
  refine h4a hB hl (sh := sh) (w := w) (n := (a1y sh).toNat) (d0 := List.replicate (a1y sh).toNat 0) hn (by simp) (by simp (disch := omega) [go_sem]) fun s h => ?_
  simp (disch := omega) [go_sem, h]
end
end Tryz
end Go.Ideal
end
section
set_option linter.unusedVariables false
set_option linter.unusedSimpArgs false
set_option maxRecDepth 10000
namespace Go.Ideal.Tryz
structure Tr where
  sh : List Int
  wide : Bool
  data : List Int
  at_ : Nat
  er : Er
abbrev h87 (bk : Nat → Nat × Nat) (t : Tr) : AV := .tup [f5x t.sh t.wide t.data, li t.at_, a1j bk t.er]
def c2w (b : List Int) : Nat → List Int → Nat → Option (List Int × Nat)
  | 0, l, a => some (l, a)
  | n + 1, l, a => if b.length < a + 2 then none else c2w b n (l ++ [b[a]! + b[a + 1]! * 256]) (a + 2)
def c1d (b : List Int) (w : Bool) (l : List Int) (a : Nat) : Tr :=
  if (b5w l).isNil = true then (if b.length < a + (a2p l w).toNat then ⟨[], false, [], 0, .s 4⟩ else ⟨l, w, b7h w ((b.drop a).take (a2p l w).toNat) (a1y l).toNat, a + (a2p l w).toNat, .nil⟩) else ⟨[], false, [], 0, b5w l⟩
def a60 (b : List Int) (w : Bool) (n : Nat) (l : List Int) (a : Nat) : Tr := match c2w b n l a with
  | none => ⟨[], false, [], 0, .s 4⟩
  | some (l, a) => c1d b w l a
def a27 (b : List Int) : Tr := match b with
  | [] => ⟨[], false, [], 0, .s 4⟩
  | x :: _ => if 16 ≤ x then ⟨[], false, [], 0, .s 5⟩ else a60 b (decide (x / 8 % 2 = 1)) (x % 8).toNat [] 1
theorem a2x {e : Er} : e.isNil = true ↔ e = .nil := by cases e <;> simp [Er.isNil]
section
variable {G : Nat → Option Value} {bk : Nat → Nat × Nat} {Q : Exit → St → Prop} {st : St} {b : List Int}
theorem e9w (hS : Sent5 G bk) (hB : a1l b) (hl : b.length < 2 ^ 40) {w : Bool} {n : Nat} (hn : n ≤ 7) (h : st.s 0 = slU b ∧ st.s 2 = .var [.own 1 0 [], lb false, .own 1 0 []] ∧ st.s 3 = li 0 ∧ st.s 4 = .lit .nilIface ∧ st.s 6 = .var [owI [], lb w] ∧ st.s 7 = li 1 ∧ st.s 34 = li n ∧ st.s 35 = li 0)
    (hbad : a60 b w n [] 1 = ⟨[], false, [], 0, .s 4⟩ → ∀ s, s.s 2 = .var [.sl 0 [], lb false, .sl 0 []] ∧ s.s 3 = li 0 ∧ s.s 4 = a1j bk (.s 4) → Q .ret s)
    (hex : ∀ l (a : Nat), l.length ≤ 7 → a ≤ b.length + 1 → a60 b w n [] 1 = c1d b w l a → ∀ s, s.s 0 = slU b ∧ s.s 2 = .var [.own 1 0 [], lb false, .own 1 0 []] ∧ s.s 3 = li 0 ∧ s.s 4 = .lit .nilIface ∧ s.s 6 = .var [owI l, lb w] ∧ s.s 7 = li a → Q (.exit 0) s) : AW pg G 93 (.loop a5l) Q st := by
  have h4 := hS.val 2 (by decide)
  refine a0u (Nat × List Int × Nat) (fun p st => p.1 ≤ n ∧ p.2.1.length = n - p.1 ∧ p.2.2 ≤ b.length + 1 ∧ a60 b w n [] 1 = a60 b w p.1 p.2.1 p.2.2 ∧ st.s 0 = slU b ∧ st.s 2 = .var [.own 1 0 [], lb false, .own 1 0 []] ∧ st.s 3 = li 0 ∧ st.s 4 = .lit .nilIface ∧ st.s 6 = .var [owI p.2.1, lb w] ∧ st.s 7 = li p.2.2 ∧ st.s 34 = li n ∧ st.s 35 = li (n - p.1 : Nat)) (fun p => p.1) (n, [], 1) ⟨by simp, by simp, by simp, rfl, by simp (disch := omega) [go_sem, h]⟩ ?_
  clear h
  rintro ⟨k, l, a⟩ st K ⟨hi, hlen, ha, hm, h⟩ hK
  simp only at hi hlen ha hm h
  cases k with
  | zero =>
    simp only [a60, c2w, Nat.sub_zero] at hm h
    have hnn : ¬ (n : Int) < n := by omega
    simp (disch := omega) [go_sem, a5l, h, hnn]
    exact hex l a (by omega) ha (by simpa only [a60] using hm) _ (by simp (disch := omega) [go_sem, h])
  | succ k =>
    have hlt : ((n - (k + 1) : Nat) : Int) < n := by omega
    by_cases hb : b.length < a + 2
    · have hb' : (b.length : Int) < (a : Int) + 2 := by omega
      simp only [a60, c2w, hb, if_true] at hm
      simp (disch := omega) [go_sem, a5l, h, hlt, hb']
      refine a1r ?_
      simp (disch := omega) [go_sem, h, h4]
      refine a1q (by decide) fun s2 hs he => ?_
      simp (disch := omega) [go_sem, h4, hs]
      exact hbad (by simpa only [a60] using hm) _ (by simp (disch := omega) [go_sem, hs, a1j])
    · have hb' : ¬ (b.length : Int) < (a : Int) + 2 := by omega
      have e : a60 b w (k + 1) l a = a60 b w k (l ++ [b[a]! + b[a + 1]! * 256]) (a + 2) := by simp only [a60, c2w, hb, if_false]
      have en : ((n - k : Nat) : Int) = ((n - (k + 1) : Nat) : Int) + 1 := by omega
      rw [e] at hm
      have g1 : a < b.length := by omega
      have g2 : a + 1 < b.length := by omega
      have r1 := hB _ (List.getElem_mem g1)
      have r2 := hB _ (List.getElem_mem g2)
      have e1 : b[a]! = b[a] := by simp [g1]
      have e2 : b[a + 1]! = b[a + 1] := by simp [g2]
      rw [e1, e2] at hm
      simp (disch := omega) [go_sem, a5l, h, hlt, hb']
      refine a1r ?_
      simp (disch := omega) [go_sem, h, g1, g2]
      refine a1q (by decide) fun s2 hs he => ?_
      simp (disch := omega) [go_sem, hs, h]
      refine hK (k, l ++ [b[a] + b[a + 1] * 256], a + 2) _ ⟨by simp only; omega, by simp only [List.length_append, hlen, List.length_cons, List.length_nil]; omega, by simp only; omega, hm, by simp (disch := omega) [go_sem, hs, h, en]⟩ (by simp only; omega)
theorem f2g (hS : Sent5 G bk) (hB : a1l b) (hl : b.length < 2 ^ 40) : ACalls pg G e0e [slU b] (h87 bk (a27 b)) := by
  refine c7n rfl ?_
  have h4 := hS.val 2 (by decide)
  have h5 := hS.val 3 (by decide)
  cases b with
  | nil =>
    simp (disch := omega) [go_sem, b03]
    refine a1r ?_
    simp (disch := omega) [go_sem, h4]
    refine a1q (by decide) fun s2 hs he => ?_
    simp (disch := omega) [go_sem, hs, h4, a27, a1j, Er.isNil]
  | cons x r =>
  obtain ⟨hx0, hx1⟩ := hB x (by simp)
  by_cases h16 : 16 ≤ x
  · have hlen : (((x :: r).length : Nat) : Int) ≠ 0 := by simp only [List.length_cons]; omega
    simp (disch := omega) [go_sem, b03, hlen, h16]
    refine a1r ?_
    simp (disch := omega) [go_sem, h5, h16]
    refine a1q (by decide) fun s2 hs he => ?_
    simp (disch := omega) [go_sem, hs, h5, a27, h16, a1j, Er.isNil]
  obtain ⟨n, w, hn, hx, hw, hk⟩ : ∃ (n : Nat) (w : Bool), n ≤ 7 ∧ x = (if w = true then (n : Int) + 8 else n) ∧ decide (x / 8 % 2 = 1) = w ∧ (x % 8).toNat = n := by
    by_cases k : x / 8 % 2 = 1
    · exact ⟨(x - 8).toNat, true, by omega, by simp; omega, by simp [k], by omega⟩
    · exact ⟨x.toNat, false, by omega, by simp; omega, by simp [k], by omega⟩
  have ht : a27 (x :: r) = a60 (x :: r) w n [] 1 := by simp only [a27, h16, if_false, hw, hk]
  rw [ht]
  have hg : ∃ h0 : 0 < (x :: r).length, (x :: r)[0] = x := ⟨by simp, rfl⟩
  have hv : (if x / 8 % 2 = 1 then x - 8 else x) = n := by cases w <;> simp at hx hw <;> simp [hw] <;> omega
  have hv2 : (!decide ((if x / 8 % 2 = 1 then (8 : Int) else 0) = 0)) = w := by cases w <;> simp at hw <;> simp [hw]
  have h16' : ¬ 16 ≤ x := h16
  clear hk ht h16
  generalize hb : x :: r = b at *
  clear hb
  obtain ⟨h0, hg⟩ := hg
  have hne : ¬ b.length = 0 := by omega
  have hne' : ¬ (b.length : Int) = 0 := by omega
  simp (disch := omega) [go_sem, b03, h0, hg, h16', hne', hne, hv, hv2, hw]
  refine e9w hS hB hl (w := w) (n := n) hn (by simp (disch := omega) [go_sem]) (fun ht s h => ?_) fun l a hl7 ha ht s h => ?_
  · rw [ht]
    simp (disch := omega) [go_sem, h, Er.isNil]
  · rw [ht]
    have hv := b84 (G := G) hS.three l w (by omega)
    have hbr := a4t l
    have hbe := e3j l w
    have hbw : (if w = true then 4 * (a1y l).toNat else (a1y l).toNat) = (a2p l w).toNat ∧ 0 ≤ a2p l w ∧ a2p l w ≤ 65536 := by cases w <;> simp at hbe ⊢ <;> omega
    have hby := d1x (G := G) hS.three l w (by omega)
    unfold c1d
    obtain ⟨m, hm⟩ := Int.eq_ofNat_of_zero_le hbw.2.1
    rw [hm] at hbw hby
    rw [hm]
    simp only [Int.ofNat_eq_natCast, Int.toNat_natCast] at hbw hby ⊢
    obtain ⟨hn1, -, hm2⟩ := hbw
    simp (disch := omega) [go_sem, h]
    refine a3b hv (c1p _) (by simp (disch := omega) [go_sem, h]) ?_
    cases he : (b5w l).isNil with
    | true =>
      simp (disch := omega) [go_sem, h, he]
      refine a0g hby rfl rfl ?_
      by_cases hlt : b.length < a + m
      · have hlt' : (b.length : Int) < a + m := by omega
        simp (disch := omega) [go_sem, h, hlt']
        refine a1r ?_
        simp (disch := omega) [go_sem, h, h4]
        refine a1q (by decide) fun s2 hs hep => ?_
        simp (disch := omega) [go_sem, hs, h4, h, hlt, a1j, Er.isNil]
      · have hlt' : ¬ (b.length : Int) < a + m := by omega
        obtain ⟨c, hC⟩ : ∃ c, c = (b.drop a).take m := ⟨_, rfl⟩
        have hcl : c.length = m := by rw [hC]; simp; omega
        have hcB : a1l c := fun x hx => hB x (by rw [hC] at hx; exact List.mem_of_mem_drop (List.mem_of_mem_take hx))
        have hd : ((a : Int) + m).toNat - a = c.length := by omega
        have hmm : List.take c.length (List.drop a (List.map lu b)) = c.map lu := by
          rw [hcl, ← List.map_drop, ← List.map_take, ← hC]
        have hof := h3x (G := G) hS hcB (by omega) l w (a29.1 (a2x.1 he)) (by omega) (by rw [hm]; omega)
        simp (disch := omega) [go_sem, h, hlt']
        refine a1r ?_
        simp (disch := omega) [go_sem, h, hd, hmm]
        refine a16 hof rfl (by simp only [a0w, a1e, b9g, Bool.and_true]) (by simp) [87, 82, 86] (by simp) (by simp (disch := omega) [go_sem, h]) ?_
        simp (disch := omega) [go_sem, h]
        refine a1q (by decide) fun s2 hs hep => ?_
        simp (disch := omega) [go_sem, hs, h, hlt, hC, Er.isNil, a1j]
    | false =>
      simp (disch := omega) [go_sem, h, he]
end
end Go.Ideal.Tryz
end
section
set_option linter.unusedVariables false
set_option linter.unusedSimpArgs false
set_option maxRecDepth 10000
namespace Go.Ideal.Tryz
def Er.is4 (e : Er) : Bool := match e with
  | .s g => decide (g = 4)
  | _ => false
def c51 (s : Rs) (p : Int) (e : Er) : Rs := if e.is4 = true then ⟨s.at_, e⟩ else if e.isNil = true then s else b77 s p e
def a28 (b : List Int) (p : Int) (s : Rs) : (List Int × Bool × List Int) × Rs := if s.err.isNil = true then
    (((a27 (b.drop s.at_)).sh, (a27 (b.drop s.at_)).wide, (a27 (b.drop s.at_)).data), ⟨s.at_ + (a27 (b.drop s.at_)).at_, (c51 s p (a27 (b.drop s.at_)).er).err⟩)
  else (([], false, []), s)
theorem c6b (b : List Int) : ((a27 b).er = .nil ∧ (a27 b).at_ ≤ b.length) ∨ ((∃ g, (2 ≤ g ∧ g ≤ 6) ∧ (a27 b).er = .s g) ∧ (a27 b).at_ = 0) := by
  have rest : ∀ w l a, ((c1d b w l a).er = .nil ∧ (c1d b w l a).at_ ≤ b.length) ∨ ((∃ g, (2 ≤ g ∧ g ≤ 6) ∧ (c1d b w l a).er = .s g) ∧ (c1d b w l a).at_ = 0) := by
    intro w l a
    unfold c1d
    split
    · split
      · exact .inr ⟨⟨4, by omega, rfl⟩, rfl⟩
      · exact .inl ⟨rfl, by simp only; omega⟩
    · rename_i h
      refine .inr ⟨?_, rfl⟩
      rcases b1a l with k | k | k
      · exact absurd (a2x.2 k) h
      · exact ⟨2, by omega, k⟩
      · exact ⟨3, by omega, k⟩
  have dims : ∀ w n l a, ((a60 b w n l a).er = .nil ∧ (a60 b w n l a).at_ ≤ b.length) ∨ ((∃ g, (2 ≤ g ∧ g ≤ 6) ∧ (a60 b w n l a).er = .s g) ∧ (a60 b w n l a).at_ = 0) := by
    intro w n l a
    unfold a60
    split
    · exact .inr ⟨⟨4, by omega, rfl⟩, rfl⟩
    · exact rest _ _ _
  cases b with
  | nil => exact .inr ⟨⟨4, by omega, rfl⟩, rfl⟩
  | cons x r =>
    unfold a27
    simp only
    split
    · exact .inr ⟨⟨5, by omega, rfl⟩, rfl⟩
    · exact dims _ _ _ _
theorem e2n {b : List Int} (p : Int) (s : Rs) (h : s.at_ ≤ b.length) : (a28 b p s).2.at_ ≤ b.length := by
  unfold a28
  split
  · have := c6b (b.drop s.at_)
    simp only [List.length_drop] at this ⊢
    omega
  · exact h
section
variable {G : Nat → Option Value} {bk : Nat → Nat × Nat} {Q : Exit → St → Prop} {st : St} {b : List Int}
theorem e6n (hS : Sent5 G bk) (hB : a1l b) (hl : b.length < 2 ^ 40) (p : Int) (s : Rs) (ha : s.at_ ≤ b.length) : ACallsX pg G b4v [b0a bk b s, li p] (f5x (a28 b p s).1.1 (a28 b p s).1.2.1 (a28 b p s).1.2.2) [(0, b0a bk b (a28 b p s).2)] := by
  refine a90 (pins := [0]) (by kernel_rfl) rfl rfl (by simp [go_sem]) rfl ?_
  have h4 := hS.val 2 (by decide)
  obtain ⟨a, e⟩ := s
  simp only at ha
  cases he : e.isNil with
  | true =>
    obtain ⟨c, hC⟩ : ∃ c, c = b.drop a := ⟨_, rfl⟩
    have hcl : c.length = b.length - a := by rw [hC]; simp
    have hcB : a1l c := fun x hx => hB x (by rw [hC] at hx; exact List.mem_of_mem_drop hx)
    have hmm : AV.sl (b.length - a) (List.take (b.length - a) (List.drop a (List.map lu b))) = slU c := by
      rw [← List.map_drop, ← hC, List.take_of_length_le (by simp [hcl]), ← hcl]
    have hr := f2g (G := G) hS hcB (by omega)
    have hm : a28 b p ⟨a, e⟩ = (((a27 c).sh, (a27 c).wide, (a27 c).data), ⟨a + (a27 c).at_, (c51 ⟨a, e⟩ p (a27 c).er).err⟩) := by simp only [a28, he, if_true, hC]
    have hc := c6b c
    rw [hm]
    generalize a27 c = t at *
    clear hm
    obtain ⟨sh, w, d, n, er⟩ := t
    simp only at hc ⊢
    have h0 : er = .nil ∨ ∃ g, (2 ≤ g ∧ g ≤ 6) ∧ er = .s g := by rcases hc with h | h; exact .inl h.1; exact .inr h.1
    have hn : n ≤ c.length := by rcases hc with h | h <;> omega
    have hi : ACalls pg G 66 [a1j bk er, sv bk 4] (lb er.is4) := by
      rcases h0 with rfl | ⟨g, hg, rfl⟩
      · exact g0e hS (.inl rfl) (by decide)
      · exact g0e hS (.inr ⟨g, hg, rfl⟩) (by decide)
    simp (disch := omega) [go_sem, a3t, he]
    refine a7w [(0, 0)] (by simp) (by simp (disch := omega) [go_sem]) ?_
    simp (disch := omega) [go_sem, hmm]
    refine e34 hr (by simp [go_sem]) (by simp (disch := omega) [go_sem]) (by simp) [24, 23] (by simp) (by simp (disch := omega) [go_sem]) ?_
    simp (disch := omega) [go_sem]
    refine a1q (by decide) fun s2 hs hep => ?_
    simp (disch := omega) [go_sem, hs, hep, h4]
    refine a3b hi rfl (by simp (disch := omega) [go_sem]) ?_
    cases h4i : er.is4 with
    | true =>
      simp (disch := omega) [go_sem, hs, hep, c51, h4i]
    | false =>
      cases hni : er.isNil with
      | true =>
        simp (disch := omega) [go_sem, hs, hep, hni, c51, h4i]
      | false =>
        simp (disch := omega) [go_sem, hs, hep, hni]
        refine a0z (d48 (bk := bk) (b := b) ⟨a, e⟩ p er) rfl rfl rfl (by simp (disch := omega) [go_sem, hs, hep]) ?_
        simp (disch := omega) [go_sem, hs, hep, d21, c51, h4i, hni]
  | false =>
    simp (disch := omega) [go_sem, a3t, he, a28]
end
end Go.Ideal.Tryz
end
