/- Part Pm of the proof: a machine with trees for values, its soundness, and walks on it. -/
import Derived.Test.YtfdhkijgolgnfaaDoorPk
import Derived.Test.YtfdhkijgolgnfaaDoorPj
import Derived.Test.YtfdhkijgolgnfaaDoorPl

section
set_option linter.unusedVariables false
set_option linter.unusedSimpArgs false
namespace Go.Ideal
section
variable {N : Nat} {st st1 st2 : St} {P : Program} {G : Nat → Option Value} {K : St → Prop}
/-- The frame's own slots are the same. -/
def eqLow (N : Nat) (a b : St) : Prop := (∀ u, u < N → b.s u = a.s u) ∧ ∀ u, b.ep u = a.ep u
@[congr] theorem eqLow_congr {a b b' : St} (h : b = b') : eqLow N a b = eqLow N a b' := by rw [h]
@[go_sem] theorem eqLow_refl : eqLow N st st = True := by simp [eqLow]
def eqLowX (N : Nat) (a b : St) : Prop := eqLow N a b
@[go_sem] theorem eqLow_put {t : Nat} {v : AV} : eqLow N st1 (st2.put t v) = frI (decide (N ≤ t) && !(rowOf v).isSome) (eqLow N st1 st2) (eqLowX N st1 (st2.put t v)) := by
  simp only [frI, eqLowX]
  split
  · rename_i h
    simp only [Bool.and_eq_true, decide_eq_true_eq, Bool.not_eq_true'] at h
    apply propext
    simp only [eqLow, St.put_s, St.put_ep, h.2, Bool.false_eq_true, and_false, if_false]
    constructor
    · rintro ⟨h1, h2⟩
      exact ⟨fun u hu => by have := h1 u hu; rwa [if_neg (by omega)] at this, h2⟩
    · rintro ⟨h1, h2⟩
      exact ⟨fun u hu => by rw [if_neg (by omega)]; exact h1 u hu, h2⟩
  · rfl
theorem eqLow_finX {T : List (Nat × AV)} {d : Option Nat} {res : AV} (h : eqLow N st1 st2) : finX st2 N T d res = finX st1 N T d res := by
  have e : st2.lentS N T = st1.lentS N T := by
    refine St.ext' (fun u => ?_) (fun u => h.2 u)
    simp only [St.lentS]
    by_cases hu : u < N
    · simp [hu, h.1 u hu]
    · simp [hu]
  cases d <;> simp only [finX, e]
theorem eqLow_finS {d : Option Nat} {res : AV} (h : eqLow N st1 st2) : finS st2 N d res = finS st1 N d res := by
  have e : st2.clear N = st1.clear N := by
    refine St.ext' (fun u => ?_) (fun u => h.2 u)
    simp only [St.clear]
    by_cases hu : u < N
    · simp [hu, h.1 u hu]
    · simp [hu]
  cases d <;> simp only [finS, e]
/-- A call that shows nothing that is held alone. -/
theorem clx_same {d : Option Nat} {f : FuncId} {pre : List AV} {L : List (Nat × Nat)} {res : AV} {posts : List (Nat × AV)} (hA : ACallsX P G f pre res posts) (hn : noRef res = true) (hp : posts.map (·.1) = L.map (·.2)) (hv : (posts.all fun p => isVar p.2) = true) (h12 : eqLow N st1 st2)
    (h : K (finX st1 N ((L.map (·.1)).zip (posts.map (·.2))) d res)) : clx P G N d f pre L st1 st2 K := clx_any hA hn hp hv h (by rw [eqLow_finX h12]; exact h)
theorem cal_same {d : Option Nat} {f : FuncId} {pre : List AV} {res : AV} (hA : ACalls P G f pre res) (hn : noRef res = true) (h12 : eqLow N st1 st2) (h : K (finS st1 N d res)) : cal P G N d f pre st1 st2 K := cal_any hA hn h (by rw [eqLow_finS h12]; exact h)
theorem dCal_same {aft : DA} {rest : List AO} {fps : List (List Nat × List Nat)} {d : Option Nat} {f : FuncId} {st : St} {pre : List AV} {rd : List Nat} {res : AV} (hA : ACalls P G f pre res) (hn : noRef res = true) (h12 : eqLow N st1 st2) (hrd : ∀ t ∈ rd, t < N) (W : List Nat) (hW : ∀ t ∈ W, t < N) (hf : fr N W st (finS st1 N d res)) (h : InvV aft.2 (finS st1 N d res) ∧ dOps P G N aft rest (fps ++ [(rd, W)]) K (finS st1 N d res)) : dCal P G N aft d f pre rd rest fps K st st1 st2 := by
  cases hi : noImm res with
  | true => exact dCal_pure hA hn hi hrd W hW hf h
  | false => exact dCal_imm hA hn hi hrd W hW (by rw [eqLow_finS h12]; exact hf) (by rw [eqLow_finS h12]; exact h)
end
namespace Tryd
section
variable {bk : Nat → Nat × Nat} {e : Er} {st : St} {N d t j : Nat} {x : X}
@[go_sem] theorem rowOf_encE : rowOf (encE bk e) = none := by cases e <;> rfl
@[go_sem] theorem baseOf_encE : baseOf (encE bk e) = none := by cases e <;> rfl
@[go_sem] theorem frz_encE : frz (encE bk e) = encE bk e := by cases e <;> simp only [encE, frz]
@[go_sem] theorem killR_encE {kl : Nat → List Nat → Bool} : killR kl (encE bk e) = encE bk e := by cases e <;> simp only [encE, killR]
@[go_sem] theorem mvS_encE : mvS st d x (encE bk e) = some (st.put d (encE bk e)) := by cases e <;> simp [encE, mvS, noOwn]
@[go_sem] theorem asgS_encE : asgS st N d (.t t) (encE bk e) = some (st.put d (encE bk e)) := by cases e <;> simp [encE, go_sem]
@[go_sem] theorem ldK_encE {q : List Nat} {o : Nat} : ldK st t q o (some (encE bk e)) = some (encE bk e) := by cases e <;> simp [encE, ldK, noOwn]
@[go_sem] theorem psS_encE : psS st N (.t t) j (encE bk e) = some (st.put j (encE bk e)) := by cases e <;> simp [encE, go_sem]
@[go_sem] theorem gvS_encE : gvS st N (.t t) j (encE bk e) = some (st.put j (encE bk e)) := by cases e <;> simp [encE, go_sem]
@[go_sem] theorem extK_encE {i : Nat} {ks : List AV} : extK st N d (.t t) i ks (some (encE bk e)) = some (st.put d (encE bk e)) := by cases e <;> simp [encE, go_sem]
@[go_sem] theorem eql_encE : binAV .eql 2 (encE bk e) (.lit .nilIface) = some (.lit (.bool e.isNil)) := by cases e <;> rfl
@[go_sem] theorem neq_encE : binAV .neq 2 (encE bk e) (.lit .nilIface) = some (.lit (.bool !e.isNil)) := by cases e <;> rfl
/-- A place's error that is stored: its temporary is forgotten. -/
def kE (st : St) (t : Nat) : Er → St
  | .at _ _ => st.put t .dead
  | _ => st
@[go_sem] theorem giv_encE : giv st N (.t t) (encE bk e) = some (kE st t e, [encE bk e]) := by cases e <;> simp [encE, go_sem, kE, givT]
@[go_sem] theorem kE_s {u : Nat} (h : u ≠ t) : (kE st t e).s u = st.s u := by cases e <;> simp [kE, h]
@[go_sem] theorem kE_ep {u : Nat} : (kE st t e).ep u = st.ep u := by cases e <;> simp [kE, St.put_ep, rowOf]
end
end Tryd
end Go.Ideal
end

section
set_option linter.unusedVariables false
set_option linter.unusedSimpArgs false
set_option maxRecDepth 10000
namespace Go.Ideal
theorem bor_add {x m j : Nat} (hx : x < 2 ^ j) (ht : x + m * 2 ^ j < 2 ^ 63) : pureOf (Op.intBits .or .i64 (x : Int) ((m * 2 ^ j : Nat) : Int)) = some (.int .i64 ((x + m * 2 ^ j : Nat) : Int)) := by
  have h1 : (BitVec.ofInt 64 (x : Int) ||| BitVec.ofInt 64 ((m * 2 ^ j : Nat) : Int)).toNat = x + m * 2 ^ j := by
    rw [BitVec.toNat_or, BitVec.ofInt_natCast, BitVec.ofInt_natCast, BitVec.toNat_ofNat, BitVec.toNat_ofNat, Nat.mod_eq_of_lt (by omega), Nat.mod_eq_of_lt (by omega), Nat.or_comm, ← Nat.shiftLeft_eq, ← Nat.shiftLeft_add_eq_or_of_lt hx, Nat.shiftLeft_eq]
    omega
  have h2 : Op.intBits .or .i64 (x : Int) ((m * 2 ^ j : Nat) : Int) = Sem.pure (.int .i64 (IntKind.i64.wrap (BitVec.ofInt 64 (x : Int) ||| BitVec.ofInt 64 ((m * 2 ^ j : Nat) : Int)).toNat)) := rfl
  rw [h2, h1]
  show some (Value.int .i64 (IntKind.i64.wrap ((x + m * 2 ^ j : Nat) : Int))) = _
  rw [wrap_i64' (by omega)]
theorem ba_or_k {x m : Int} (j : Nat) {M : Int} (hM : M = 2 ^ j) (h : 0 ≤ x ∧ x < M ∧ 0 ≤ m ∧ x + m * M < 9223372036854775808) : binAV .or 0 (.lit (.int .i64 x)) (.lit (.int .i64 (m * M))) = some (.lit (.int .i64 (x + m * M))) := by
  obtain ⟨h1, h2, h3, h4⟩ := h
  obtain ⟨a, rfl⟩ := Int.eq_ofNat_of_zero_le h1
  obtain ⟨c, rfl⟩ := Int.eq_ofNat_of_zero_le h3
  subst hM
  have e : ((c : Int) * 2 ^ j) = ((c * 2 ^ j : Nat) : Int) := by simp
  have h2' : a < 2 ^ j := by have : (a : Int) < ((2 ^ j : Nat) : Int) := by simpa using h2
                             omega
  have := bor_add (x := a) (m := c) (j := j) h2' (by
    have h5 : ((a + c * 2 ^ j : Nat) : Int) < 9223372036854775808 := by rw [e] at h4; simpa using h4
    omega)
  rw [e]
  simp only [binAV, litOp, binLit, if_true, this]
  simp
section
variable {x m : Int}
@[go_sem] theorem ba_or8 (h : 0 ≤ x ∧ x < 256 ∧ 0 ≤ m ∧ m < 1099511627776) : binAV .or 0 (.lit (.int .i64 x)) (.lit (.int .i64 (m * 256))) = some (.lit (.int .i64 (x + m * 256))) := ba_or_k 8 rfl (by omega)
@[go_sem] theorem ba_or16 (h : 0 ≤ x ∧ x < 65536 ∧ 0 ≤ m ∧ m < 4294967296) : binAV .or 0 (.lit (.int .i64 x)) (.lit (.int .i64 (m * 65536))) = some (.lit (.int .i64 (x + m * 65536))) := ba_or_k 16 rfl (by omega)
@[go_sem] theorem ba_or24 (h : 0 ≤ x ∧ x < 16777216 ∧ 0 ≤ m ∧ m < 4294967296) : binAV .or 0 (.lit (.int .i64 x)) (.lit (.int .i64 (m * 16777216))) = some (.lit (.int .i64 (x + m * 16777216))) := ba_or_k 24 rfl (by omega)
@[go_sem] theorem ba_shl {k yk : IntKind} {a b : Int} (h : 0 ≤ b) : binAV .shl 0 (.lit (.int k a)) (.lit (.int yk b)) = some (.lit (.int k (k.wrap (a * 2 ^ min b.toNat k.bits)))) := by
  have : binLit .shl (.int k a) (.int yk b) = some (.int k (k.wrap (a * 2 ^ min b.toNat k.bits))) := by simp [binLit, Op.shift, show ¬ b < 0 by omega]; rfl
  simp [binAV, litOp, this]
end
namespace Tryd
/-! ### plan.Reader -/
structure Rs where
  at_ : Nat
  err : Er
abbrev rdAV (bk : Nat → Nat × Nat) (b : List Int) (s : Rs) : AV := .var [slU b, li s.at_, encE bk s.err]
def byteL (b : List Int) : Prop := ∀ x ∈ b, 0 ≤ x ∧ x ≤ 255
def rByte (b : List Int) (s : Rs) : Int × Rs := if s.err.isNil = true then (if s.at_ < b.length then (b[s.at_]!, ⟨s.at_ + 1, s.err⟩) else (0, ⟨s.at_, .s 4⟩)) else (0, s)
def rCount (b : List Int) (s : Rs) : Int × Rs := ((rByte b s).1 + (rByte b (rByte b s).2).1 * 256, (rByte b (rByte b s).2).2)
def s32 (n : Int) : Int := if 2147483648 ≤ n then n - 4294967296 else n
def rNumber (b : List Int) (s : Rs) : Int × Rs := (s32 ((rCount b s).1 + (rCount b (rCount b s).2).1 * 65536), (rCount b (rCount b s).2).2)
def rdBad (s : Rs) (p : Int) (e : Er) : Rs := if s.err.isNil = true then ⟨s.at_, .at p e⟩ else s
theorem get_byte {b : List Int} (hb : byteL b) (i : Nat) : 0 ≤ b[i]! ∧ b[i]! ≤ 255 := by
  by_cases h : i < b.length
  · have := hb _ (List.getElem_mem h)
    simpa [h] using this
  · simp [show b[i]? = none by simp; omega, List.getElem!_eq_getElem?_getD]
theorem rByte_rng {b : List Int} (hb : byteL b) (s : Rs) : 0 ≤ (rByte b s).1 ∧ (rByte b s).1 ≤ 255 := by
  unfold rByte
  split
  · split
    · exact get_byte hb _
    · simp
  · simp
theorem rByte_at {b : List Int} (s : Rs) (h : s.at_ ≤ b.length) : (rByte b s).2.at_ ≤ b.length := by
  unfold rByte
  split
  · split
    · simp only; omega
    · simpa using h
  · simpa using h
theorem rCount_rng {b : List Int} (hb : byteL b) (s : Rs) : 0 ≤ (rCount b s).1 ∧ (rCount b s).1 ≤ 65535 := by
  have h1 := rByte_rng hb s
  have h2 := rByte_rng hb (rByte b s).2
  unfold rCount
  simp only
  omega
theorem rCount_at {b : List Int} (s : Rs) (h : s.at_ ≤ b.length) : (rCount b s).2.at_ ≤ b.length := rByte_at _ (rByte_at _ h)
theorem rNumber_at {b : List Int} (s : Rs) (h : s.at_ ≤ b.length) : (rNumber b s).2.at_ ≤ b.length := rCount_at _ (rCount_at _ h)
section
variable {G : Nat → Option Value} {bk : Nat → Nat × Nat} {Q : Exit → St → Prop} {st : St} {b : List Int}
theorem byte84 (hS : Sent G bk) (hB : byteL b) (hl : b.length < 2 ^ 40) (s : Rs) (ha : s.at_ ≤ b.length) : ACallsX pg G F_plan_Reader_Byte [rdAV bk b s] (li (rByte b s).1) [(0, rdAV bk b (rByte b s).2)] := by
  refine plan_Reader_Byte_callX (pins := [0]) (by kernel_rfl) rfl rfl (by simp [go_sem]) rfl ?_
  obtain ⟨a, e⟩ := s
  simp only at ha
  cases he : e.isNil with
  | true =>
    by_cases hlt : a < b.length
    · simp (disch := omega) [go_sem, plan_Reader_Byte_c]
      refine aw_draw ?_
      simp (disch := omega) [go_sem, he]
      refine dFin_i (by decide) fun s2 hs hep => ?_
      have hlt' : ¬ (b.length : Int) ≤ a := by omega
      simp (disch := omega) [go_sem, hs, hep, he, hlt', hlt]
      refine aw_draw ?_
      simp (disch := omega) [go_sem, hs, hep, he, hlt]
      refine dFin_i (by decide) fun s3 hs3 hep3 => ?_
      have hr := hB _ (List.getElem_mem hlt)
      simp (disch := omega) [go_sem, hs3, hs, hep, rByte, he, hlt]
    · simp (disch := omega) [go_sem, plan_Reader_Byte_c]
      refine aw_draw ?_
      simp (disch := omega) [go_sem, he]
      refine dFin_i (by decide) fun s2 hs hep => ?_
      have hlt' : (b.length : Int) ≤ a := by omega
      simp (disch := omega) [go_sem, hs, hep, he, hlt', hlt, hS.val, rByte, encE]
  | false =>
    simp (disch := omega) [go_sem, plan_Reader_Byte_c]
    refine aw_draw ?_
    simp (disch := omega) [go_sem, he]
    refine dFin_i (by decide) fun s2 hs hep => ?_
    simp (disch := omega) [go_sem, hs, hep, he, rByte]
theorem count83 (hS : Sent G bk) (hB : byteL b) (hl : b.length < 2 ^ 40) (s : Rs) (ha : s.at_ ≤ b.length) : ACallsX pg G F_plan_Reader_Count [rdAV bk b s] (li (rCount b s).1) [(0, rdAV bk b (rCount b s).2)] := by
  refine plan_Reader_Count_callX (pins := [0]) (by kernel_rfl) rfl rfl (by simp [go_sem]) rfl ?_
  have r1 := rByte_rng hB s
  have r2 := rByte_rng hB (rByte b s).2
  simp (disch := omega) [go_sem, plan_Reader_Count_c]
  refine clx_same (byte84 hS hB hl s ha) rfl rfl rfl (by simp (disch := omega) [go_sem]) ?_
  simp (disch := omega) [go_sem]
  refine clx_same (byte84 hS hB hl (rByte b s).2 (rByte_at s ha)) rfl rfl rfl (by simp (disch := omega) [go_sem]) ?_
  simp (disch := omega) [go_sem, rCount]
theorem wide122 (n : Int) (h : 0 ≤ n ∧ n < 4294967296) : ACalls pg G F_tens_Wide [li n] (li (s32 n)) := by
  refine tens_Wide_call rfl ?_
  have e : IntKind.i64.wrap (IntKind.i32.wrap (IntKind.u32.wrap (IntKind.u64.wrap n))) = s32 n := by
    rw [IntKind.wrap_i64, IntKind.wrap_i32, IntKind.wrap_u32, IntKind.wrap_u64]
    unfold s32
    omega
  simp (disch := omega) [go_sem, tens_Wide_c, e]
theorem number86 (hS : Sent G bk) (hB : byteL b) (hl : b.length < 2 ^ 40) (s : Rs) (ha : s.at_ ≤ b.length) : ACallsX pg G F_plan_Reader_Number [rdAV bk b s] (li (rNumber b s).1) [(0, rdAV bk b (rNumber b s).2)] := by
  refine plan_Reader_Number_callX (pins := [0]) (by kernel_rfl) rfl rfl (by simp [go_sem]) rfl ?_
  have r1 := rCount_rng hB s
  have r2 := rCount_rng hB (rCount b s).2
  simp (disch := omega) [go_sem, plan_Reader_Number_c]
  refine clx_same (count83 hS hB hl s ha) rfl rfl rfl (by simp (disch := omega) [go_sem]) ?_
  simp (disch := omega) [go_sem]
  refine clx_same (count83 hS hB hl (rCount b s).2 (rCount_at s ha)) rfl rfl rfl (by simp (disch := omega) [go_sem]) ?_
  simp (disch := omega) [go_sem]
  refine cal_pure (wide122 ((rCount b s).1 + (rCount b (rCount b s).2).1 * 65536) (by omega)) rfl rfl ?_
  simp (disch := omega) [go_sem, rNumber]
theorem bad121 (s : Rs) (p : Int) (e : Er) : ACallsX pg G F_plan_Reader_Bad [rdAV bk b s, li p, encE bk e] (.tup []) [(0, rdAV bk b (rdBad s p e))] := by
  refine plan_Reader_Bad_callX (pins := [0]) (by kernel_rfl) rfl rfl (by simp [go_sem]) rfl ?_
  obtain ⟨a, er⟩ := s
  cases he : er.isNil with
  | true =>
    simp (disch := omega) [go_sem, plan_Reader_Bad_c, he, rdBad, encE]
  | false =>
    simp (disch := omega) [go_sem, plan_Reader_Bad_c, he, rdBad]
/-- How many there are: at most so many. -/
def rFew (most : Int) (rd : Rs → Int × Rs) (s : Rs) : Int × Rs := if (rd s).2.err.isNil = true then (if most < (rd s).1 then (0, rdBad (rd s).2 s.at_ (.s 2)) else rd s) else (0, (rd s).2)
/-- A function value that reads. -/
structure Reads (G : Nat → Option Value) (bk : Nat → Nat × Nat) (b : List Int) (f : FuncId) (rd : Rs → Int × Rs) : Prop where
  fn : fnB pg f = true
  call : ∀ s, s.at_ ≤ b.length → ACallsX pg G f [rdAV bk b s] (li (rd s).1) [(0, rdAV bk b (rd s).2)]
  at_ : ∀ s, s.at_ ≤ b.length → (rd s).2.at_ ≤ b.length
theorem few82 (hS : Sent G bk) (hl : b.length < 2 ^ 40) {f : FuncId} {rd : Rs → Int × Rs} (hr : Reads G bk b f rd) (most : Int) (s : Rs) (ha : s.at_ ≤ b.length) : ACallsX pg G F_plan_Reader_Few [rdAV bk b s, li most, .fn f [.ref 0 [] 0 0] []] (li (rFew most rd s).1) [(0, rdAV bk b (rFew most rd s).2)] := by
  refine plan_Reader_Few_callX (pins := [0]) (by kernel_rfl) rfl rfl (by simp [go_sem]) rfl ?_
  have hfn := hr.fn
  have hat := hr.at_ s ha
  have h2 := hS.val 2 (by decide)
  simp (disch := omega) [go_sem, plan_Reader_Few_c, hfn]
  refine clx_same (hr.call s ha) rfl rfl rfl (by simp (disch := omega) [go_sem]) ?_
  generalize hp : rd s = p at *
  obtain ⟨n, a, e⟩ := p
  simp only at hat
  cases he : e.isNil with
  | true =>
    by_cases hm : most < n
    · simp (disch := omega) [go_sem, he, hm, h2]
      refine clx_same (bad121 (b := b) ⟨a, e⟩ s.at_ (.s 2)) rfl rfl rfl (by simp (disch := omega) [go_sem]) ?_
      have hn : (Er.at (s.at_ : Int) (.s 2)).isNil = false := rfl
      simp (disch := omega) [go_sem, rdBad, he, hn, rFew, hp, hm]
    · simp (disch := omega) [go_sem, he, hm, rFew, hp]
  | false =>
    simp (disch := omega) [go_sem, he, rFew, hp]
end
end Tryd
end Go.Ideal
end

section
set_option linter.unusedVariables false
set_option linter.unusedSimpArgs false
set_option maxRecDepth 10000
namespace Go.Ideal
section
variable {G : Nat → Option Value} {N d : Nat} {st : St}
/-! ### strings of bytes -/
def cvsS (G : Nat → Option Value) (st : St) (N d : Nat) (s t : TypeId) (x : X) (v : AV) : Option St := match v with
  | .sl n ks => gO (ks.length = n) (putO st d ((bytesOf ks).map fun s => .lit (.string s)))
  | _ => evS G N (some d) (.conv s t .str x) st
@[congr] theorem cvsS_congr {s t : TypeId} {x : X} {v v' : AV} (h : v = v') : cvsS G st N d s t x v = cvsS G st N d s t x v' := by rw [h]
@[go_sem] theorem cvsS_sl {s t : TypeId} {x : X} {n : Nat} {ks : List AV} : cvsS G st N d s t x (.sl n ks) = gO (ks.length = n) (putO st d ((bytesOf ks).map fun s => .lit (.string s))) := (rfl)
@[go_sem] theorem evS_convs {s t : TypeId} {x : X} : evS G N (some d) (.conv s t .str x) st = cvsS G st N d s t x (rdv st x) := by
  cases hv : rdv st x <;> try rfl
  rename_i n ks
  simp only [cvsS, evS, evOp, Ev.run_bind, run_readX, hv, Option.bind, run_guardE, gO]
  by_cases h : ks.length = n
  · simp only [h, decide_true, if_true, run_ofOpt]
    cases bytesOf ks <;> rfl
  · simp only [h, decide_false, Bool.false_eq_true, if_false]; rfl
@[go_sem] theorem ba_sneq {a c : ByteArray} : binAV .neq 0 (.lit (.string a)) (.lit (.string c)) = some (.lit (.bool (!decide (a = c)))) := by
  have : binLit .neq (.string a) (.string c) = some (.bool (!(a.toList == c.toList))) := rfl
  simp only [binAV, litOp, this, if_true, Option.map_some, ByteArray.toList_eq]
  have e : (a.data.toList == c.data.toList) = decide (a = c) := by
    by_cases h : a = c
    · subst h; simp
    · have : a.data.toList ≠ c.data.toList := fun hh => h (by cases a; cases c; simp only [ByteArray.mk.injEq]; exact Array.toList_inj.1 hh)
      rw [decide_eq_false h]
      simpa using this
  rw [e]
@[go_sem] theorem lentK_nil {T : List (Nat × AV)} {t : Nat} : lentK T t [] = false := by unfold lentK; cases T.lookup t <;> rfl
theorem bytes2 (x y : Int) : bytesOf [.lit (.int .u8 x), .lit (.int .u8 y)] = some ⟨#[UInt8.ofNat x.toNat, UInt8.ofNat y.toNat]⟩ := rfl
theorem str2 {x y : Int} {p q : UInt8} (hx : 0 ≤ x ∧ x ≤ 255) (hy : 0 ≤ y ∧ y ≤ 255) : ((⟨#[UInt8.ofNat x.toNat, UInt8.ofNat y.toNat]⟩ : ByteArray) = ⟨#[p, q]⟩) ↔ (x = p.toNat ∧ y = q.toNat) := by
  have key : ∀ (z : Int) (r : UInt8), 0 ≤ z ∧ z ≤ 255 → (UInt8.ofNat z.toNat = r ↔ z = r.toNat) := by
    intro z r hz
    constructor
    · intro h
      have := congrArg UInt8.toNat h
      rw [UInt8.toNat_ofNat', Nat.mod_eq_of_lt (by omega)] at this
      omega
    · intro h
      apply UInt8.toNat_inj.1
      rw [UInt8.toNat_ofNat', Nat.mod_eq_of_lt (by omega)]
      omega
  simp only [ByteArray.mk.injEq, Array.mk.injEq, List.cons.injEq, and_true, key x p hx, key y q hy]
end
namespace Tryd
theorem rFew_rng {most : Int} {rd : Rs → Int × Rs} (h : ∀ s, 0 ≤ (rd s).1) (hm : 0 ≤ most) (s : Rs) : 0 ≤ (rFew most rd s).1 ∧ (rFew most rd s).1 ≤ most := by
  unfold rFew
  have := h s
  split
  · split
    · simp only; omega
    · omega
  · simp only; omega
theorem rdBad_at (s : Rs) (p : Int) (e : Er) : (rdBad s p e).at_ = s.at_ := by unfold rdBad; split <;> rfl
theorem rFew_at {most : Int} {rd : Rs → Int × Rs} {b : List Int} (h : ∀ s, s.at_ ≤ b.length → (rd s).2.at_ ≤ b.length) (s : Rs) (ha : s.at_ ≤ b.length) : (rFew most rd s).2.at_ ≤ b.length := by
  have := h s ha
  unfold rFew
  split
  · split
    · rw [rdBad_at]; exact this
    · exact this
  · exact this
def rNumsL (rd : Rs → Int × Rs) : Nat → List Int → Rs → List Int × Rs
  | 0, l, s => (l, s)
  | n + 1, l, s => if s.err.isNil = true then rNumsL rd n (l ++ [(rd s).1]) (rd s).2 else (l, s)
/-- A byte that tells how many, and these. -/
def rNums (b : List Int) (rd : Rs → Int × Rs) (s : Rs) : List Int × Rs := rNumsL rd (rFew 8 (rByte b) s).1.toNat [] (rFew 8 (rByte b) s).2
theorem rNumsL_at {rd : Rs → Int × Rs} {b : List Int} (h : ∀ s, s.at_ ≤ b.length → (rd s).2.at_ ≤ b.length) : ∀ (n : Nat) (l : List Int) (s : Rs), s.at_ ≤ b.length → (rNumsL rd n l s).2.at_ ≤ b.length
  | 0, l, s, ha => ha
  | n + 1, l, s, ha => by
    unfold rNumsL
    split
    · exact rNumsL_at h n _ _ (h s ha)
    · exact ha
/-- Two letters. -/
def rHead (b : List Int) (p q : UInt8) (s : Rs) : Rs := if b.length < 2 then ⟨s.at_, .s 4⟩ else ⟨2, (if b[0]! = p.toNat ∧ b[1]! = q.toNat then s else rdBad s 0 (.s 5)).err⟩
def rEnd (b : List Int) (s : Rs) : Rs := if s.err.isNil = true ∧ s.at_ < b.length then rdBad s s.at_ (.s 2) else s
section
variable {G : Nat → Option Value} {bk : Nat → Nat × Nat} {Q : Exit → St → Prop} {st : St} {b : List Int}
theorem reads84 (hS : Sent G bk) (hB : byteL b) (hl : b.length < 2 ^ 40) : Reads G bk b 84 (rByte b) := ⟨plan_Reader_Byte_fnB, fun s ha => byte84 hS hB hl s ha, fun s ha => rByte_at s ha⟩
theorem reads83 (hS : Sent G bk) (hB : byteL b) (hl : b.length < 2 ^ 40) : Reads G bk b 83 (rCount b) := ⟨plan_Reader_Count_fnB, fun s ha => count83 hS hB hl s ha, fun s ha => rCount_at s ha⟩
theorem reads86 (hS : Sent G bk) (hB : byteL b) (hl : b.length < 2 ^ 40) : Reads G bk b 86 (rNumber b) := ⟨plan_Reader_Number_fnB, fun s ha => number86 hS hB hl s ha, fun s ha => rNumber_at s ha⟩
theorem numbers85 (hS : Sent G bk) (hB : byteL b) (hl : b.length < 2 ^ 40) {f : FuncId} {rd : Rs → Int × Rs} (hr : Reads G bk b f rd) (s : Rs) (ha : s.at_ ≤ b.length) : ACallsX pg G F_plan_Reader_Numbers [rdAV bk b s, .fn f [.ref 0 [] 0 0] []] (owI (rNums b rd s).1) [(0, rdAV bk b (rNums b rd s).2)] := by
  refine plan_Reader_Numbers_callX (pins := [0]) (by kernel_rfl) rfl rfl (by simp [go_sem]) rfl ?_
  have hfn := hr.fn
  have hrng := rFew_rng (most := 8) (rd := rByte b) (fun s => (rByte_rng hB s).1) (by omega) s
  have hat := rFew_at (most := 8) (rd := rByte b) (b := b) (fun s h => rByte_at s h) s ha
  simp (disch := omega) [go_sem, plan_Reader_Numbers_c]
  refine clx_same (few82 hS hl (reads84 hS hB hl) 8 s ha) rfl rfl rfl (by simp (disch := omega) [go_sem]) ?_
  simp (disch := omega) [go_sem]
  unfold rNums
  generalize hp : rFew 8 (rByte b) s = p at *
  obtain ⟨m, s1⟩ := p
  simp only at hrng hat ⊢
  obtain ⟨n0, rfl⟩ := Int.eq_ofNat_of_zero_le hrng.1
  simp only [Int.ofNat_eq_natCast, Int.toNat_natCast]
  refine aw_loop (Nat × List Int × Rs) (fun p st => p.2.2.at_ ≤ b.length ∧ p.2.1.length + p.1 ≤ 8 ∧ rNumsL rd p.1 p.2.1 p.2.2 = rNumsL rd n0 [] s1 ∧ st.ep 0 = 0 ∧ st.s 0 = rdAV bk b p.2.2 ∧ st.s 1 = .fn f [.ref 0 [] 0 0] [] ∧ st.s 5 = owI p.2.1 ∧ st.s 6 = li p.1) (fun p => p.1) (n0, [], s1) ⟨hat, by simp; omega, rfl, by simp (disch := omega) [go_sem], by simp (disch := omega) [go_sem]⟩ ?_
  rintro ⟨n, l, a, e⟩ st K ⟨h1, h2, hm, h0, h⟩ hK
  simp only at h1 h2 hm h
  cases n with
  | zero =>
    rw [rNumsL] at hm
    rw [← hm]
    simp (disch := omega) [go_sem, plan_Reader_Numbers_l0, h]
  | succ n =>
    rw [rNumsL] at hm
    cases he : e.isNil with
    | true =>
      simp only [he, if_true] at hm
      have hpos : (0 : Int) < ((n + 1 : Nat) : Int) := by omega
      simp (disch := omega) [go_sem, plan_Reader_Numbers_l0, h, h0, he, hpos, hfn]
      refine clx_same (hr.call ⟨a, e⟩ h1) rfl rfl rfl (by simp (disch := omega) [go_sem]) ?_
      simp (disch := omega) [go_sem, h, h0]
      exact hK (n, l ++ [(rd ⟨a, e⟩).1], (rd ⟨a, e⟩).2) _ ⟨hr.at_ _ h1, by simp; omega, hm, by simp (disch := omega) [go_sem, h0], by simp (disch := omega) [go_sem, h, h0]⟩ (by simp only; omega)
    | false =>
      simp only [he, Bool.false_eq_true, if_false] at hm
      have hpos : (0 : Int) < ((n + 1 : Nat) : Int) := by omega
      rw [← hm]
      simp (disch := omega) [go_sem, plan_Reader_Numbers_l0, h, h0, he, hpos]
theorem head81 (hS : Sent G bk) (hB : byteL b) (hl : b.length < 2 ^ 40) (p q : UInt8) (s : Rs) : ACallsX pg G F_plan_Reader_Head [rdAV bk b s, .lit (.string ⟨#[p, q]⟩)] (.tup []) [(0, rdAV bk b (rHead b p q s))] := by
  refine plan_Reader_Head_callX (pins := [0]) (by kernel_rfl) rfl rfl (by simp [go_sem]) rfl ?_
  obtain ⟨a, e⟩ := s
  have h4 := hS.val 4 (by decide)
  have h5 := hS.val 5 (by decide)
  have hsz : (⟨#[p, q]⟩ : ByteArray).size = 2 := rfl
  by_cases k : b.length < 2
  · have k' : (b.length : Int) < 2 := by omega
    simp (disch := omega) [go_sem, plan_Reader_Head_c, hsz, k', h4, rHead, k, encE]
  · have k' : ¬ (b.length : Int) < 2 := by omega
    match b, k, k', hl, hB with
    | [], k, _, _, _ => exact absurd (by simp) k
    | [_], k, _, _, _ => exact absurd (by simp) k
    | x :: y :: r, k, k', hl, hB =>
      have hx := hB x (by simp)
      have hy := hB y (by simp)
      simp only [List.length_cons] at k' hl
      have hs2 := str2 (p := p) (q := q) hx hy
      simp (disch := omega) [go_sem, plan_Reader_Head_c, hsz, k', h5, bytes2, hs2]
      by_cases hpq : x = (p.toNat : Int) ∧ y = (q.toNat : Int)
      · have hk : ¬ r.length + 1 + 1 < 2 := by omega
        simp (disch := omega) [go_sem, hpq, rHead, hk]
      · have hk : ¬ r.length + 1 + 1 < 2 := by omega
        have hd : (!decide (x = (p.toNat : Int)) || !decide (y = (q.toNat : Int))) = true := by
          by_cases h1 : x = (p.toNat : Int)
          · by_cases h2 : y = (q.toNat : Int)
            · exact absurd ⟨h1, h2⟩ hpq
            · simp [h2]
          · simp [h1]
        have hh : rHead (x :: y :: r) p q ⟨a, e⟩ = ⟨2, (rdBad ⟨a, e⟩ 0 (.s 5)).err⟩ := by
          unfold rHead
          rw [if_neg k, if_neg]
          exact hpq
        simp (disch := omega) [go_sem, hd, h5]
        refine clx_same (bad121 (b := x :: y :: r) ⟨a, e⟩ 0 (.s 5)) rfl rfl rfl (by simp (disch := omega) [go_sem]) ?_
        simp (disch := omega) [go_sem, hh]
theorem end88 (hS : Sent G bk) (hl : b.length < 2 ^ 40) (s : Rs) (ha : s.at_ ≤ b.length) : ACallsX pg G F_plan_Reader_End [rdAV bk b s] (encE bk (rEnd b s).err) [(0, rdAV bk b (rEnd b s))] := by
  refine plan_Reader_End_callX (pins := [0]) (by kernel_rfl) rfl rfl (by simp [go_sem]) rfl ?_
  have h2 := hS.val 2 (by decide)
  obtain ⟨a, e⟩ := s
  cases he : e.isNil with
  | true =>
    simp (disch := omega) [go_sem, plan_Reader_End_c]
    refine aw_draw ?_
    simp (disch := omega) [go_sem, he]
    refine dFin_i (by decide) fun s2 hs hep => ?_
    by_cases hlt : a < b.length
    · simp (disch := omega) [go_sem, hs, hep, hlt]
      refine aw_drawV [(0, s2.ep 0)] (by simp) (by simp (disch := omega) [go_sem, hs]) ?_
      simp (disch := omega) [go_sem, hs, hep, h2]
      refine dCx_i (fs := []) (cs := []) (L := [(0, 0)]) [0, 20, 24, 25] (bad121 (bk := bk) (b := b) ⟨a, e⟩ a (.s 2)) rfl (by simp (disch := omega) [go_sem, hs, hep, encE]) ?_
      simp (disch := omega) [go_sem, hs, hep]
      refine dFin_i (by decide) fun s3 hs3 hep3 => ?_
      simp (disch := omega) [go_sem, hs3, hep3, hs, hep, rEnd, he, hlt]
    · simp (disch := omega) [go_sem, hs, hep, hlt, rEnd, he]
  | false =>
    simp (disch := omega) [go_sem, plan_Reader_End_c]
    refine aw_draw ?_
    simp (disch := omega) [go_sem, he]
    refine dFin_i (by decide) fun s2 hs hep => ?_
    simp (disch := omega) [go_sem, hs, hep, rEnd, he]
end
end Tryd
end Go.Ideal
end

section
set_option linter.unusedVariables false
set_option linter.unusedSimpArgs false
set_option maxRecDepth 10000
namespace Go.Ideal.Tryd
/-! ### tens.Read -/
theorem wrap_i8 (n : Int) : IntKind.i8.wrap n = (n + 128) % 256 - 128 := by
  simp [IntKind.wrap, IntKind.bits, IntKind.signed]
  split <;> omega
def s8 (n : Int) : Int := if 128 ≤ n then n - 256 else n
/-- The i-th number of bytes. -/
def takeB (w : Bool) (b : List Int) (i : Nat) : Int := if w = true then s32 (b[4 * i]! + b[4 * i + 1]! * 256 + b[4 * i + 2]! * 65536 + b[4 * i + 3]! * 16777216) else s8 b[i]!
def numsB (w : Bool) (b : List Int) (n : Nat) : List Int := (List.range n).map (takeB w b)
theorem bytesI_eq (sh : List Int) (w : Bool) : bytesI sh w = (if w = true then 4 else 1) * elemsI sh := by unfold bytesI; split <;> omega
section
variable {G : Nat → Option Value} {bk : Nat → Nat × Nat} {Q : Exit → St → Prop} {st : St} {b : List Int}
theorem take169 (hB : byteL b) (hl : b.length < 2 ^ 40) (w : Bool) (i : Nat) (hi : (if w = true then 4 * i + 4 else i + 1) ≤ b.length) : ACalls pg G F_tens_Take [slU b, li i, lb w] (li (takeB w b i)) := by
  refine tens_Take_call rfl ?_
  cases w with
  | false =>
    simp only [Bool.false_eq_true, if_false] at hi
    have h1 : i < b.length := by omega
    have r1 := hB _ (List.getElem_mem h1)
    have e : IntKind.i64.wrap (IntKind.i8.wrap b[i]) = s8 b[i] := by
      rw [IntKind.wrap_i64, wrap_i8]
      unfold s8
      omega
    simp (disch := omega) [go_sem, tens_Take_c, takeB, h1, e]
  | true =>
    simp only [if_true] at hi
    obtain ⟨c, hC⟩ : ∃ c, c = b.drop (4 * i) := ⟨_, rfl⟩
    have hcl : c.length = b.length - 4 * i := by rw [hC]; simp
    have hd : ((b.length : Int) - 4 * i).toNat = c.length := by omega
    have ht : ((4 : Int) * (i : Int)).toNat = 4 * i := by omega
    have hm : List.take c.length (List.drop (4 * i) (List.map lu b)) = c.map lu := by
      rw [← List.map_drop, ← hC]; exact List.take_of_length_le (by simp)
    have hc : 4 * (i : Int) ≤ b.length := by omega
    have hcB : byteL c := fun x hx => hB x (by rw [hC] at hx; exact List.mem_of_mem_drop hx)
    have g : ∀ k, k < 4 → b[4 * i + k]! = c[k]! := fun k hk => by rw [hC]; simp [List.getElem!_eq_getElem?_getD, List.getElem?_drop]
    have r0 := hcB _ (List.getElem_mem (show 0 < c.length by omega))
    have r1 := hcB _ (List.getElem_mem (show 1 < c.length by omega))
    have r2 := hcB _ (List.getElem_mem (show 2 < c.length by omega))
    have r3 := hcB _ (List.getElem_mem (show 3 < c.length by omega))
    have et : takeB true b i = s32 (c[0]'(by omega) + c[1]'(by omega) * 256 + c[2]'(by omega) * 65536 + c[3]'(by omega) * 16777216) := by
      have h0 := g 0 (by omega)
      have h1 := g 1 (by omega)
      have h2 := g 2 (by omega)
      have h3 := g 3 (by omega)
      rw [Nat.add_zero] at h0
      simp only [takeB, if_true, h0, h1, h2, h3]
      simp [show 0 < c.length by omega, show 1 < c.length by omega, show 2 < c.length by omega, show 3 < c.length by omega]
    simp (disch := omega) [go_sem, tens_Take_c, hd, ht, hm, hc, et]
    refine aw_draw ?_
    simp (disch := omega) [go_sem]
    refine dCal_pure (wide122 _ (by omega)) rfl rfl (by simp) [34] (by simp) (by simp (disch := omega) [go_sem]) ?_
    simp (disch := omega) [go_sem]
    refine dFin_i (by decide) fun s2 hs he => ?_
    simp (disch := omega) [go_sem, hs]
end
end Go.Ideal.Tryd
end

section
set_option linter.unusedVariables false
set_option linter.unusedSimpArgs false
set_option maxRecDepth 10000
namespace Go.Ideal
section
variable {x : Int}
theorem and8 : ∀ n : Nat, n < 256 → (BitVec.ofNat 8 n &&& 8#8).toNat = if n / 8 % 2 = 1 then 8 else 0 := by decide
theorem andNot8 : ∀ n : Nat, n < 256 → (BitVec.ofNat 64 n &&& ~~~(8#64)).toNat = if n / 8 % 2 = 1 then n - 8 else n := by decide
@[go_sem] theorem ba_and8 (h : 0 ≤ x ∧ x ≤ 255) : binAV .and 0 (.lit (.int .u8 x)) (.lit (.int .u8 8)) = some (.lit (.int .u8 (if x / 8 % 2 = 1 then 8 else 0))) := by
  obtain ⟨n, rfl⟩ := Int.eq_ofNat_of_zero_le h.1
  have h1 := and8 n (by omega)
  have h2 : Op.intBits .and .u8 (n : Int) 8 = Sem.pure (.int .u8 (IntKind.u8.wrap (BitVec.ofInt 8 (n : Int) &&& BitVec.ofInt 8 8).toNat)) := rfl
  have h3 : BitVec.ofInt 8 (n : Int) = BitVec.ofNat 8 n := BitVec.ofInt_natCast ..
  simp only [binAV, litOp, binLit, if_true, h2, h3, pureOf, Option.map_some]
  have h4 : (BitVec.ofNat 8 n &&& BitVec.ofInt 8 8).toNat = if n / 8 % 2 = 1 then 8 else 0 := h1
  rw [h4, IntKind.wrap_u8]
  by_cases k : n / 8 % 2 = 1
  · have k' : (n : Int) / 8 % 2 = 1 := by omega
    simp [k, k']
  · have k' : ¬ (n : Int) / 8 % 2 = 1 := by omega
    simp [k, k']
@[go_sem] theorem ba_andNot8 (h : 0 ≤ x ∧ x ≤ 255) : binAV .andNot 0 (.lit (.int .i64 x)) (.lit (.int .i64 8)) = some (.lit (.int .i64 (if x / 8 % 2 = 1 then x - 8 else x))) := by
  obtain ⟨n, rfl⟩ := Int.eq_ofNat_of_zero_le h.1
  have h1 := andNot8 n (by omega)
  have h2 : Op.intBits .andNot .i64 (n : Int) 8 = Sem.pure (.int .i64 (IntKind.i64.wrap (BitVec.ofInt 64 (n : Int) &&& ~~~(BitVec.ofInt 64 8)).toNat)) := rfl
  have h3 : BitVec.ofInt 64 (n : Int) = BitVec.ofNat 64 n := BitVec.ofInt_natCast ..
  simp only [binAV, litOp, binLit, if_true, h2, h3, pureOf, Option.map_some]
  have h4 : (BitVec.ofNat 64 n &&& ~~~(BitVec.ofInt 64 8)).toNat = if n / 8 % 2 = 1 then n - 8 else n := h1
  rw [h4, IntKind.wrap_i64]
  by_cases k : n / 8 % 2 = 1
  · have k' : (n : Int) / 8 % 2 = 1 := by omega
    rw [if_pos k, if_pos k']
    simp only [Option.some.injEq, AV.lit.injEq, Value.int.injEq, true_and]
    omega
  · have k' : ¬ (n : Int) / 8 % 2 = 1 := by omega
    rw [if_neg k, if_neg k']
    simp only [Option.some.injEq, AV.lit.injEq, Value.int.injEq, true_and]
    omega
end
namespace Tryd
section
variable {G : Nat → Option Value} {bk : Nat → Nat × Nat} {Q : Exit → St → Prop} {st : St} {b : List Int}
theorem zero168 (hS : Sent G bk) (sh : List Int) (w : Bool) (ok : shOk sh = true) (hlen : sh.length < 2 ^ 40) : ACalls pg G F_tens_Zero [.agg [slI sh, lb w]] (.tup [.agg [owI sh, lb w, owI (List.replicate (elemsI sh).toNat 0)], .lit .nilIface]) := by
  refine tens_Zero_call rfl ?_
  have hv := valid144 (G := G) hS sh w (by omega)
  rw [dvErr_ok.2 ok] at hv
  simp only [encE] at hv
  have hr := elemsI_rng sh
  simp (disch := omega) [go_sem, tens_Zero_c]
  refine cal_pure hv rfl rfl ?_
  simp (disch := omega) [go_sem]
  refine aw_draw ?_
  simp (disch := omega) [go_sem]
  refine dCal_pure (cldesc66 sh w hlen) rfl (by simp [noImm, noImmL, noImmL_li]) (by simp) [12] (by simp) (by simp (disch := omega) [go_sem]) ?_
  simp (disch := omega) [go_sem]
  refine dCal_pure (elems145 hS sh (by omega)) rfl rfl (by simp) [15] (by simp) (by simp (disch := omega) [go_sem]) ?_
  simp (disch := omega) [go_sem]
  refine dFin_i (by decide) fun s2 hs he => ?_
  simp (disch := omega) [go_sem, hs]
theorem of_l0 (hB : byteL b) (hl : b.length < 2 ^ 40) {sh : List Int} {w : Bool} {n : Nat} {d0 : List Int} (hn : (if w = true then 4 * n else n) ≤ b.length) (hd0 : d0.length = n) (h : st.s 1 = slU b ∧ st.s 2 = .var [slI sh, lb w] ∧ st.s 4 = .var [.own 1 0 [], lb false, .own 1 0 []] ∧ st.s 8 = .var [owI sh, lb w, owI d0] ∧ st.s 9 = .lit .nilIface ∧ st.s 40 = li n ∧ st.s 41 = li 0)
    (hex : ∀ s, s.s 4 = .var [.own 1 0 [], lb false, .own 1 0 []] ∧ s.s 8 = .var [owI sh, lb w, owI (numsB w b n)] ∧ s.s 9 = .lit .nilIface → Q (.exit 1) s) : AW pg G 56 (.loop tens_Of_l0) Q st := by
  have hnn : n < 2 ^ 40 := by split at hn <;> omega
  refine aw_loop (Nat × List Int) (fun p st => p.1 ≤ n ∧ p.2.length = n ∧ (∀ j, j < p.1 → p.2[j]! = takeB w b j) ∧ st.s 1 = slU b ∧ st.s 2 = .var [slI sh, lb w] ∧ st.s 4 = .var [.own 1 0 [], lb false, .own 1 0 []] ∧ st.s 8 = .var [owI sh, lb w, owI p.2] ∧ st.s 9 = .lit .nilIface ∧ st.s 40 = li n ∧ st.s 41 = li p.1) (fun p => n - p.1) (0, d0) ⟨by simp, hd0, fun j hj => by omega, h⟩ ?_
  clear h
  rintro ⟨i, d⟩ st K ⟨hi, hd, hm, h⟩ hK
  simp only at hi hd hm h
  by_cases hlt : i < n
  · have hid : i < d.length := by omega
    have hic : (i : Int) < (d.length : Int) := by omega
    simp (disch := omega) [go_sem, tens_Of_l0, h, hlt]
    refine aw_draw ?_
    simp (disch := omega) [go_sem, h, hlt]
    refine dCal_pure (take169 hB hl w i (by split <;> rename_i hw <;> simp [hw] at hn <;> omega)) rfl rfl (by simp) [51] (by simp) (by simp (disch := omega) [go_sem, h]) ?_
    simp (disch := omega) [go_sem, h, hlt]
    refine dFin_i (by decide) fun s2 hs he => ?_
    simp (disch := omega) [go_sem, hs, h]
    refine hK (i + 1, d.set i (takeB w b i)) _ ⟨by simp only; omega, by simpa using hd, fun j hj => ?_, by simp (disch := omega) [go_sem, hs, h, hid]⟩ (by simp only; omega)
    simp only at hj ⊢
    by_cases hji : j = i
    · subst hji; simp [hid]
    · have := hm j (by omega)
      rw [← this]
      simp [List.getElem!_eq_getElem?_getD, List.getElem?_set, show i ≠ j by omega]
  · obtain rfl : i = n := by omega
    have e : d = numsB w b i := by
      apply List.ext_getElem
      · simp [numsB, hd]
      · intro j h1 h2
        have := hm j (by omega)
        simp only [List.getElem!_eq_getElem?_getD, h1, List.getElem?_eq_getElem, Option.getD_some] at this
        rw [this]
        simp [numsB]
    subst e
    simp (disch := omega) [go_sem, tens_Of_l0, h]
    exact hex _ (by simp (disch := omega) [go_sem, h])
theorem of149 (hS : Sent G bk) (hB : byteL b) (hl : b.length < 2 ^ 40) (sh : List Int) (w : Bool) (ok : shOk sh = true) (hlen : sh.length < 2 ^ 40) (hbl : (b.length : Int) = bytesI sh w) : ACalls pg G F_tens_Of [.agg [slI sh, lb w], slU b] (.tup [.agg [owI sh, lb w, owI (numsB w b (elemsI sh).toNat)], .lit .nilIface]) := by
  refine tens_Of_call rfl ?_
  have hv := valid144 (G := G) hS sh w (by omega)
  rw [dvErr_ok.2 ok] at hv
  simp only [encE] at hv
  have hr := elemsI_rng sh
  have hn : (if w = true then 4 * (elemsI sh).toNat else (elemsI sh).toNat) ≤ b.length := by
    unfold bytesI at hbl
    cases w <;> simp at hbl ⊢ <;> omega
  simp (disch := omega) [go_sem, tens_Of_c]
  refine cal_pure hv rfl rfl ?_
  simp (disch := omega) [go_sem]
  refine cal_pure (bytes147 hS sh w (by omega)) rfl rfl ?_
  simp (disch := omega) [go_sem, hbl]
  refine cal_pure (zero168 hS sh w ok hlen) rfl (by simp only [noImm, noImmL, noImmL_li, Bool.and_true]) ?_
  simp (disch := omega) [go_sem]
  refine of_l0 hB hl (sh := sh) (w := w) (n := (elemsI sh).toNat) (d0 := List.replicate (elemsI sh).toNat 0) hn (by simp) (by simp (disch := omega) [go_sem]) fun s h => ?_
  simp (disch := omega) [go_sem, h]
end
end Tryd
end Go.Ideal
end

section
set_option linter.unusedVariables false
set_option linter.unusedSimpArgs false
set_option maxRecDepth 10000
namespace Go.Ideal.Tryd
/-! ### tens.Read -/
structure Tr where
  sh : List Int
  wide : Bool
  data : List Int
  at_ : Nat
  er : Er
abbrev trAV (bk : Nat → Nat × Nat) (t : Tr) : AV := .tup [tnAV t.sh t.wide t.data, li t.at_, encE bk t.er]
def rdDims (b : List Int) : Nat → List Int → Nat → Option (List Int × Nat)
  | 0, l, a => some (l, a)
  | n + 1, l, a => if b.length < a + 2 then none else rdDims b n (l ++ [b[a]! + b[a + 1]! * 256]) (a + 2)
/-- What follows the shape. -/
def tRest (b : List Int) (w : Bool) (l : List Int) (a : Nat) : Tr :=
  if (dvErr l).isNil = true then (if b.length < a + (bytesI l w).toNat then ⟨[], false, [], 0, .s 4⟩ else ⟨l, w, numsB w ((b.drop a).take (bytesI l w).toNat) (elemsI l).toNat, a + (bytesI l w).toNat, .nil⟩) else ⟨[], false, [], 0, dvErr l⟩
def tDims (b : List Int) (w : Bool) (n : Nat) (l : List Int) (a : Nat) : Tr := match rdDims b n l a with
  | none => ⟨[], false, [], 0, .s 4⟩
  | some (l, a) => tRest b w l a
def tRead (b : List Int) : Tr := match b with
  | [] => ⟨[], false, [], 0, .s 4⟩
  | x :: _ => if 16 ≤ x then ⟨[], false, [], 0, .s 5⟩ else tDims b (decide (x / 8 % 2 = 1)) (x % 8).toNat [] 1
theorem isNil_iff {e : Er} : e.isNil = true ↔ e = .nil := by cases e <;> simp [Er.isNil]
section
variable {G : Nat → Option Value} {bk : Nat → Nat × Nat} {Q : Exit → St → Prop} {st : St} {b : List Int}
theorem read_l0 (hS : Sent G bk) (hB : byteL b) (hl : b.length < 2 ^ 40) {w : Bool} {n : Nat} (hn : n ≤ 7) (h : st.s 0 = slU b ∧ st.s 2 = .var [.own 1 0 [], lb false, .own 1 0 []] ∧ st.s 3 = li 0 ∧ st.s 4 = .lit .nilIface ∧ st.s 6 = .var [owI [], lb w] ∧ st.s 7 = li 1 ∧ st.s 34 = li n ∧ st.s 35 = li 0)
    (hbad : tDims b w n [] 1 = ⟨[], false, [], 0, .s 4⟩ → ∀ s, s.s 2 = .var [.sl 0 [], lb false, .sl 0 []] ∧ s.s 3 = li 0 ∧ s.s 4 = encE bk (.s 4) → Q .ret s)
    (hex : ∀ l (a : Nat), l.length ≤ 7 → a ≤ b.length + 1 → tDims b w n [] 1 = tRest b w l a → ∀ s, s.s 0 = slU b ∧ s.s 2 = .var [.own 1 0 [], lb false, .own 1 0 []] ∧ s.s 3 = li 0 ∧ s.s 4 = .lit .nilIface ∧ s.s 6 = .var [owI l, lb w] ∧ s.s 7 = li a → Q (.exit 0) s) : AW pg G 93 (.loop tens_Read_l0) Q st := by
  have h4 := hS.val 4 (by decide)
  refine aw_loop (Nat × List Int × Nat) (fun p st => p.1 ≤ n ∧ p.2.1.length = n - p.1 ∧ p.2.2 ≤ b.length + 1 ∧ tDims b w n [] 1 = tDims b w p.1 p.2.1 p.2.2 ∧ st.s 0 = slU b ∧ st.s 2 = .var [.own 1 0 [], lb false, .own 1 0 []] ∧ st.s 3 = li 0 ∧ st.s 4 = .lit .nilIface ∧ st.s 6 = .var [owI p.2.1, lb w] ∧ st.s 7 = li p.2.2 ∧ st.s 34 = li n ∧ st.s 35 = li (n - p.1 : Nat)) (fun p => p.1) (n, [], 1) ⟨by simp, by simp, by simp, rfl, by simp (disch := omega) [go_sem, h]⟩ ?_
  clear h
  rintro ⟨k, l, a⟩ st K ⟨hi, hlen, ha, hm, h⟩ hK
  simp only at hi hlen ha hm h
  cases k with
  | zero =>
    simp only [tDims, rdDims, Nat.sub_zero] at hm h
    have hnn : ¬ (n : Int) < n := by omega
    simp (disch := omega) [go_sem, tens_Read_l0, h, hnn]
    exact hex l a (by omega) ha (by simpa only [tDims] using hm) _ (by simp (disch := omega) [go_sem, h])
  | succ k =>
    have hlt : ((n - (k + 1) : Nat) : Int) < n := by omega
    by_cases hb : b.length < a + 2
    · have hb' : (b.length : Int) < (a : Int) + 2 := by omega
      simp only [tDims, rdDims, hb, if_true] at hm
      simp (disch := omega) [go_sem, tens_Read_l0, h, hlt, hb']
      refine aw_draw ?_
      simp (disch := omega) [go_sem, h, h4]
      refine dFin_i (by decide) fun s2 hs he => ?_
      simp (disch := omega) [go_sem, h4, hs]
      exact hbad (by simpa only [tDims] using hm) _ (by simp (disch := omega) [go_sem, hs, encE])
    · have hb' : ¬ (b.length : Int) < (a : Int) + 2 := by omega
      have e : tDims b w (k + 1) l a = tDims b w k (l ++ [b[a]! + b[a + 1]! * 256]) (a + 2) := by simp only [tDims, rdDims, hb, if_false]
      have en : ((n - k : Nat) : Int) = ((n - (k + 1) : Nat) : Int) + 1 := by omega
      rw [e] at hm
      have g1 : a < b.length := by omega
      have g2 : a + 1 < b.length := by omega
      have r1 := hB _ (List.getElem_mem g1)
      have r2 := hB _ (List.getElem_mem g2)
      have e1 : b[a]! = b[a] := by simp [g1]
      have e2 : b[a + 1]! = b[a + 1] := by simp [g2]
      rw [e1, e2] at hm
      simp (disch := omega) [go_sem, tens_Read_l0, h, hlt, hb']
      refine aw_draw ?_
      simp (disch := omega) [go_sem, h, g1, g2]
      refine dFin_i (by decide) fun s2 hs he => ?_
      simp (disch := omega) [go_sem, hs, h]
      refine hK (k, l ++ [b[a] + b[a + 1] * 256], a + 2) _ ⟨by simp only; omega, by simp only [List.length_append, hlen, List.length_cons, List.length_nil]; omega, by simp only; omega, hm, by simp (disch := omega) [go_sem, hs, h, en]⟩ (by simp only; omega)
theorem read123 (hS : Sent G bk) (hB : byteL b) (hl : b.length < 2 ^ 40) : ACalls pg G F_tens_Read [slU b] (trAV bk (tRead b)) := by
  refine tens_Read_call rfl ?_
  have h4 := hS.val 4 (by decide)
  have h5 := hS.val 5 (by decide)
  cases b with
  | nil =>
    simp (disch := omega) [go_sem, tens_Read_c]
    refine aw_draw ?_
    simp (disch := omega) [go_sem, h4]
    refine dFin_i (by decide) fun s2 hs he => ?_
    simp (disch := omega) [go_sem, hs, h4, tRead, encE, Er.isNil]
  | cons x r =>
  obtain ⟨hx0, hx1⟩ := hB x (by simp)
  by_cases h16 : 16 ≤ x
  · have hlen : (((x :: r).length : Nat) : Int) ≠ 0 := by simp only [List.length_cons]; omega
    simp (disch := omega) [go_sem, tens_Read_c, hlen, h16]
    refine aw_draw ?_
    simp (disch := omega) [go_sem, h5, h16]
    refine dFin_i (by decide) fun s2 hs he => ?_
    simp (disch := omega) [go_sem, hs, h5, tRead, h16, encE, Er.isNil]
  obtain ⟨n, w, hn, hx, hw, hk⟩ : ∃ (n : Nat) (w : Bool), n ≤ 7 ∧ x = (if w = true then (n : Int) + 8 else n) ∧ decide (x / 8 % 2 = 1) = w ∧ (x % 8).toNat = n := by
    by_cases k : x / 8 % 2 = 1
    · exact ⟨(x - 8).toNat, true, by omega, by simp; omega, by simp [k], by omega⟩
    · exact ⟨x.toNat, false, by omega, by simp; omega, by simp [k], by omega⟩
  have ht : tRead (x :: r) = tDims (x :: r) w n [] 1 := by simp only [tRead, h16, if_false, hw, hk]
  rw [ht]
  have hg : ∃ h0 : 0 < (x :: r).length, (x :: r)[0] = x := ⟨by simp, rfl⟩
  have hv : (if x / 8 % 2 = 1 then x - 8 else x) = n := by cases w <;> simp at hx hw <;> simp [hw] <;> omega
  have hv2 : (!decide ((if x / 8 % 2 = 1 then (8 : Int) else 0) = 0)) = w := by cases w <;> simp at hw <;> simp [hw]
  have h16' : ¬ 16 ≤ x := h16
  clear hk ht h16
  generalize hb : x :: r = b at *
  clear hb
  obtain ⟨h0, hg⟩ := hg
  have hne : ¬ b.length = 0 := by omega
  have hne' : ¬ (b.length : Int) = 0 := by omega
  simp (disch := omega) [go_sem, tens_Read_c, h0, hg, h16', hne', hne, hv, hv2, hw]
  refine read_l0 hS hB hl (w := w) (n := n) hn (by simp (disch := omega) [go_sem]) (fun ht s h => ?_) fun l a hl7 ha ht s h => ?_
  · rw [ht]
    simp (disch := omega) [go_sem, h, Er.isNil]
  · rw [ht]
    have hv := valid144 (G := G) hS l w (by omega)
    have hbr := elemsI_rng l
    have hbe := bytesI_eq l w
    have hbw : (if w = true then 4 * (elemsI l).toNat else (elemsI l).toNat) = (bytesI l w).toNat ∧ 0 ≤ bytesI l w ∧ bytesI l w ≤ 65536 := by cases w <;> simp at hbe ⊢ <;> omega
    have hby := bytes147 (G := G) hS l w (by omega)
    unfold tRest
    obtain ⟨m, hm⟩ := Int.eq_ofNat_of_zero_le hbw.2.1
    rw [hm] at hbw hby
    rw [hm]
    simp only [Int.ofNat_eq_natCast, Int.toNat_natCast] at hbw hby ⊢
    obtain ⟨hn1, -, hm2⟩ := hbw
    simp (disch := omega) [go_sem, h]
    refine cal_same hv (encE_noRef _) (by simp (disch := omega) [go_sem, h]) ?_
    cases he : (dvErr l).isNil with
    | true =>
      simp (disch := omega) [go_sem, h, he]
      refine cal_pure hby rfl rfl ?_
      by_cases hlt : b.length < a + m
      · have hlt' : (b.length : Int) < a + m := by omega
        simp (disch := omega) [go_sem, h, hlt']
        refine aw_draw ?_
        simp (disch := omega) [go_sem, h, h4]
        refine dFin_i (by decide) fun s2 hs hep => ?_
        simp (disch := omega) [go_sem, hs, h4, h, hlt, encE, Er.isNil]
      · have hlt' : ¬ (b.length : Int) < a + m := by omega
        obtain ⟨c, hC⟩ : ∃ c, c = (b.drop a).take m := ⟨_, rfl⟩
        have hcl : c.length = m := by rw [hC]; simp; omega
        have hcB : byteL c := fun x hx => hB x (by rw [hC] at hx; exact List.mem_of_mem_drop (List.mem_of_mem_take hx))
        have hd : ((a : Int) + m).toNat - a = c.length := by omega
        have hmm : List.take c.length (List.drop a (List.map lu b)) = c.map lu := by
          rw [hcl, ← List.map_drop, ← List.map_take, ← hC]
        have hof := of149 (G := G) hS hcB (by omega) l w (dvErr_ok.1 (isNil_iff.1 he)) (by omega) (by rw [hm]; omega)
        simp (disch := omega) [go_sem, h, hlt']
        refine aw_draw ?_
        simp (disch := omega) [go_sem, h, hd, hmm]
        refine dCal_pure hof rfl (by simp only [noImm, noImmL, noImmL_li, Bool.and_true]) (by simp) [87, 82, 86] (by simp) (by simp (disch := omega) [go_sem, h]) ?_
        simp (disch := omega) [go_sem, h]
        refine dFin_i (by decide) fun s2 hs hep => ?_
        simp (disch := omega) [go_sem, hs, h, hlt, hC, Er.isNil, encE]
    | false =>
      simp (disch := omega) [go_sem, h, he]
end
end Go.Ideal.Tryd
end

section
set_option linter.unusedVariables false
set_option linter.unusedSimpArgs false
set_option maxRecDepth 10000
namespace Go.Ideal.Tryd
/-! ### plan.Reader.Tensor -/
def Er.is4 (e : Er) : Bool := match e with
  | .s g => decide (g = 4)
  | _ => false
/-- What a faulty read leaves behind. -/
def rdFail (s : Rs) (p : Int) (e : Er) : Rs := if e.is4 = true then ⟨s.at_, e⟩ else if e.isNil = true then s else rdBad s p e
def rTensor (b : List Int) (p : Int) (s : Rs) : (List Int × Bool × List Int) × Rs := if s.err.isNil = true then
    (((tRead (b.drop s.at_)).sh, (tRead (b.drop s.at_)).wide, (tRead (b.drop s.at_)).data), ⟨s.at_ + (tRead (b.drop s.at_)).at_, (rdFail s p (tRead (b.drop s.at_)).er).err⟩)
  else (([], false, []), s)
theorem tRead_cases (b : List Int) : ((tRead b).er = .nil ∧ (tRead b).at_ ≤ b.length) ∨ ((∃ g, g < 21 ∧ (tRead b).er = .s g) ∧ (tRead b).at_ = 0) := by
  have rest : ∀ w l a, ((tRest b w l a).er = .nil ∧ (tRest b w l a).at_ ≤ b.length) ∨ ((∃ g, g < 21 ∧ (tRest b w l a).er = .s g) ∧ (tRest b w l a).at_ = 0) := by
    intro w l a
    unfold tRest
    split
    · split
      · exact .inr ⟨⟨4, by omega, rfl⟩, rfl⟩
      · exact .inl ⟨rfl, by simp only; omega⟩
    · rename_i h
      refine .inr ⟨?_, rfl⟩
      rcases dvErr_cases l with k | k | k
      · exact absurd (isNil_iff.2 k) h
      · exact ⟨2, by omega, k⟩
      · exact ⟨3, by omega, k⟩
  have dims : ∀ w n l a, ((tDims b w n l a).er = .nil ∧ (tDims b w n l a).at_ ≤ b.length) ∨ ((∃ g, g < 21 ∧ (tDims b w n l a).er = .s g) ∧ (tDims b w n l a).at_ = 0) := by
    intro w n l a
    unfold tDims
    split
    · exact .inr ⟨⟨4, by omega, rfl⟩, rfl⟩
    · exact rest _ _ _
  cases b with
  | nil => exact .inr ⟨⟨4, by omega, rfl⟩, rfl⟩
  | cons x r =>
    unfold tRead
    simp only
    split
    · exact .inr ⟨⟨5, by omega, rfl⟩, rfl⟩
    · exact dims _ _ _ _
theorem rTensor_at {b : List Int} (p : Int) (s : Rs) (h : s.at_ ≤ b.length) : (rTensor b p s).2.at_ ≤ b.length := by
  unfold rTensor
  split
  · have := tRead_cases (b.drop s.at_)
    simp only [List.length_drop] at this ⊢
    omega
  · exact h
section
variable {G : Nat → Option Value} {bk : Nat → Nat × Nat} {Q : Exit → St → Prop} {st : St} {b : List Int}
theorem tensor87 (hS : Sent G bk) (hB : byteL b) (hl : b.length < 2 ^ 40) (p : Int) (s : Rs) (ha : s.at_ ≤ b.length) : ACallsX pg G F_plan_Reader_Tensor [rdAV bk b s, li p] (tnAV (rTensor b p s).1.1 (rTensor b p s).1.2.1 (rTensor b p s).1.2.2) [(0, rdAV bk b (rTensor b p s).2)] := by
  refine plan_Reader_Tensor_callX (pins := [0]) (by kernel_rfl) rfl rfl (by simp [go_sem]) rfl ?_
  have h4 := hS.val 4 (by decide)
  obtain ⟨a, e⟩ := s
  simp only at ha
  cases he : e.isNil with
  | true =>
    obtain ⟨c, hC⟩ : ∃ c, c = b.drop a := ⟨_, rfl⟩
    have hcl : c.length = b.length - a := by rw [hC]; simp
    have hcB : byteL c := fun x hx => hB x (by rw [hC] at hx; exact List.mem_of_mem_drop hx)
    have hmm : AV.sl (b.length - a) (List.take (b.length - a) (List.drop a (List.map lu b))) = slU c := by
      rw [← List.map_drop, ← hC, List.take_of_length_le (by simp [hcl]), ← hcl]
    have hr := read123 (G := G) hS hcB (by omega)
    have hm : rTensor b p ⟨a, e⟩ = (((tRead c).sh, (tRead c).wide, (tRead c).data), ⟨a + (tRead c).at_, (rdFail ⟨a, e⟩ p (tRead c).er).err⟩) := by simp only [rTensor, he, if_true, hC]
    have hc := tRead_cases c
    rw [hm]
    generalize tRead c = t at *
    clear hm
    obtain ⟨sh, w, d, n, er⟩ := t
    simp only at hc ⊢
    have h0 : er = .nil ∨ ∃ g, g < 21 ∧ er = .s g := by rcases hc with h | h; exact .inl h.1; exact .inr h.1
    have hn : n ≤ c.length := by rcases hc with h | h <;> omega
    have hi : ACalls pg G 124 [encE bk er, sv bk 4] (lb er.is4) := by
      rcases h0 with rfl | ⟨g, hg, rfl⟩
      · exact is124 hS (.inl rfl) (by decide)
      · exact is124 hS (.inr ⟨g, hg, rfl⟩) (by decide)
    simp (disch := omega) [go_sem, plan_Reader_Tensor_c, he]
    refine aw_drawV [(0, 0)] (by simp) (by simp (disch := omega) [go_sem]) ?_
    simp (disch := omega) [go_sem, hmm]
    refine dCal_same hr (by simp [go_sem]) (by simp (disch := omega) [go_sem]) (by simp) [24, 23] (by simp) (by simp (disch := omega) [go_sem]) ?_
    simp (disch := omega) [go_sem]
    refine dFin_i (by decide) fun s2 hs hep => ?_
    simp (disch := omega) [go_sem, hs, hep, h4]
    refine cal_same hi rfl (by simp (disch := omega) [go_sem]) ?_
    cases h4i : er.is4 with
    | true =>
      simp (disch := omega) [go_sem, hs, hep, rdFail, h4i]
    | false =>
      cases hni : er.isNil with
      | true =>
        simp (disch := omega) [go_sem, hs, hep, hni, rdFail, h4i]
      | false =>
        simp (disch := omega) [go_sem, hs, hep, hni]
        refine clx_same (bad121 (bk := bk) (b := b) ⟨a, e⟩ p er) rfl rfl rfl (by simp (disch := omega) [go_sem, hs, hep]) ?_
        simp (disch := omega) [go_sem, hs, hep, rdBad_at, rdFail, h4i, hni]
  | false =>
    simp (disch := omega) [go_sem, plan_Reader_Tensor_c, he, rTensor]
end
end Go.Ideal.Tryd
end
