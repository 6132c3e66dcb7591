/- Part Qbj of the proof: a machine with trees for values, its soundness, and walks on it. -/
import Derived.Test.YtfncabcldhemkaaDoorProg
import Derived.WalkKit
import Derived.LaidEql
import Derived.Stop.Asserts
import Derived.RowKitTokens
section
set_option linter.unusedVariables false
set_option linter.unusedSimpArgs false
set_option maxRecDepth 100000
namespace Go.Ideal.Tryd
open Go.RowKit Go.Extern.Stop Go.Stop Go.Extern Go.Proofs
theorem b73 (t : Addr) (w : World) : (ReflectliteValue.unpack (.iface 119 (.pointer (some t)))).run Go.Proofs.Tryd.prog w
    = .ok (.agg #[.pointer (some ⟨22, 119, none⟩), .pointer (some ⟨w.heap.size, 0, none⟩), .int .u64 150]) (w.alloc (.cells #[.pointer (some t)] 119)) := by kernel_rfl
theorem d5c (a : Addr) (w : World) : (ReflectliteValue.methodAny (ReflectliteValue.valueError "reflectlite.Value.Type" 0) (fun t _ _ _ => ReflectliteType.toType t) #[.agg #[.pointer (some ⟨22, 119, none⟩), .pointer (some a), .int .u64 150]]).run Go.Proofs.Tryd.prog w
    = .ok (.iface 170 (.agg #[.pointer (some ⟨22, 119, none⟩)])) w := by kernel_rfl
theorem b5h (h : Value) (w : World) : (Go.method 320 170 (.agg #[h]) "Kind").run Go.Proofs.Tryd.prog w = .ok (133, h) w := by kernel_rfl
theorem d5o (w : World) : ((ReflectliteType.abiMethod fun t => (fun a : Nat => Value.int IntKind.u8 (a : Int)) <$> Rtype.kind t) #[.pointer (some ⟨22, 119, none⟩)]).run Go.Proofs.Tryd.prog w = .ok (.int .u8 22) w := by kernel_rfl
theorem d5n (w : World) : ((ReflectliteType.abiMethod fun t => (fun a : Nat => Value.int IntKind.u8 (a : Int)) <$> Rtype.kind t) #[.pointer (some ⟨22, 110, none⟩)]).run Go.Proofs.Tryd.prog w = .ok (.int .u8 22) w := by kernel_rfl
theorem e8i (z : Sem Value) (f : TypeId → Addr → Nat → Nat → Sem Value) (v : Value) :
    ReflectliteValue.method z f #[v] = (do match ← ReflectliteValue.parts v with | none => z | some (t, a, fl) => f t a fl (fl % 32)) := rfl
theorem c9l (a : Addr) (w : World) : (ReflectliteValue.parts (.agg #[.pointer (some ⟨22, 119, none⟩), .pointer (some a), .int .u64 150])).run Go.Proofs.Tryd.prog w = .ok (some (119, a, 150)) w := by kernel_rfl
theorem c93 (a p : Addr) (W : World) (ha : W.cell? a = some (.pointer (some p))) :
    (ReflectliteValue.method (ReflectliteValue.valueError "reflectlite.Value.IsNil" 0) ReflectliteValue.isNil #[.agg #[.pointer (some ⟨22, 119, none⟩), .pointer (some a), .int .u64 150]]).run Go.Proofs.Tryd.prog W = .ok (.bool false) W := by
  rw [e8i]
  simp only [Sem.run_bind, c9l, Result.andThen]
  simp [ReflectliteValue.isNil, loadVar, isAgg, underlying, Go.Proofs.Tryd.underlying119, ha, Result.andThen]
theorem b4x (h : Value) (w : World) : (Go.method 320 170 (.agg #[h]) "Elem").run Go.Proofs.Tryd.prog w = .ok (144, .agg #[h]) w := by kernel_rfl
theorem a50 (h : Value) (w : World) : (Go.method 320 170 (.agg #[h]) "Implements").run Go.Proofs.Tryd.prog w = .ok (145, .agg #[h]) w := by kernel_rfl
theorem a5b (h : Value) (w : World) : (Go.method 320 170 (.agg #[h]) "AssignableTo").run Go.Proofs.Tryd.prog w = .ok (142, .agg #[h]) w := by kernel_rfl
theorem d47 (w : World) : (ReflectliteType.method ReflectliteType.elem #[.agg #[.pointer (some ⟨22, 119, none⟩)]]).run Go.Proofs.Tryd.prog w = .ok (.iface 170 (.agg #[.pointer (some ⟨22, 110, none⟩)])) w := by kernel_rfl
theorem b1p (w : World) : (ReflectliteType.relation "Implements" ReflectliteType.implements_ #[.agg #[.pointer (some ⟨22, 110, none⟩)], .iface 170 (.agg #[.pointer (some ⟨22, 45, none⟩)])]).run Go.Proofs.Tryd.prog w = .ok (.bool true) w := by kernel_rfl
theorem d8q (v : Value) (w : World) : (ReflectliteType.typeOf #[.iface 110 v]).run Go.Proofs.Tryd.prog w = .ok (.iface 170 (.agg #[.pointer (some ⟨22, 110, none⟩)])) w := by kernel_rfl
theorem c2y (w : World) : (ReflectliteType.relation "AssignableTo" ReflectliteType.assignableTo #[.agg #[.pointer (some ⟨22, 110, none⟩)], .iface 170 (.agg #[.pointer (some ⟨22, 110, none⟩)])]).run Go.Proofs.Tryd.prog w = .ok (.bool true) w := by kernel_rfl
theorem b75 (e : Addr) (w : World) : (ReflectliteValue.unpack (.iface 110 (.pointer (some e)))).run Go.Proofs.Tryd.prog w
    = .ok (.agg #[.pointer (some ⟨22, 110, none⟩), .pointer (some ⟨w.heap.size, 0, none⟩), .int .u64 150]) (w.alloc (.cells #[.pointer (some e)] 110)) := by kernel_rfl
theorem d63 (w : World) : (Rtype.elem? 119).run Go.Proofs.Tryd.prog w = .ok (some 110) w := by kernel_rfl
theorem f2a (p : Addr) (w : World) : (ReflectliteValue.mk 110 p ReflectliteValue.flagAddr).run Go.Proofs.Tryd.prog w = .ok (.agg #[.pointer (some ⟨22, 110, none⟩), .pointer (some p), .int .u64 406]) w := by kernel_rfl
theorem c9j (a p : Addr) (W : World) (ha : W.cell? a = some (.pointer (some p))) :
    (ReflectliteValue.method (ReflectliteValue.valueError "reflectlite.Value.Elem" 0) ReflectliteValue.elem #[.agg #[.pointer (some ⟨22, 119, none⟩), .pointer (some a), .int .u64 150]]).run Go.Proofs.Tryd.prog W
      = .ok (.agg #[.pointer (some ⟨22, 110, none⟩), .pointer (some p), .int .u64 406]) W := by
  rw [e8i]
  simp only [Sem.run_bind, c9l, Result.andThen]
  simp [ReflectliteValue.elem, loadVar, isAgg, underlying, Go.Proofs.Tryd.underlying119, ha, Result.andThen, d63, f2a]
theorem g2s (v x : Value) : ReflectliteValue.set #[v, x] = (do
    let (some (dst, a, fl), some (src, b, _)) := (← ReflectliteValue.parts v, ← ReflectliteValue.parts x)
      | unsupported (.noEntry "extern/(internal/reflectlite.Value).Set.zeroValue")
    if fl / ReflectliteValue.flagAddr % 2 == 0 then unsupported (.noEntry "extern/(internal/reflectlite.Value).Set.unaddressable")
    let val ← loadVar src b
    if ← Rtype.directlyAssignable dst src then storeVar dst a val
    else if ← Rtype.implements dst src then
      if (← Rtype.kind src) == 20 then
        match val with
        | .nilIface => unsupported (.noEntry "extern/reflectlite: a nil value of one interface type handed on as a value of another")
        | _ => storeVar dst a val
      else storeVar dst a (.iface src val)
    else panicString ("reflectlite.Set: value of type " ++ (← Rtype.spelt src) ++ " is not assignable to type " ++ (← Rtype.spelt dst))
    pure (.tuple #[])) := rfl
theorem d7e (a : Addr) (w : World) : (ReflectliteValue.parts (.agg #[.pointer (some ⟨22, 110, none⟩), .pointer (some a), .int .u64 406])).run Go.Proofs.Tryd.prog w = .ok (some (110, a, 406)) w := by kernel_rfl
theorem e05 (a : Addr) (w : World) : (ReflectliteValue.parts (.agg #[.pointer (some ⟨22, 110, none⟩), .pointer (some a), .int .u64 150])).run Go.Proofs.Tryd.prog w = .ok (some (110, a, 150)) w := by kernel_rfl
theorem d8t (w : World) : (Rtype.directlyAssignable 110 110).run Go.Proofs.Tryd.prog w = .ok true w := by kernel_rfl
theorem e58 (ta b e : Addr) (old : Value) (W : World) (hb : W.cell? b = some (.pointer (some e))) (ht : W.cell? ta = some old) (hf : W.frozen? ta = false) :
    (ReflectliteValue.set #[.agg #[.pointer (some ⟨22, 110, none⟩), .pointer (some ta), .int .u64 406], .agg #[.pointer (some ⟨22, 110, none⟩), .pointer (some b), .int .u64 150]]).run Go.Proofs.Tryd.prog W
      = .ok (.tuple #[]) (W.setCell ta (.pointer (some e))) := by
  rw [g2s]
  simp only [Sem.run_bind, d7e, e05, Result.andThen]
  simp [ReflectliteValue.flagAddr, loadVar, isAgg, underlying, Go.Proofs.Tryd.underlying110, hb, Result.andThen, d8t, storeVar, Value.cells, storeCells, Addr.add]
  rw [run_store Go.Proofs.Tryd.prog W ta _ _ (by rfl)]
  simp [ht, hf]
theorem d7x (v : Value) (w : World) : (ReflectliteType.typeOf #[.iface 186 v]).run Go.Proofs.Tryd.prog w = .ok (.iface 170 (.agg #[.pointer (some ⟨22, 186, none⟩)])) w := by kernel_rfl
theorem c18 (w : World) : (ReflectliteType.relation "AssignableTo" ReflectliteType.assignableTo #[.agg #[.pointer (some ⟨22, 186, none⟩)], .iface 170 (.agg #[.pointer (some ⟨22, 110, none⟩)])]).run Go.Proofs.Tryd.prog w = .ok (.bool false) w := by kernel_rfl
theorem h2q (v : Value) (xT : TypeId) (w : World) : (Instr.typeAssert (.iface 186 v) xT 175 true).run Go.Proofs.Tryd.prog w = .ok (.tuple #[.nilIface, .bool false]) w := run_typeAssert_lacksB Go.Proofs.Tryd.underlying175 (by kernel_rfl) (by kernel_rfl) v xT w
theorem e2t (v : Value) (xT : TypeId) (w : World) : (Instr.typeAssert (.iface 186 v) xT 178 true).run Go.Proofs.Tryd.prog w = .ok (.tuple #[.nilIface, .bool false]) w := run_typeAssert_lacksB Go.Proofs.Tryd.underlying178 (by kernel_rfl) (by kernel_rfl) v xT w
theorem e1h (v : Value) (xT : TypeId) (w : World) : (Instr.typeAssert (.iface 186 v) xT 180 true).run Go.Proofs.Tryd.prog w = .ok (.tuple #[.nilIface, .bool false]) w := run_typeAssert_lacksB Go.Proofs.Tryd.underlying180 (by kernel_rfl) (by kernel_rfl) v xT w
set_option maxHeartbeats 4000000 in
theorem e1p (e t : Addr) (old : Value) (w : World) (hg : w.cell? ⟨8, 0, none⟩ = some (.iface 170 (.agg #[.pointer (some ⟨22, 45, none⟩)]))) (ht0 : w.cell? t = some old) (hf0 : w.frozen? t = false) :
    Calls Go.Proofs.Tryd.prog 61 #[.iface 186 (.pointer (some e)), .iface 119 (.pointer (some t))] w fun ev w' => ev = .returned (.bool false) ∧ w' = (((w.alloc (.cells #[.pointer (some t)] 119)).alloc (.cells #[.pointer (some ⟨22, 119, none⟩), .pointer (some ⟨w.heap.size, 0, none⟩), .int .u64 150] 143)).alloc (.cells #[.pointer (some ⟨22, 119, none⟩), .pointer (some ⟨w.heap.size, 0, none⟩), .int .u64 150] 143)) := by
  have h6 := @run_callFunc_extern Go.Proofs.Tryd.prog 81 _ (fun args => ReflectliteValue.unpack (args.getD 0 (.tuple #[]))) Go.Proofs.Tryd.func81 (by kernel_rfl) (by kernel_rfl) (by kernel_rfl) (by kernel_rfl)
  have h7 := @run_callFunc_extern Go.Proofs.Tryd.prog 82 _ (ReflectliteValue.methodAny (ReflectliteValue.valueError "reflectlite.Value.Type" 0) (fun t _ _ _ => ReflectliteType.toType t)) Go.Proofs.Tryd.func82 (by kernel_rfl) (by kernel_rfl) (by kernel_rfl) (by kernel_rfl)
  have h8 := @run_callFunc_extern Go.Proofs.Tryd.prog 83 _ (ReflectliteValue.method (ReflectliteValue.valueError "reflectlite.Value.IsNil" 0) ReflectliteValue.isNil) Go.Proofs.Tryd.func83 (by kernel_rfl) (by kernel_rfl) (by kernel_rfl) (by kernel_rfl)
  have h27 := @run_callFunc_extern Go.Proofs.Tryd.prog 133 _ (ReflectliteType.abiMethod fun t => do pure (.int .u8 (← Rtype.kind t))) Go.Proofs.Tryd.func133 (by kernel_rfl) (by kernel_rfl) (by kernel_rfl) (by kernel_rfl)
  have h37 := @run_callFunc_extern Go.Proofs.Tryd.prog 144 _ (ReflectliteType.method ReflectliteType.elem) Go.Proofs.Tryd.func144 (by kernel_rfl) (by kernel_rfl) (by kernel_rfl) (by kernel_rfl)
  have h38 := @run_callFunc_extern Go.Proofs.Tryd.prog 145 _ (ReflectliteType.relation "Implements" ReflectliteType.implements_) Go.Proofs.Tryd.func145 (by kernel_rfl) (by kernel_rfl) (by kernel_rfl) (by kernel_rfl)
  have h10 := @run_callFunc_extern Go.Proofs.Tryd.prog 109 _ ReflectliteType.typeOf Go.Proofs.Tryd.func109 (by kernel_rfl) (by kernel_rfl) (by kernel_rfl) (by kernel_rfl)
  have h35 := @run_callFunc_extern Go.Proofs.Tryd.prog 142 _ (ReflectliteType.relation "AssignableTo" ReflectliteType.assignableTo) Go.Proofs.Tryd.func142 (by kernel_rfl) (by kernel_rfl) (by kernel_rfl) (by kernel_rfl)
  have h11 := @run_callFunc_extern Go.Proofs.Tryd.prog 110 _ (ReflectliteValue.method (ReflectliteValue.valueError "reflectlite.Value.Elem" 0) ReflectliteValue.elem) Go.Proofs.Tryd.func110 (by kernel_rfl) (by kernel_rfl) (by kernel_rfl) (by kernel_rfl)
  have h12 := @run_callFunc_extern Go.Proofs.Tryd.prog 111 _ ReflectliteValue.set Go.Proofs.Tryd.func111 (by kernel_rfl) (by kernel_rfl) (by kernel_rfl) (by kernel_rfl)
  have tO := d7x
  have mA := a5b
  have a25 := c18
  have nE := h2q
  have uE := e2t
  have vE := e1h
  have v25 := b75
  have f6 := b73
  have f7 := d5c
  have mK := b5h
  have mE := b4x
  have mI := a50
  have k27 := d5o
  have k25 := d5n
  have e27 := d47
  have i25 := b1p
  have n8 := c93 ⟨w.heap.size, 0, none⟩ t ((w.alloc (.cells #[.pointer (some t)] 119)).alloc (.cells #[.pointer (some ⟨22, 119, none⟩), .pointer (some ⟨w.heap.size, 0, none⟩), .int .u64 150] 143)) (by simp)
  have hlt : 8 < w.heap.size := by
    rcases Nat.lt_or_ge 8 w.heap.size with h | h
    · exact h
    · simp [World.cell?, Array.getElem?_eq_none h] at hg
  have hg2 : ((w.alloc (.cells #[.pointer (some t)] 119)).alloc (.cells #[.pointer (some ⟨22, 119, none⟩), .pointer (some ⟨w.heap.size, 0, none⟩), .int .u64 150] 143)).cell? ⟨8, 0, none⟩ = some (.iface 170 (.agg #[.pointer (some ⟨22, 45, none⟩)])) := by
    rw [World.cell?_alloc_lt _ _ ⟨8, 0, none⟩ (by simp; omega), World.cell?_alloc_lt _ _ ⟨8, 0, none⟩ hlt]; exact hg
  have htl : t.block < w.heap.size := by
    rcases Nat.lt_or_ge t.block w.heap.size with h | h
    · exact h
    · simp [World.cell?, Array.getElem?_eq_none h] at ht0
  have el := c9j ⟨w.heap.size, 0, none⟩ t (((w.alloc (.cells #[.pointer (some t)] 119)).alloc (.cells #[.pointer (some ⟨22, 119, none⟩), .pointer (some ⟨w.heap.size, 0, none⟩), .int .u64 150] 143)).alloc (.cells #[.pointer (some ⟨22, 119, none⟩), .pointer (some ⟨w.heap.size, 0, none⟩), .int .u64 150] 143)) (by rw [World.cell?_alloc_lt _ _ ⟨w.heap.size, 0, none⟩ (by simp; omega)]; simp)
  go_enter Go.Proofs.Tryd.func61, Go.Proofs.Tryd.ntmps61
  go_wp2
  refine wp_loop_rounds 1 ?_
  rw [rounds_succ]
  go_wp2
  go_ret
  exact ⟨rfl, rfl⟩
set_option maxHeartbeats 4000000 in
theorem e3k (e t : Addr) (old : Value) (w : World) (hg : w.cell? ⟨8, 0, none⟩ = some (.iface 170 (.agg #[.pointer (some ⟨22, 45, none⟩)]))) (ht0 : w.cell? t = some old) (hf0 : w.frozen? t = false) :
    Calls Go.Proofs.Tryd.prog 61 #[.iface 110 (.pointer (some e)), .iface 119 (.pointer (some t))] w fun ev w' => ev = .returned (.bool true) ∧ w' = ((((w.alloc (.cells #[.pointer (some t)] 119)).alloc (.cells #[.pointer (some ⟨22, 119, none⟩), .pointer (some ⟨w.heap.size, 0, none⟩), .int .u64 150] 143)).alloc (.cells #[.pointer (some ⟨22, 119, none⟩), .pointer (some ⟨w.heap.size, 0, none⟩), .int .u64 150] 143)).alloc (.cells #[.pointer (some e)] 110)).setCell t (.pointer (some e)) := by
  have h6 := @run_callFunc_extern Go.Proofs.Tryd.prog 81 _ (fun args => ReflectliteValue.unpack (args.getD 0 (.tuple #[]))) Go.Proofs.Tryd.func81 (by kernel_rfl) (by kernel_rfl) (by kernel_rfl) (by kernel_rfl)
  have h7 := @run_callFunc_extern Go.Proofs.Tryd.prog 82 _ (ReflectliteValue.methodAny (ReflectliteValue.valueError "reflectlite.Value.Type" 0) (fun t _ _ _ => ReflectliteType.toType t)) Go.Proofs.Tryd.func82 (by kernel_rfl) (by kernel_rfl) (by kernel_rfl) (by kernel_rfl)
  have h8 := @run_callFunc_extern Go.Proofs.Tryd.prog 83 _ (ReflectliteValue.method (ReflectliteValue.valueError "reflectlite.Value.IsNil" 0) ReflectliteValue.isNil) Go.Proofs.Tryd.func83 (by kernel_rfl) (by kernel_rfl) (by kernel_rfl) (by kernel_rfl)
  have h27 := @run_callFunc_extern Go.Proofs.Tryd.prog 133 _ (ReflectliteType.abiMethod fun t => do pure (.int .u8 (← Rtype.kind t))) Go.Proofs.Tryd.func133 (by kernel_rfl) (by kernel_rfl) (by kernel_rfl) (by kernel_rfl)
  have h37 := @run_callFunc_extern Go.Proofs.Tryd.prog 144 _ (ReflectliteType.method ReflectliteType.elem) Go.Proofs.Tryd.func144 (by kernel_rfl) (by kernel_rfl) (by kernel_rfl) (by kernel_rfl)
  have h38 := @run_callFunc_extern Go.Proofs.Tryd.prog 145 _ (ReflectliteType.relation "Implements" ReflectliteType.implements_) Go.Proofs.Tryd.func145 (by kernel_rfl) (by kernel_rfl) (by kernel_rfl) (by kernel_rfl)
  have h10 := @run_callFunc_extern Go.Proofs.Tryd.prog 109 _ ReflectliteType.typeOf Go.Proofs.Tryd.func109 (by kernel_rfl) (by kernel_rfl) (by kernel_rfl) (by kernel_rfl)
  have h35 := @run_callFunc_extern Go.Proofs.Tryd.prog 142 _ (ReflectliteType.relation "AssignableTo" ReflectliteType.assignableTo) Go.Proofs.Tryd.func142 (by kernel_rfl) (by kernel_rfl) (by kernel_rfl) (by kernel_rfl)
  have h11 := @run_callFunc_extern Go.Proofs.Tryd.prog 110 _ (ReflectliteValue.method (ReflectliteValue.valueError "reflectlite.Value.Elem" 0) ReflectliteValue.elem) Go.Proofs.Tryd.func110 (by kernel_rfl) (by kernel_rfl) (by kernel_rfl) (by kernel_rfl)
  have h12 := @run_callFunc_extern Go.Proofs.Tryd.prog 111 _ ReflectliteValue.set Go.Proofs.Tryd.func111 (by kernel_rfl) (by kernel_rfl) (by kernel_rfl) (by kernel_rfl)
  have tO := d8q
  have mA := a5b
  have a25 := c2y
  have v25 := b75
  have f6 := b73
  have f7 := d5c
  have mK := b5h
  have mE := b4x
  have mI := a50
  have k27 := d5o
  have k25 := d5n
  have e27 := d47
  have i25 := b1p
  have n8 := c93 ⟨w.heap.size, 0, none⟩ t ((w.alloc (.cells #[.pointer (some t)] 119)).alloc (.cells #[.pointer (some ⟨22, 119, none⟩), .pointer (some ⟨w.heap.size, 0, none⟩), .int .u64 150] 143)) (by simp)
  have hlt : 8 < w.heap.size := by
    rcases Nat.lt_or_ge 8 w.heap.size with h | h
    · exact h
    · simp [World.cell?, Array.getElem?_eq_none h] at hg
  have hg2 : ((w.alloc (.cells #[.pointer (some t)] 119)).alloc (.cells #[.pointer (some ⟨22, 119, none⟩), .pointer (some ⟨w.heap.size, 0, none⟩), .int .u64 150] 143)).cell? ⟨8, 0, none⟩ = some (.iface 170 (.agg #[.pointer (some ⟨22, 45, none⟩)])) := by
    rw [World.cell?_alloc_lt _ _ ⟨8, 0, none⟩ (by simp; omega), World.cell?_alloc_lt _ _ ⟨8, 0, none⟩ hlt]; exact hg
  have htl : t.block < w.heap.size := by
    rcases Nat.lt_or_ge t.block w.heap.size with h | h
    · exact h
    · simp [World.cell?, Array.getElem?_eq_none h] at ht0
  have el := c9j ⟨w.heap.size, 0, none⟩ t (((w.alloc (.cells #[.pointer (some t)] 119)).alloc (.cells #[.pointer (some ⟨22, 119, none⟩), .pointer (some ⟨w.heap.size, 0, none⟩), .int .u64 150] 143)).alloc (.cells #[.pointer (some ⟨22, 119, none⟩), .pointer (some ⟨w.heap.size, 0, none⟩), .int .u64 150] 143)) (by rw [World.cell?_alloc_lt _ _ ⟨w.heap.size, 0, none⟩ (by simp; omega)]; simp)
  have st := e58 t ⟨w.heap.size + 1 + 1 + 1, 0, none⟩ e old ((((w.alloc (.cells #[.pointer (some t)] 119)).alloc (.cells #[.pointer (some ⟨22, 119, none⟩), .pointer (some ⟨w.heap.size, 0, none⟩), .int .u64 150] 143)).alloc (.cells #[.pointer (some ⟨22, 119, none⟩), .pointer (some ⟨w.heap.size, 0, none⟩), .int .u64 150] 143)).alloc (.cells #[.pointer (some e)] 110))
    (by rw [World.cell?_alloc_at _ _ _ _ (by simp)]; rfl)
    (by rw [World.cell?_alloc_lt _ _ t (by simp; omega), World.cell?_alloc_lt _ _ t (by simp; omega), World.cell?_alloc_lt _ _ t (by simp; omega), World.cell?_alloc_lt _ _ t htl]; exact ht0)
    (by rw [World.frozen?_alloc_old _ _ t (by simp; omega), World.frozen?_alloc_old _ _ t (by simp; omega), World.frozen?_alloc_old _ _ t (by simp; omega), World.frozen?_alloc_old _ _ t (Nat.ne_of_lt htl)]; exact hf0)
  go_enter Go.Proofs.Tryd.func61, Go.Proofs.Tryd.ntmps61
  go_wp2
  refine wp_loop_rounds 1 ?_
  rw [rounds_succ]
  go_wp2
  go_ret
  exact ⟨rfl, rfl⟩
end Go.Ideal.Tryd
end
