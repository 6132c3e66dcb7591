/- Part Qbi of the proof: a machine with trees for values, its soundness, and walks on it. -/
import Derived.Test.YtfncabcldhemkaaGreatDoorProg
import Derived.WalkKit
import Derived.LaidEql
import Derived.Stop.Asserts
import Derived.RowKitTokens
set_option linter.unusedVariables false
set_option linter.unusedSimpArgs false
set_option maxHeartbeats 4000000
set_option maxRecDepth 100000
section
namespace Go.Ideal.Tryz
open Go.RowKit Go.Extern.Stop Go.Stop Go.Extern Go.Proofs
theorem b6h (t : Addr) (w : World) : (ReflectliteValue.unpack (.iface 161 (.pointer (some t)))).run Go.Proofs.Tryz.prog w
  = .ok (.agg #[.pointer (some ⟨22, 161, none⟩), .pointer (some ⟨w.heap.size, 0, none⟩), .int .u64 150]) (w.alloc (.cells #[.pointer (some t)] 161)) := by kernel_rfl
theorem c22 (a : Addr) (w : World) : (ReflectliteValue.methodAny (ReflectliteValue.valueError "reflectlite.Value.Type" 0) (fun t _ _ _ => ReflectliteType.toType t) #[.agg #[.pointer (some ⟨22, 161, none⟩), .pointer (some a), .int .u64 150]]).run Go.Proofs.Tryz.prog w
  = .ok (.iface 212 (.agg #[.pointer (some ⟨22, 161, none⟩)])) w := by kernel_rfl
theorem b4c (h : Value) (w : World) : (Go.method 364 212 (.agg #[h]) "Kind").run Go.Proofs.Tryz.prog w = .ok (193, h) w := by kernel_rfl
theorem c21 (w : World) : ((ReflectliteType.abiMethod fun t => (fun a : Nat => Value.int IntKind.u8 (a : Int)) <$> Rtype.kind t) #[.pointer (some ⟨22, 161, none⟩)]).run Go.Proofs.Tryz.prog w = .ok (.int .u8 22) w := by kernel_rfl
theorem c20 (w : World) : ((ReflectliteType.abiMethod fun t => (fun a : Nat => Value.int IntKind.u8 (a : Int)) <$> Rtype.kind t) #[.pointer (some ⟨22, 153, none⟩)]).run Go.Proofs.Tryz.prog w = .ok (.int .u8 22) w := by kernel_rfl
theorem d6l (z : Sem Value) (f : TypeId -> Addr -> Nat -> Nat -> Sem Value) (v : Value) :
  ReflectliteValue.method z f #[v] = (do match <- ReflectliteValue.parts v with | none => z | some (t, a, fl) => f t a fl (fl % 32)) := rfl
theorem b90 (a : Addr) (w : World) : (ReflectliteValue.parts (.agg #[.pointer (some ⟨22, 161, none⟩), .pointer (some a), .int .u64 150])).run Go.Proofs.Tryz.prog w = .ok (some (161, a, 150)) w := by kernel_rfl
theorem b9z (a p : Addr) (W : World) (ha : W.cell? a = some (.pointer (some p))) :
  (ReflectliteValue.method (ReflectliteValue.valueError "reflectlite.Value.IsNil" 0) ReflectliteValue.isNil #[.agg #[.pointer (some ⟨22, 161, none⟩), .pointer (some a), .int .u64 150]]).run Go.Proofs.Tryz.prog W = .ok (.bool false) W := by
 rw [d6l]
 simp only [Sem.run_bind, b90, Result.andThen]
 simp [ReflectliteValue.isNil, loadVar, isAgg, underlying, Go.Proofs.Tryz.underlying161, ha, Result.andThen]
theorem b4b (h : Value) (w : World) : (Go.method 364 212 (.agg #[h]) "Elem").run Go.Proofs.Tryz.prog w = .ok (204, .agg #[h]) w := by kernel_rfl
theorem a7k (h : Value) (w : World) : (Go.method 364 212 (.agg #[h]) "Implements").run Go.Proofs.Tryz.prog w = .ok (205, .agg #[h]) w := by kernel_rfl
theorem a6j (h : Value) (w : World) : (Go.method 364 212 (.agg #[h]) "AssignableTo").run Go.Proofs.Tryz.prog w = .ok (202, .agg #[h]) w := by kernel_rfl
theorem c2z (w : World) : (ReflectliteType.method ReflectliteType.elem #[.agg #[.pointer (some ⟨22, 161, none⟩)]]).run Go.Proofs.Tryz.prog w = .ok (.iface 212 (.agg #[.pointer (some ⟨22, 153, none⟩)])) w := by kernel_rfl
theorem b05 (w : World) : (ReflectliteType.relation "Implements" ReflectliteType.implements_ #[.agg #[.pointer (some ⟨22, 153, none⟩)], .iface 212 (.agg #[.pointer (some ⟨22, 35, none⟩)])]).run Go.Proofs.Tryz.prog w = .ok (.bool true) w := by kernel_rfl
theorem c5h (v : Value) (w : World) : (ReflectliteType.typeOf #[.iface 153 v]).run Go.Proofs.Tryz.prog w = .ok (.iface 212 (.agg #[.pointer (some ⟨22, 153, none⟩)])) w := by kernel_rfl
theorem b77 (w : World) : (ReflectliteType.relation "AssignableTo" ReflectliteType.assignableTo #[.agg #[.pointer (some ⟨22, 153, none⟩)], .iface 212 (.agg #[.pointer (some ⟨22, 153, none⟩)])]).run Go.Proofs.Tryz.prog w = .ok (.bool true) w := by kernel_rfl
theorem b6g (e : Addr) (w : World) : (ReflectliteValue.unpack (.iface 153 (.pointer (some e)))).run Go.Proofs.Tryz.prog w
  = .ok (.agg #[.pointer (some ⟨22, 153, none⟩), .pointer (some ⟨w.heap.size, 0, none⟩), .int .u64 150]) (w.alloc (.cells #[.pointer (some e)] 153)) := by kernel_rfl
theorem c5f (w : World) : (Rtype.elem? 161).run Go.Proofs.Tryz.prog w = .ok (some 153) w := by kernel_rfl
theorem d7a (p : Addr) (w : World) : (ReflectliteValue.mk 153 p ReflectliteValue.flagAddr).run Go.Proofs.Tryz.prog w = .ok (.agg #[.pointer (some ⟨22, 153, none⟩), .pointer (some p), .int .u64 406]) w := by kernel_rfl
theorem b9y (a p : Addr) (W : World) (ha : W.cell? a = some (.pointer (some p))) :
  (ReflectliteValue.method (ReflectliteValue.valueError "reflectlite.Value.Elem" 0) ReflectliteValue.elem #[.agg #[.pointer (some ⟨22, 161, none⟩), .pointer (some a), .int .u64 150]]).run Go.Proofs.Tryz.prog W
   = .ok (.agg #[.pointer (some ⟨22, 153, none⟩), .pointer (some p), .int .u64 406]) W := by
 rw [d6l]
 simp only [Sem.run_bind, b90, Result.andThen]
 simp [ReflectliteValue.elem, loadVar, isAgg, underlying, Go.Proofs.Tryz.underlying161, ha, Result.andThen, c5f, d7a]
theorem e33 (v x : Value) : ReflectliteValue.set #[v, x] = (do
  let (some (dst, a, fl), some (src, b, _)) := (<- ReflectliteValue.parts v, <- ReflectliteValue.parts x)
   | unsupported (.noEntry "extern/(internal/reflectlite.Value).Set.zeroValue")
  if fl / ReflectliteValue.flagAddr % 2 == 0 then unsupported (.noEntry "extern/(internal/reflectlite.Value).Set.unaddressable")
  let val <- loadVar src b
  if <- Rtype.directlyAssignable dst src then storeVar dst a val
  else if <- Rtype.implements dst src then
   if (<- Rtype.kind src) == 20 then
    match val with
    | .nilIface => unsupported (.noEntry "extern/reflectlite: a nil value of one interface type handed on as a value of another")
    | _ => storeVar dst a val
   else storeVar dst a (.iface src val)
  else panicString ("reflectlite.Set: value of type " ++ (<- Rtype.spelt src) ++ " is not assignable to type " ++ (<- Rtype.spelt dst))
  pure (.tuple #[])) := rfl
theorem c5g (a : Addr) (w : World) : (ReflectliteValue.parts (.agg #[.pointer (some ⟨22, 153, none⟩), .pointer (some a), .int .u64 406])).run Go.Proofs.Tryz.prog w = .ok (some (153, a, 406)) w := by kernel_rfl
theorem c8e (a : Addr) (w : World) : (ReflectliteValue.parts (.agg #[.pointer (some ⟨22, 153, none⟩), .pointer (some a), .int .u64 150])).run Go.Proofs.Tryz.prog w = .ok (some (153, a, 150)) w := by kernel_rfl
theorem c5e (w : World) : (Rtype.directlyAssignable 153 153).run Go.Proofs.Tryz.prog w = .ok true w := by kernel_rfl
theorem d32 (ta b e : Addr) (old : Value) (W : World) (hb : W.cell? b = some (.pointer (some e))) (ht : W.cell? ta = some old) (hf : W.frozen? ta = false) :
  (ReflectliteValue.set #[.agg #[.pointer (some ⟨22, 153, none⟩), .pointer (some ta), .int .u64 406], .agg #[.pointer (some ⟨22, 153, none⟩), .pointer (some b), .int .u64 150]]).run Go.Proofs.Tryz.prog W
   = .ok (.tuple #[]) (W.setCell ta (.pointer (some e))) := by
 rw [e33]
 simp only [Sem.run_bind, c5g, c8e, Result.andThen]
 simp [ReflectliteValue.flagAddr, loadVar, isAgg, underlying, Go.Proofs.Tryz.underlying153, hb, Result.andThen, c5e, storeVar, Value.cells, storeCells, Addr.add]
 rw [run_store Go.Proofs.Tryz.prog W ta _ _ (by rfl)]
 simp [ht, hf]
theorem c5i (v : Value) (w : World) : (ReflectliteType.typeOf #[.iface 230 v]).run Go.Proofs.Tryz.prog w = .ok (.iface 212 (.agg #[.pointer (some ⟨22, 230, none⟩)])) w := by kernel_rfl
theorem b78 (w : World) : (ReflectliteType.relation "AssignableTo" ReflectliteType.assignableTo #[.agg #[.pointer (some ⟨22, 230, none⟩)], .iface 212 (.agg #[.pointer (some ⟨22, 153, none⟩)])]).run Go.Proofs.Tryz.prog w = .ok (.bool false) w := by kernel_rfl
theorem g0c (v : Value) (xT : TypeId) (w : World) : (Instr.typeAssert (.iface 230 v) xT 217 true).run Go.Proofs.Tryz.prog w = .ok (.tuple #[.nilIface, .bool false]) w := run_typeAssert_lacksB Go.Proofs.Tryz.underlying217 (by kernel_rfl) (by kernel_rfl) v xT w
theorem d11 (v : Value) (xT : TypeId) (w : World) : (Instr.typeAssert (.iface 230 v) xT 220 true).run Go.Proofs.Tryz.prog w = .ok (.tuple #[.nilIface, .bool false]) w := run_typeAssert_lacksB Go.Proofs.Tryz.underlying220 (by kernel_rfl) (by kernel_rfl) v xT w
theorem c9h (v : Value) (xT : TypeId) (w : World) : (Instr.typeAssert (.iface 230 v) xT 222 true).run Go.Proofs.Tryz.prog w = .ok (.tuple #[.nilIface, .bool false]) w := run_typeAssert_lacksB Go.Proofs.Tryz.underlying222 (by kernel_rfl) (by kernel_rfl) v xT w
theorem c8p (e t : Addr) (old : Value) (w : World) (hg : w.cell? ⟨9, 0, none⟩ = some (.iface 212 (.agg #[.pointer (some ⟨22, 35, none⟩)]))) (ht0 : w.cell? t = some old) (hf0 : w.frozen? t = false) :
  Calls Go.Proofs.Tryz.prog 108 #[.iface 230 (.pointer (some e)), .iface 161 (.pointer (some t))] w fun ev w' => ev = .returned (.bool false) /\ w' = (((w.alloc (.cells #[.pointer (some t)] 161)).alloc (.cells #[.pointer (some ⟨22, 161, none⟩), .pointer (some ⟨w.heap.size, 0, none⟩), .int .u64 150] 196)).alloc (.cells #[.pointer (some ⟨22, 161, none⟩), .pointer (some ⟨w.heap.size, 0, none⟩), .int .u64 150] 196)) := by
 have h6 := @run_callFunc_extern Go.Proofs.Tryz.prog 147 _ (fun args => ReflectliteValue.unpack (args.getD 0 (.tuple #[]))) Go.Proofs.Tryz.func147 (by kernel_rfl) (by kernel_rfl) (by kernel_rfl) (by kernel_rfl)
 have h7 := @run_callFunc_extern Go.Proofs.Tryz.prog 148 _ (ReflectliteValue.methodAny (ReflectliteValue.valueError "reflectlite.Value.Type" 0) (fun t _ _ _ => ReflectliteType.toType t)) Go.Proofs.Tryz.func148 (by kernel_rfl) (by kernel_rfl) (by kernel_rfl) (by kernel_rfl)
 have h8 := @run_callFunc_extern Go.Proofs.Tryz.prog 149 _ (ReflectliteValue.method (ReflectliteValue.valueError "reflectlite.Value.IsNil" 0) ReflectliteValue.isNil) Go.Proofs.Tryz.func149 (by kernel_rfl) (by kernel_rfl) (by kernel_rfl) (by kernel_rfl)
 have h27 := @run_callFunc_extern Go.Proofs.Tryz.prog 193 _ (ReflectliteType.abiMethod fun t => do pure (.int .u8 (<- Rtype.kind t))) Go.Proofs.Tryz.func193 (by kernel_rfl) (by kernel_rfl) (by kernel_rfl) (by kernel_rfl)
 have h37 := @run_callFunc_extern Go.Proofs.Tryz.prog 204 _ (ReflectliteType.method ReflectliteType.elem) Go.Proofs.Tryz.func204 (by kernel_rfl) (by kernel_rfl) (by kernel_rfl) (by kernel_rfl)
 have h38 := @run_callFunc_extern Go.Proofs.Tryz.prog 205 _ (ReflectliteType.relation "Implements" ReflectliteType.implements_) Go.Proofs.Tryz.func205 (by kernel_rfl) (by kernel_rfl) (by kernel_rfl) (by kernel_rfl)
 have h10 := @run_callFunc_extern Go.Proofs.Tryz.prog 168 _ ReflectliteType.typeOf Go.Proofs.Tryz.func168 (by kernel_rfl) (by kernel_rfl) (by kernel_rfl) (by kernel_rfl)
 have h35 := @run_callFunc_extern Go.Proofs.Tryz.prog 202 _ (ReflectliteType.relation "AssignableTo" ReflectliteType.assignableTo) Go.Proofs.Tryz.func202 (by kernel_rfl) (by kernel_rfl) (by kernel_rfl) (by kernel_rfl)
 have h11 := @run_callFunc_extern Go.Proofs.Tryz.prog 169 _ (ReflectliteValue.method (ReflectliteValue.valueError "reflectlite.Value.Elem" 0) ReflectliteValue.elem) Go.Proofs.Tryz.func169 (by kernel_rfl) (by kernel_rfl) (by kernel_rfl) (by kernel_rfl)
 have h12 := @run_callFunc_extern Go.Proofs.Tryz.prog 170 _ ReflectliteValue.set Go.Proofs.Tryz.func170 (by kernel_rfl) (by kernel_rfl) (by kernel_rfl) (by kernel_rfl)
 have tO := c5i
 have mA := a6j
 have a25 := b78
 have nE := g0c
 have uE := d11
 have vE := c9h
 have v25 := b6g
 have f6 := b6h
 have f7 := c22
 have mK := b4c
 have mE := b4b
 have mI := a7k
 have k27 := c21
 have k25 := c20
 have e27 := c2z
 have i25 := b05
 have n8 := b9z ⟨w.heap.size, 0, none⟩ t ((w.alloc (.cells #[.pointer (some t)] 161)).alloc (.cells #[.pointer (some ⟨22, 161, none⟩), .pointer (some ⟨w.heap.size, 0, none⟩), .int .u64 150] 196)) (by simp)
 have hlt : 9 < w.heap.size := by
  rcases Nat.lt_or_ge 9 w.heap.size with h | h
  ·exact h
  ·simp [World.cell?, Array.getElem?_eq_none h] at hg
 have hg2 : ((w.alloc (.cells #[.pointer (some t)] 161)).alloc (.cells #[.pointer (some ⟨22, 161, none⟩), .pointer (some ⟨w.heap.size, 0, none⟩), .int .u64 150] 196)).cell? ⟨9, 0, none⟩ = some (.iface 212 (.agg #[.pointer (some ⟨22, 35, none⟩)])) := by
  rw [World.cell?_alloc_lt _ _ ⟨9, 0, none⟩ (by simp; omega), World.cell?_alloc_lt _ _ ⟨9, 0, none⟩ hlt]; exact hg
 have htl : t.block < w.heap.size := by
  rcases Nat.lt_or_ge t.block w.heap.size with h | h
  ·exact h
  ·simp [World.cell?, Array.getElem?_eq_none h] at ht0
 have el := b9y ⟨w.heap.size, 0, none⟩ t (((w.alloc (.cells #[.pointer (some t)] 161)).alloc (.cells #[.pointer (some ⟨22, 161, none⟩), .pointer (some ⟨w.heap.size, 0, none⟩), .int .u64 150] 196)).alloc (.cells #[.pointer (some ⟨22, 161, none⟩), .pointer (some ⟨w.heap.size, 0, none⟩), .int .u64 150] 196)) (by rw [World.cell?_alloc_lt _ _ ⟨w.heap.size, 0, none⟩ (by simp; omega)]; simp)
 go_enter Go.Proofs.Tryz.func108, Go.Proofs.Tryz.ntmps108
 go_wp2
 refine wp_loop_rounds 1 ?_
 rw [rounds_succ]
 go_wp2
 go_ret
 exact ⟨rfl, rfl⟩
theorem d08 (e t : Addr) (old : Value) (w : World) (hg : w.cell? ⟨9, 0, none⟩ = some (.iface 212 (.agg #[.pointer (some ⟨22, 35, none⟩)]))) (ht0 : w.cell? t = some old) (hf0 : w.frozen? t = false) :
  Calls Go.Proofs.Tryz.prog 108 #[.iface 153 (.pointer (some e)), .iface 161 (.pointer (some t))] w fun ev w' => ev = .returned (.bool true) /\ w' = ((((w.alloc (.cells #[.pointer (some t)] 161)).alloc (.cells #[.pointer (some ⟨22, 161, none⟩), .pointer (some ⟨w.heap.size, 0, none⟩), .int .u64 150] 196)).alloc (.cells #[.pointer (some ⟨22, 161, none⟩), .pointer (some ⟨w.heap.size, 0, none⟩), .int .u64 150] 196)).alloc (.cells #[.pointer (some e)] 153)).setCell t (.pointer (some e)) := by
 have h6 := @run_callFunc_extern Go.Proofs.Tryz.prog 147 _ (fun args => ReflectliteValue.unpack (args.getD 0 (.tuple #[]))) Go.Proofs.Tryz.func147 (by kernel_rfl) (by kernel_rfl) (by kernel_rfl) (by kernel_rfl)
 have h7 := @run_callFunc_extern Go.Proofs.Tryz.prog 148 _ (ReflectliteValue.methodAny (ReflectliteValue.valueError "reflectlite.Value.Type" 0) (fun t _ _ _ => ReflectliteType.toType t)) Go.Proofs.Tryz.func148 (by kernel_rfl) (by kernel_rfl) (by kernel_rfl) (by kernel_rfl)
 have h8 := @run_callFunc_extern Go.Proofs.Tryz.prog 149 _ (ReflectliteValue.method (ReflectliteValue.valueError "reflectlite.Value.IsNil" 0) ReflectliteValue.isNil) Go.Proofs.Tryz.func149 (by kernel_rfl) (by kernel_rfl) (by kernel_rfl) (by kernel_rfl)
 have h27 := @run_callFunc_extern Go.Proofs.Tryz.prog 193 _ (ReflectliteType.abiMethod fun t => do pure (.int .u8 (<- Rtype.kind t))) Go.Proofs.Tryz.func193 (by kernel_rfl) (by kernel_rfl) (by kernel_rfl) (by kernel_rfl)
 have h37 := @run_callFunc_extern Go.Proofs.Tryz.prog 204 _ (ReflectliteType.method ReflectliteType.elem) Go.Proofs.Tryz.func204 (by kernel_rfl) (by kernel_rfl) (by kernel_rfl) (by kernel_rfl)
 have h38 := @run_callFunc_extern Go.Proofs.Tryz.prog 205 _ (ReflectliteType.relation "Implements" ReflectliteType.implements_) Go.Proofs.Tryz.func205 (by kernel_rfl) (by kernel_rfl) (by kernel_rfl) (by kernel_rfl)
 have h10 := @run_callFunc_extern Go.Proofs.Tryz.prog 168 _ ReflectliteType.typeOf Go.Proofs.Tryz.func168 (by kernel_rfl) (by kernel_rfl) (by kernel_rfl) (by kernel_rfl)
 have h35 := @run_callFunc_extern Go.Proofs.Tryz.prog 202 _ (ReflectliteType.relation "AssignableTo" ReflectliteType.assignableTo) Go.Proofs.Tryz.func202 (by kernel_rfl) (by kernel_rfl) (by kernel_rfl) (by kernel_rfl)
 have h11 := @run_callFunc_extern Go.Proofs.Tryz.prog 169 _ (ReflectliteValue.method (ReflectliteValue.valueError "reflectlite.Value.Elem" 0) ReflectliteValue.elem) Go.Proofs.Tryz.func169 (by kernel_rfl) (by kernel_rfl) (by kernel_rfl) (by kernel_rfl)
 have h12 := @run_callFunc_extern Go.Proofs.Tryz.prog 170 _ ReflectliteValue.set Go.Proofs.Tryz.func170 (by kernel_rfl) (by kernel_rfl) (by kernel_rfl) (by kernel_rfl)
 have tO := c5h
 have mA := a6j
 have a25 := b77
 have v25 := b6g
 have f6 := b6h
 have f7 := c22
 have mK := b4c
 have mE := b4b
 have mI := a7k
 have k27 := c21
 have k25 := c20
 have e27 := c2z
 have i25 := b05
 have n8 := b9z ⟨w.heap.size, 0, none⟩ t ((w.alloc (.cells #[.pointer (some t)] 161)).alloc (.cells #[.pointer (some ⟨22, 161, none⟩), .pointer (some ⟨w.heap.size, 0, none⟩), .int .u64 150] 196)) (by simp)
 have hlt : 9 < w.heap.size := by
  rcases Nat.lt_or_ge 9 w.heap.size with h | h
  ·exact h
  ·simp [World.cell?, Array.getElem?_eq_none h] at hg
 have hg2 : ((w.alloc (.cells #[.pointer (some t)] 161)).alloc (.cells #[.pointer (some ⟨22, 161, none⟩), .pointer (some ⟨w.heap.size, 0, none⟩), .int .u64 150] 196)).cell? ⟨9, 0, none⟩ = some (.iface 212 (.agg #[.pointer (some ⟨22, 35, none⟩)])) := by
  rw [World.cell?_alloc_lt _ _ ⟨9, 0, none⟩ (by simp; omega), World.cell?_alloc_lt _ _ ⟨9, 0, none⟩ hlt]; exact hg
 have htl : t.block < w.heap.size := by
  rcases Nat.lt_or_ge t.block w.heap.size with h | h
  ·exact h
  ·simp [World.cell?, Array.getElem?_eq_none h] at ht0
 have el := b9y ⟨w.heap.size, 0, none⟩ t (((w.alloc (.cells #[.pointer (some t)] 161)).alloc (.cells #[.pointer (some ⟨22, 161, none⟩), .pointer (some ⟨w.heap.size, 0, none⟩), .int .u64 150] 196)).alloc (.cells #[.pointer (some ⟨22, 161, none⟩), .pointer (some ⟨w.heap.size, 0, none⟩), .int .u64 150] 196)) (by rw [World.cell?_alloc_lt _ _ ⟨w.heap.size, 0, none⟩ (by simp; omega)]; simp)
 have st := d32 t ⟨w.heap.size + 1 + 1 + 1, 0, none⟩ e old ((((w.alloc (.cells #[.pointer (some t)] 161)).alloc (.cells #[.pointer (some ⟨22, 161, none⟩), .pointer (some ⟨w.heap.size, 0, none⟩), .int .u64 150] 196)).alloc (.cells #[.pointer (some ⟨22, 161, none⟩), .pointer (some ⟨w.heap.size, 0, none⟩), .int .u64 150] 196)).alloc (.cells #[.pointer (some e)] 153))
  (by rw [World.cell?_alloc_at _ _ _ _ (by simp)]; rfl)
  (by rw [World.cell?_alloc_lt _ _ t (by simp; omega), World.cell?_alloc_lt _ _ t (by simp; omega), World.cell?_alloc_lt _ _ t (by simp; omega), World.cell?_alloc_lt _ _ t htl]; exact ht0)
  (by rw [World.frozen?_alloc_old _ _ t (by simp; omega), World.frozen?_alloc_old _ _ t (by simp; omega), World.frozen?_alloc_old _ _ t (by simp; omega), World.frozen?_alloc_old _ _ t (Nat.ne_of_lt htl)]; exact hf0)
 go_enter Go.Proofs.Tryz.func108, Go.Proofs.Tryz.ntmps108
 go_wp2
 refine wp_loop_rounds 1 ?_
 rw [rounds_succ]
 go_wp2
 go_ret
 exact ⟨rfl, rfl⟩
end Go.Ideal.Tryz
end
