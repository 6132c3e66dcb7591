/- Part Qaq of the proof: a machine with trees for values, its soundness, and walks on it. -/
import Derived.Test.YtfncabcldhemkaaDoorProg
import Derived.WalkKit
import Derived.LaidEql
import Derived.Stop.Asserts
import Derived.RowKitTokens
import Derived.Test.YtfncabcldhemkaaDoorQam
set_option linter.unusedVariables false
set_option linter.unusedSimpArgs false
set_option maxHeartbeats 4000000
set_option maxRecDepth 100000
section
namespace Go.Ideal.Tryd
open Go.RowKit Go.Extern.Stop Go.Stop Go.Extern Go.Proofs
theorem b04 (t : Addr) (w : World) : (ReflectliteValue.unpack (.iface 119 (.pointer (some t)))).run Go.Proofs.Tryd.prog w
  = .ok (.agg #[.pointer (some ⟨22, 119, none⟩), .pointer (some ⟨w.heap.size, 0, none⟩), .int .u64 150]) (w.alloc (.cells #[.pointer (some t)] 119)) := by kernel_rfl
theorem b7f (a : Addr) (w : World) : (ReflectliteValue.methodAny (ReflectliteValue.valueError "reflectlite.Value.Type" 0) (fun t _ _ _ => ReflectliteType.toType t) #[.agg #[.pointer (some ⟨22, 119, none⟩), .pointer (some a), .int .u64 150]]).run Go.Proofs.Tryd.prog w
  = .ok (.iface 170 (.agg #[.pointer (some ⟨22, 119, none⟩)])) w := by kernel_rfl
theorem a9m (h : Value) (w : World) : (Go.method 320 170 (.agg #[h]) "Kind").run Go.Proofs.Tryd.prog w = .ok (133, h) w := by kernel_rfl
theorem b7e (w : World) : ((ReflectliteType.abiMethod fun t => (fun a : Nat => Value.int IntKind.u8 (a : Int)) <$> Rtype.kind t) #[.pointer (some ⟨22, 119, none⟩)]).run Go.Proofs.Tryd.prog w = .ok (.int .u8 22) w := by kernel_rfl
theorem b7d (w : World) : ((ReflectliteType.abiMethod fun t => (fun a : Nat => Value.int IntKind.u8 (a : Int)) <$> Rtype.kind t) #[.pointer (some ⟨22, 110, none⟩)]).run Go.Proofs.Tryd.prog w = .ok (.int .u8 22) w := by kernel_rfl
theorem c99 (z : Sem Value) (f : TypeId -> Addr -> Nat -> Nat -> Sem Value) (v : Value) :
  ReflectliteValue.method z f #[v] = (do match <- ReflectliteValue.parts v with | none => z | some (t, a, fl) => f t a fl (fl % 32)) := rfl
theorem b4h (a : Addr) (w : World) : (ReflectliteValue.parts (.agg #[.pointer (some ⟨22, 119, none⟩), .pointer (some a), .int .u64 150])).run Go.Proofs.Tryd.prog w = .ok (some (119, a, 150)) w := by kernel_rfl
theorem b4g (a p : Addr) (W : World) (ha : W.cell? a = some (.pointer (some p))) :
  (ReflectliteValue.method (ReflectliteValue.valueError "reflectlite.Value.IsNil" 0) ReflectliteValue.isNil #[.agg #[.pointer (some ⟨22, 119, none⟩), .pointer (some a), .int .u64 150]]).run Go.Proofs.Tryd.prog W = .ok (.bool false) W := by
 rw [c99]
 simp only [Sem.run_bind, b4h, Result.andThen]
 simp [ReflectliteValue.isNil, loadVar, isAgg, underlying, Go.Proofs.Tryd.underlying119, ha, Result.andThen]
theorem a9l (h : Value) (w : World) : (Go.method 320 170 (.agg #[h]) "Elem").run Go.Proofs.Tryd.prog w = .ok (144, .agg #[h]) w := by kernel_rfl
theorem a5f (h : Value) (w : World) : (Go.method 320 170 (.agg #[h]) "Implements").run Go.Proofs.Tryd.prog w = .ok (145, .agg #[h]) w := by kernel_rfl
theorem a4l (h : Value) (w : World) : (Go.method 320 170 (.agg #[h]) "AssignableTo").run Go.Proofs.Tryd.prog w = .ok (142, .agg #[h]) w := by kernel_rfl
theorem b7c (w : World) : (ReflectliteType.method ReflectliteType.elem #[.agg #[.pointer (some ⟨22, 119, none⟩)]]).run Go.Proofs.Tryd.prog w = .ok (.iface 170 (.agg #[.pointer (some ⟨22, 110, none⟩)])) w := by kernel_rfl
theorem a7o (w : World) : (ReflectliteType.relation "Implements" ReflectliteType.implements_ #[.agg #[.pointer (some ⟨22, 110, none⟩)], .iface 170 (.agg #[.pointer (some ⟨22, 45, none⟩)])]).run Go.Proofs.Tryd.prog w = .ok (.bool true) w := by kernel_rfl
theorem b9x (v : Value) (w : World) : (ReflectliteType.typeOf #[.iface 110 v]).run Go.Proofs.Tryd.prog w = .ok (.iface 170 (.agg #[.pointer (some ⟨22, 110, none⟩)])) w := by kernel_rfl
theorem b2a (w : World) : (ReflectliteType.relation "AssignableTo" ReflectliteType.assignableTo #[.agg #[.pointer (some ⟨22, 110, none⟩)], .iface 170 (.agg #[.pointer (some ⟨22, 110, none⟩)])]).run Go.Proofs.Tryd.prog w = .ok (.bool true) w := by kernel_rfl
theorem b03 (e : Addr) (w : World) : (ReflectliteValue.unpack (.iface 110 (.pointer (some e)))).run Go.Proofs.Tryd.prog w
  = .ok (.agg #[.pointer (some ⟨22, 110, none⟩), .pointer (some ⟨w.heap.size, 0, none⟩), .int .u64 150]) (w.alloc (.cells #[.pointer (some e)] 110)) := by kernel_rfl
theorem b9v (w : World) : (Rtype.elem? 119).run Go.Proofs.Tryd.prog w = .ok (some 110) w := by kernel_rfl
theorem d05 (p : Addr) (w : World) : (ReflectliteValue.mk 110 p ReflectliteValue.flagAddr).run Go.Proofs.Tryd.prog w = .ok (.agg #[.pointer (some ⟨22, 110, none⟩), .pointer (some p), .int .u64 406]) w := by kernel_rfl
theorem b4f (a p : Addr) (W : World) (ha : W.cell? a = some (.pointer (some p))) :
  (ReflectliteValue.method (ReflectliteValue.valueError "reflectlite.Value.Elem" 0) ReflectliteValue.elem #[.agg #[.pointer (some ⟨22, 119, none⟩), .pointer (some a), .int .u64 150]]).run Go.Proofs.Tryd.prog W
   = .ok (.agg #[.pointer (some ⟨22, 110, none⟩), .pointer (some p), .int .u64 406]) W := by
 rw [c99]
 simp only [Sem.run_bind, b4h, Result.andThen]
 simp [ReflectliteValue.elem, loadVar, isAgg, underlying, Go.Proofs.Tryd.underlying119, ha, Result.andThen, b9v, d05]
theorem d7u (v x : Value) : ReflectliteValue.set #[v, x] = (do
  let (some (dst, a, fl), some (src, b, _)) := (<- ReflectliteValue.parts v, <- ReflectliteValue.parts x)
   | unsupported (.noEntry "extern/(internal/reflectlite.Value).Set.zeroValue")
  if fl / ReflectliteValue.flagAddr % 2 == 0 then unsupported (.noEntry "extern/(internal/reflectlite.Value).Set.unaddressable")
  let val <- loadVar src b
  if <- Rtype.directlyAssignable dst src then storeVar dst a val
  else if <- Rtype.implements dst src then
   if (<- Rtype.kind src) == 20 then
    match val with
    | .nilIface => unsupported (.noEntry "extern/reflectlite: a nil value of one interface type handed on as a value of another")
    | _ => storeVar dst a val
   else storeVar dst a (.iface src val)
  else panicString ("reflectlite.Set: value of type " ++ (<- Rtype.spelt src) ++ " is not assignable to type " ++ (<- Rtype.spelt dst))
  pure (.tuple #[])) := rfl
theorem b9w (a : Addr) (w : World) : (ReflectliteValue.parts (.agg #[.pointer (some ⟨22, 110, none⟩), .pointer (some a), .int .u64 406])).run Go.Proofs.Tryd.prog w = .ok (some (110, a, 406)) w := by kernel_rfl
theorem c2q (a : Addr) (w : World) : (ReflectliteValue.parts (.agg #[.pointer (some ⟨22, 110, none⟩), .pointer (some a), .int .u64 150])).run Go.Proofs.Tryd.prog w = .ok (some (110, a, 150)) w := by kernel_rfl
theorem b9u (w : World) : (Rtype.directlyAssignable 110 110).run Go.Proofs.Tryd.prog w = .ok true w := by kernel_rfl
theorem c7u (ta b e : Addr) (old : Value) (W : World) (hb : W.cell? b = some (.pointer (some e))) (ht : W.cell? ta = some old) (hf : W.frozen? ta = false) :
  (ReflectliteValue.set #[.agg #[.pointer (some ⟨22, 110, none⟩), .pointer (some ta), .int .u64 406], .agg #[.pointer (some ⟨22, 110, none⟩), .pointer (some b), .int .u64 150]]).run Go.Proofs.Tryd.prog W
   = .ok (.tuple #[]) (W.setCell ta (.pointer (some e))) := by
 rw [d7u]
 simp only [Sem.run_bind, b9w, c2q, Result.andThen]
 simp [ReflectliteValue.flagAddr, loadVar, isAgg, underlying, Go.Proofs.Tryd.underlying110, hb, Result.andThen, b9u, storeVar, Value.cells, storeCells, Addr.add]
 rw [run_store Go.Proofs.Tryd.prog W ta _ _ (by rfl)]
 simp [ht, hf]
theorem b9y (v : Value) (w : World) : (ReflectliteType.typeOf #[.iface 186 v]).run Go.Proofs.Tryd.prog w = .ok (.iface 170 (.agg #[.pointer (some ⟨22, 186, none⟩)])) w := by kernel_rfl
theorem b2b (w : World) : (ReflectliteType.relation "AssignableTo" ReflectliteType.assignableTo #[.agg #[.pointer (some ⟨22, 186, none⟩)], .iface 170 (.agg #[.pointer (some ⟨22, 110, none⟩)])]).run Go.Proofs.Tryd.prog w = .ok (.bool false) w := by kernel_rfl
theorem f21 (v : Value) (xT : TypeId) (w : World) : (Instr.typeAssert (.iface 186 v) xT 175 true).run Go.Proofs.Tryd.prog w = .ok (.tuple #[.nilIface, .bool false]) w := run_typeAssert_lacksB Go.Proofs.Tryd.underlying175 (by kernel_rfl) (by kernel_rfl) v xT w
theorem c5z (v : Value) (xT : TypeId) (w : World) : (Instr.typeAssert (.iface 186 v) xT 178 true).run Go.Proofs.Tryd.prog w = .ok (.tuple #[.nilIface, .bool false]) w := run_typeAssert_lacksB Go.Proofs.Tryd.underlying178 (by kernel_rfl) (by kernel_rfl) v xT w
theorem c3l (v : Value) (xT : TypeId) (w : World) : (Instr.typeAssert (.iface 186 v) xT 180 true).run Go.Proofs.Tryd.prog w = .ok (.tuple #[.nilIface, .bool false]) w := run_typeAssert_lacksB Go.Proofs.Tryd.underlying180 (by kernel_rfl) (by kernel_rfl) v xT w
theorem c23 (e t : Addr) (old : Value) (w : World) (hg : w.cell? ⟨8, 0, none⟩ = some (.iface 170 (.agg #[.pointer (some ⟨22, 45, none⟩)]))) (ht0 : w.cell? t = some old) (hf0 : w.frozen? t = false) :
  Calls Go.Proofs.Tryd.prog 61 #[.iface 186 (.pointer (some e)), .iface 119 (.pointer (some t))] w fun ev w' => ev = .returned (.bool false) /\ w' = (((w.alloc (.cells #[.pointer (some t)] 119)).alloc (.cells #[.pointer (some ⟨22, 119, none⟩), .pointer (some ⟨w.heap.size, 0, none⟩), .int .u64 150] 143)).alloc (.cells #[.pointer (some ⟨22, 119, none⟩), .pointer (some ⟨w.heap.size, 0, none⟩), .int .u64 150] 143)) := by
 have h6 := @run_callFunc_extern Go.Proofs.Tryd.prog 81 _ (fun args => ReflectliteValue.unpack (args.getD 0 (.tuple #[]))) Go.Proofs.Tryd.func81 (by kernel_rfl) (by kernel_rfl) (by kernel_rfl) (by kernel_rfl)
 have h7 := @run_callFunc_extern Go.Proofs.Tryd.prog 82 _ (ReflectliteValue.methodAny (ReflectliteValue.valueError "reflectlite.Value.Type" 0) (fun t _ _ _ => ReflectliteType.toType t)) Go.Proofs.Tryd.func82 (by kernel_rfl) (by kernel_rfl) (by kernel_rfl) (by kernel_rfl)
 have h8 := @run_callFunc_extern Go.Proofs.Tryd.prog 83 _ (ReflectliteValue.method (ReflectliteValue.valueError "reflectlite.Value.IsNil" 0) ReflectliteValue.isNil) Go.Proofs.Tryd.func83 (by kernel_rfl) (by kernel_rfl) (by kernel_rfl) (by kernel_rfl)
 have h27 := @run_callFunc_extern Go.Proofs.Tryd.prog 133 _ (ReflectliteType.abiMethod fun t => do pure (.int .u8 (<- Rtype.kind t))) Go.Proofs.Tryd.func133 (by kernel_rfl) (by kernel_rfl) (by kernel_rfl) (by kernel_rfl)
 have h37 := @run_callFunc_extern Go.Proofs.Tryd.prog 144 _ (ReflectliteType.method ReflectliteType.elem) Go.Proofs.Tryd.func144 (by kernel_rfl) (by kernel_rfl) (by kernel_rfl) (by kernel_rfl)
 have h38 := @run_callFunc_extern Go.Proofs.Tryd.prog 145 _ (ReflectliteType.relation "Implements" ReflectliteType.implements_) Go.Proofs.Tryd.func145 (by kernel_rfl) (by kernel_rfl) (by kernel_rfl) (by kernel_rfl)
 have h10 := @run_callFunc_extern Go.Proofs.Tryd.prog 109 _ ReflectliteType.typeOf Go.Proofs.Tryd.func109 (by kernel_rfl) (by kernel_rfl) (by kernel_rfl) (by kernel_rfl)
 have h35 := @run_callFunc_extern Go.Proofs.Tryd.prog 142 _ (ReflectliteType.relation "AssignableTo" ReflectliteType.assignableTo) Go.Proofs.Tryd.func142 (by kernel_rfl) (by kernel_rfl) (by kernel_rfl) (by kernel_rfl)
 have h11 := @run_callFunc_extern Go.Proofs.Tryd.prog 110 _ (ReflectliteValue.method (ReflectliteValue.valueError "reflectlite.Value.Elem" 0) ReflectliteValue.elem) Go.Proofs.Tryd.func110 (by kernel_rfl) (by kernel_rfl) (by kernel_rfl) (by kernel_rfl)
 have h12 := @run_callFunc_extern Go.Proofs.Tryd.prog 111 _ ReflectliteValue.set Go.Proofs.Tryd.func111 (by kernel_rfl) (by kernel_rfl) (by kernel_rfl) (by kernel_rfl)
 have tO := b9y
 have mA := a4l
 have a25 := b2b
 have nE := f21
 have uE := c5z
 have vE := c3l
 have v25 := b03
 have f6 := b04
 have f7 := b7f
 have mK := a9m
 have mE := a9l
 have mI := a5f
 have k27 := b7e
 have k25 := b7d
 have e27 := b7c
 have i25 := a7o
 have n8 := b4g ⟨w.heap.size, 0, none⟩ t ((w.alloc (.cells #[.pointer (some t)] 119)).alloc (.cells #[.pointer (some ⟨22, 119, none⟩), .pointer (some ⟨w.heap.size, 0, none⟩), .int .u64 150] 143)) (by simp)
 have hlt : 8 < w.heap.size := by
  rcases Nat.lt_or_ge 8 w.heap.size with h | h
  ·exact h
  ·simp [World.cell?, Array.getElem?_eq_none h] at hg
 have hg2 : ((w.alloc (.cells #[.pointer (some t)] 119)).alloc (.cells #[.pointer (some ⟨22, 119, none⟩), .pointer (some ⟨w.heap.size, 0, none⟩), .int .u64 150] 143)).cell? ⟨8, 0, none⟩ = some (.iface 170 (.agg #[.pointer (some ⟨22, 45, none⟩)])) := by
  rw [World.cell?_alloc_lt _ _ ⟨8, 0, none⟩ (by simp; omega), World.cell?_alloc_lt _ _ ⟨8, 0, none⟩ hlt]; exact hg
 have htl : t.block < w.heap.size := by
  rcases Nat.lt_or_ge t.block w.heap.size with h | h
  ·exact h
  ·simp [World.cell?, Array.getElem?_eq_none h] at ht0
 have el := b4f ⟨w.heap.size, 0, none⟩ t (((w.alloc (.cells #[.pointer (some t)] 119)).alloc (.cells #[.pointer (some ⟨22, 119, none⟩), .pointer (some ⟨w.heap.size, 0, none⟩), .int .u64 150] 143)).alloc (.cells #[.pointer (some ⟨22, 119, none⟩), .pointer (some ⟨w.heap.size, 0, none⟩), .int .u64 150] 143)) (by rw [World.cell?_alloc_lt _ _ ⟨w.heap.size, 0, none⟩ (by simp; omega)]; simp)
 go_enter Go.Proofs.Tryd.func61, Go.Proofs.Tryd.ntmps61
 go_wp2
 refine wp_loop_rounds 1 ?_
 rw [rounds_succ]
 go_wp2
 go_ret
 exact ⟨rfl, rfl⟩
theorem c41 (e t : Addr) (old : Value) (w : World) (hg : w.cell? ⟨8, 0, none⟩ = some (.iface 170 (.agg #[.pointer (some ⟨22, 45, none⟩)]))) (ht0 : w.cell? t = some old) (hf0 : w.frozen? t = false) :
  Calls Go.Proofs.Tryd.prog 61 #[.iface 110 (.pointer (some e)), .iface 119 (.pointer (some t))] w fun ev w' => ev = .returned (.bool true) /\ w' = ((((w.alloc (.cells #[.pointer (some t)] 119)).alloc (.cells #[.pointer (some ⟨22, 119, none⟩), .pointer (some ⟨w.heap.size, 0, none⟩), .int .u64 150] 143)).alloc (.cells #[.pointer (some ⟨22, 119, none⟩), .pointer (some ⟨w.heap.size, 0, none⟩), .int .u64 150] 143)).alloc (.cells #[.pointer (some e)] 110)).setCell t (.pointer (some e)) := by
 have h6 := @run_callFunc_extern Go.Proofs.Tryd.prog 81 _ (fun args => ReflectliteValue.unpack (args.getD 0 (.tuple #[]))) Go.Proofs.Tryd.func81 (by kernel_rfl) (by kernel_rfl) (by kernel_rfl) (by kernel_rfl)
 have h7 := @run_callFunc_extern Go.Proofs.Tryd.prog 82 _ (ReflectliteValue.methodAny (ReflectliteValue.valueError "reflectlite.Value.Type" 0) (fun t _ _ _ => ReflectliteType.toType t)) Go.Proofs.Tryd.func82 (by kernel_rfl) (by kernel_rfl) (by kernel_rfl) (by kernel_rfl)
 have h8 := @run_callFunc_extern Go.Proofs.Tryd.prog 83 _ (ReflectliteValue.method (ReflectliteValue.valueError "reflectlite.Value.IsNil" 0) ReflectliteValue.isNil) Go.Proofs.Tryd.func83 (by kernel_rfl) (by kernel_rfl) (by kernel_rfl) (by kernel_rfl)
 have h27 := @run_callFunc_extern Go.Proofs.Tryd.prog 133 _ (ReflectliteType.abiMethod fun t => do pure (.int .u8 (<- Rtype.kind t))) Go.Proofs.Tryd.func133 (by kernel_rfl) (by kernel_rfl) (by kernel_rfl) (by kernel_rfl)
 have h37 := @run_callFunc_extern Go.Proofs.Tryd.prog 144 _ (ReflectliteType.method ReflectliteType.elem) Go.Proofs.Tryd.func144 (by kernel_rfl) (by kernel_rfl) (by kernel_rfl) (by kernel_rfl)
 have h38 := @run_callFunc_extern Go.Proofs.Tryd.prog 145 _ (ReflectliteType.relation "Implements" ReflectliteType.implements_) Go.Proofs.Tryd.func145 (by kernel_rfl) (by kernel_rfl) (by kernel_rfl) (by kernel_rfl)
 have h10 := @run_callFunc_extern Go.Proofs.Tryd.prog 109 _ ReflectliteType.typeOf Go.Proofs.Tryd.func109 (by kernel_rfl) (by kernel_rfl) (by kernel_rfl) (by kernel_rfl)
 have h35 := @run_callFunc_extern Go.Proofs.Tryd.prog 142 _ (ReflectliteType.relation "AssignableTo" ReflectliteType.assignableTo) Go.Proofs.Tryd.func142 (by kernel_rfl) (by kernel_rfl) (by kernel_rfl) (by kernel_rfl)
 have h11 := @run_callFunc_extern Go.Proofs.Tryd.prog 110 _ (ReflectliteValue.method (ReflectliteValue.valueError "reflectlite.Value.Elem" 0) ReflectliteValue.elem) Go.Proofs.Tryd.func110 (by kernel_rfl) (by kernel_rfl) (by kernel_rfl) (by kernel_rfl)
 have h12 := @run_callFunc_extern Go.Proofs.Tryd.prog 111 _ ReflectliteValue.set Go.Proofs.Tryd.func111 (by kernel_rfl) (by kernel_rfl) (by kernel_rfl) (by kernel_rfl)
 have tO := b9x
 have mA := a4l
 have a25 := b2a
 have v25 := b03
 have f6 := b04
 have f7 := b7f
 have mK := a9m
 have mE := a9l
 have mI := a5f
 have k27 := b7e
 have k25 := b7d
 have e27 := b7c
 have i25 := a7o
 have n8 := b4g ⟨w.heap.size, 0, none⟩ t ((w.alloc (.cells #[.pointer (some t)] 119)).alloc (.cells #[.pointer (some ⟨22, 119, none⟩), .pointer (some ⟨w.heap.size, 0, none⟩), .int .u64 150] 143)) (by simp)
 have hlt : 8 < w.heap.size := by
  rcases Nat.lt_or_ge 8 w.heap.size with h | h
  ·exact h
  ·simp [World.cell?, Array.getElem?_eq_none h] at hg
 have hg2 : ((w.alloc (.cells #[.pointer (some t)] 119)).alloc (.cells #[.pointer (some ⟨22, 119, none⟩), .pointer (some ⟨w.heap.size, 0, none⟩), .int .u64 150] 143)).cell? ⟨8, 0, none⟩ = some (.iface 170 (.agg #[.pointer (some ⟨22, 45, none⟩)])) := by
  rw [World.cell?_alloc_lt _ _ ⟨8, 0, none⟩ (by simp; omega), World.cell?_alloc_lt _ _ ⟨8, 0, none⟩ hlt]; exact hg
 have htl : t.block < w.heap.size := by
  rcases Nat.lt_or_ge t.block w.heap.size with h | h
  ·exact h
  ·simp [World.cell?, Array.getElem?_eq_none h] at ht0
 have el := b4f ⟨w.heap.size, 0, none⟩ t (((w.alloc (.cells #[.pointer (some t)] 119)).alloc (.cells #[.pointer (some ⟨22, 119, none⟩), .pointer (some ⟨w.heap.size, 0, none⟩), .int .u64 150] 143)).alloc (.cells #[.pointer (some ⟨22, 119, none⟩), .pointer (some ⟨w.heap.size, 0, none⟩), .int .u64 150] 143)) (by rw [World.cell?_alloc_lt _ _ ⟨w.heap.size, 0, none⟩ (by simp; omega)]; simp)
 have st := c7u t ⟨w.heap.size + 1 + 1 + 1, 0, none⟩ e old ((((w.alloc (.cells #[.pointer (some t)] 119)).alloc (.cells #[.pointer (some ⟨22, 119, none⟩), .pointer (some ⟨w.heap.size, 0, none⟩), .int .u64 150] 143)).alloc (.cells #[.pointer (some ⟨22, 119, none⟩), .pointer (some ⟨w.heap.size, 0, none⟩), .int .u64 150] 143)).alloc (.cells #[.pointer (some e)] 110))
  (by rw [World.cell?_alloc_at _ _ _ _ (by simp)]; rfl)
  (by rw [World.cell?_alloc_lt _ _ t (by simp; omega), World.cell?_alloc_lt _ _ t (by simp; omega), World.cell?_alloc_lt _ _ t (by simp; omega), World.cell?_alloc_lt _ _ t htl]; exact ht0)
  (by rw [World.frozen?_alloc_old _ _ t (by simp; omega), World.frozen?_alloc_old _ _ t (by simp; omega), World.frozen?_alloc_old _ _ t (by simp; omega), World.frozen?_alloc_old _ _ t (Nat.ne_of_lt htl)]; exact hf0)
 go_enter Go.Proofs.Tryd.func61, Go.Proofs.Tryd.ntmps61
 go_wp2
 refine wp_loop_rounds 1 ?_
 rw [rounds_succ]
 go_wp2
 go_ret
 exact ⟨rfl, rfl⟩
end Go.Ideal.Tryd
end
section
namespace Go.Ideal.Tryd
open Go.RowKit Go.Extern.Stop Go.Stop Go.Extern Go.Proofs
abbrev hnd : Value := .iface 170 (.agg #[.pointer (some ⟨22, 45, none⟩)])
theorem c0q {w : World} {a : Addr} {v : Value} (h : w.cell? a = some v) : a.block < w.heap.size := by
 rcases Nat.lt_or_ge a.block w.heap.size with h1 | h1
 ·exact h1
 ·simp [World.cell?, Array.getElem?_eq_none h1] at h
theorem a1d {w : World} {o : Obj} : (w.alloc o).heap.size = w.heap.size + 1 := Array.size_push _
theorem b9s (k : Int) (a : Addr) (w : World) (hg : w.cell? ⟨8, 0, none⟩ = some hnd) :
  Calls Go.Proofs.Tryd.prog 39 #[.int .i64 k, .iface 186 (.pointer (some a))] w fun ev w' => ∃ b o1 o2 o3 t, w' = ((((w.alloc (.cells #[.pointer none] 110)).alloc o1).alloc o2).alloc o3).alloc (.cells #[.int .i64 k, .iface 186 (.pointer (some a))] t) /\ b = w.heap.size + 1 + 1 + 1 + 1 /\ ev = .returned (.iface 110 (.pointer (some ⟨b, 0, none⟩))) := by
 have hlt : 8 < w.heap.size := c0q hg
 have hgA : (w.alloc (.cells #[.pointer none] 110)).cell? ⟨8, 0, none⟩ = some hnd := by
  rw [World.cell?_alloc_lt _ _ ⟨8, 0, none⟩ hlt]; exact hg
 have htA : (w.alloc (.cells #[.pointer none] 110)).cell? ⟨w.heap.size, 0, none⟩ = some (.pointer none) := by simp
 have hfA : (w.alloc (.cells #[.pointer none] 110)).frozen? ⟨w.heap.size, 0, none⟩ = false := by simp
 go_enter Go.Proofs.Tryd.func39, Go.Proofs.Tryd.ntmps39
 go_wp2_with (go_at_call 61; refine (c23 _ _ (.pointer none) _ hgA htA hfA).mono ?_; rintro e w' ⟨rfl, rfl⟩)
 go_ret
 exact ⟨_, _, _, _, _, rfl, rfl, rfl⟩
theorem c2p (k : Int) (eb eo : Nat) (xa : Addr) (w : World) (hg : w.cell? ⟨8, 0, none⟩ = some hnd) (he : w.cell? ⟨eb, eo + 1, none⟩ = some (.iface 186 (.pointer (some xa)))) :
  Calls Go.Proofs.Tryd.prog 39 #[.int .i64 k, .iface 110 (.pointer (some ⟨eb, eo, none⟩))] w fun ev w' => ∃ b o0 o1 o2 o3 o4 t, w' = (((((w.alloc o0).alloc o1).alloc o2).alloc o3).alloc o4).alloc (.cells #[.int .i64 k, .iface 186 (.pointer (some xa))] t) /\ b = w.heap.size + 1 + 1 + 1 + 1 + 1 /\ ev = .returned (.iface 110 (.pointer (some ⟨b, 0, none⟩))) := by
 have hlt : 8 < w.heap.size := c0q hg
 have hle : eb < w.heap.size := c0q he
 have hgA : (w.alloc (.cells #[.pointer none] 110)).cell? ⟨8, 0, none⟩ = some hnd := by
  rw [World.cell?_alloc_lt _ _ ⟨8, 0, none⟩ hlt]; exact hg
 have htA : (w.alloc (.cells #[.pointer none] 110)).cell? ⟨w.heap.size, 0, none⟩ = some (.pointer none) := by simp
 have hfA : (w.alloc (.cells #[.pointer none] 110)).frozen? ⟨w.heap.size, 0, none⟩ = false := by simp
 have hx : ∀ o0 o1 o2 o3 o4, (((((w.alloc o0).alloc o1).alloc o2).alloc o3).alloc o4).cell? ⟨eb, eo + 1, none⟩ = some (.iface 186 (.pointer (some xa))) := fun o0 o1 o2 o3 o4 => by
  rw [World.cell?_alloc_lt _ _ ⟨eb, eo + 1, none⟩ (by simp only [a1d]; omega), World.cell?_alloc_lt _ _ ⟨eb, eo + 1, none⟩ (by simp only [a1d]; omega), World.cell?_alloc_lt _ _ ⟨eb, eo + 1, none⟩ (by simp only [a1d]; omega), World.cell?_alloc_lt _ _ ⟨eb, eo + 1, none⟩ (by simp only [a1d]; omega), World.cell?_alloc_lt _ _ ⟨eb, eo + 1, none⟩ hle]; exact he
 go_enter Go.Proofs.Tryd.func39, Go.Proofs.Tryd.ntmps39
 go_wp2_with (go_at_call 61; refine (c41 _ _ (.pointer none) _ hgA htA hfA).mono ?_; rintro e w' ⟨rfl, rfl⟩)
 go_ret
 exact ⟨_, _, _, _, _, _, _, rfl, rfl, rfl⟩
theorem a15 {w : World} {o : Obj} {b : Nat} (h : b < w.heap.size) : (w.alloc o).heap[b]? = w.heap[b]? := by
 show (w.heap.push o)[b]? = _
 rw [Array.getElem?_push, if_neg (Nat.ne_of_lt h)]
theorem b4e {G : GG} {bk : Nat -> Nat × Nat} {w w' W : World} {A Fa : BS} {k : Int} {g t : Nat} (hw : w' = W.alloc (.cells #[.int .i64 k, .iface c3w (.pointer (some ⟨(bk g).1, (bk g).2, none⟩))] t)) (h1 : w.heap.size <= W.heap.size) (h2 : W.os = w.os) (h3 : W.tape = w.tape) (h4 : W.output = w.output) (h5 : ∀ b, b < w.heap.size -> W.heap[b]? = w.heap[b]?) :
  Ret w A Fa w' (a0v bk (.at k (.s g))) (.iface f5c (.pointer (some ⟨W.heap.size, 0, none⟩))) := by
 subst hw
 refine ⟨by rw [a1d]; omega, h2, h3, h4, fun b hb _ => by rw [a15 (by omega)]; exact h5 b hb, noB, fun _ h => h.elim, ?_⟩
 simp only [a0v, R]
 refine ⟨_, rfl, W.heap.size, 0, [.int .i64 k, .iface c3w (.pointer (some ⟨(bk g).1, (bk g).2, none⟩))], rfl, ⟨by rw [a1d]; omega, fun h => h, .inr (.inr h1)⟩, fun u hu => ?_, ?_, fun i u hu => ?_⟩
 ·simp at hu
  rcases hu with rfl | rfl <;> rfl
 ·simp only [RL, R]
  exact ⟨_, _, rfl, noB, noB, fun _ h => h, fun _ h => h, fun _ h => h.elim, rfl, _, _, rfl, noB, noB, fun _ h => h, fun _ h => h, fun _ h => h.elim, rfl, rfl⟩
 ·rw [Nat.zero_add]
  have e : ∀ j, (W.alloc (.cells #[.int .i64 k, .iface c3w (.pointer (some ⟨(bk g).1, (bk g).2, none⟩))] t)).cell? ⟨W.heap.size, j, none⟩ = #[.int .i64 k, .iface c3w (.pointer (some ⟨(bk g).1, (bk g).2, none⟩))][j]? := fun j => by
   have : (W.alloc (.cells #[.int .i64 k, .iface c3w (.pointer (some ⟨(bk g).1, (bk g).2, none⟩))] t)).heap[W.heap.size]? = some (.cells #[.int .i64 k, .iface c3w (.pointer (some ⟨(bk g).1, (bk g).2, none⟩))] t) := by
    show (W.heap.push _)[W.heap.size]? = _
    rw [Array.getElem?_push, if_pos rfl]
   simp only [World.cell?, this, Option.isSome_none, Bool.false_eq_true, if_false]
  rw [e]
  rcases i with _ | _ | i
  ·exact hu
  ·exact hu
  ·simp at hu
theorem b7b {G : GG} {bk : Nat -> Nat × Nat} (hh : G.hs = [(8, hnd)]) : Around G bk := by
 have key : ∀ {w : World}, (∀ g v, G.at g v -> GC G w g v /\ g < w.heap.size) -> w.cell? ⟨8, 0, none⟩ = some hnd := fun h => by
  obtain ⟨⟨c, t, fz, h1, h2, _⟩, _⟩ := h 8 hnd (.inr (by rw [hh]; simp))
  simpa [World.cell?, h1] using h2
 constructor
 ·intro k g hg w args A ow hsz hA how hG hpre
  obtain ⟨l⟩ := args
  match l, hsz with
  | [x, y], _ =>
   have h0 := hpre 0 _ rfl
   have h1 := hpre 1 _ rfl
   rw [show (Array.mk [x, y]).getD 0 undef = x from rfl] at h0
   rw [show (Array.mk [x, y]).getD 1 undef = y from rfl] at h1
   simp only [a0v, R] at h0 h1
   subst h0 h1
   refine (b9s k _ w (key fun g v h => ⟨(hG g v h).1, (hG g v h).2.1⟩)).mono ?_
   rintro e w' ⟨b, o1, o2, o3, t, hw, rfl, rfl⟩
   refine ⟨_, rfl, ?_⟩
   have := b4e (G := G) (bk := bk) (w := w) (A := A) (Fa := fun b => ow b ≠ none) (k := k) (g := g) hw (by simp only [a1d]; omega) rfl rfl rfl (fun b hb => by
    rw [a15 (by simp only [a1d]; omega), a15 (by simp only [a1d]; omega), a15 (by simp only [a1d]; omega), a15 (by omega)])
   simpa only [a1d] using this
 ·intro k q g hg w args A ow hsz hA how hG hpre
  obtain ⟨l⟩ := args
  match l, hsz with
  | [x, y], _ =>
   have h0 := hpre 0 _ rfl
   have h1 := hpre 1 _ rfl
   rw [show (Array.mk [x, y]).getD 0 undef = x from rfl] at h0
   rw [show (Array.mk [x, y]).getD 1 undef = y from rfl] at h1
   simp only [a0v, R, RL] at h0 h1
   obtain ⟨u, rfl, b, o, vs, rfl, hb, hc, ⟨v1, vs1, rfl, _, _, _, _, _, rfl, v2, vs2, rfl, _, _, _, _, _, rfl, rfl⟩, hcell⟩ := h1
   subst h0
   refine (c2p k b (o + 0) _ w (key fun g v h => ⟨(hG g v h).1, (hG g v h).2.1⟩) (hcell 1 _ rfl)).mono ?_
   rintro e w' ⟨b', o0, o1, o2, o3, o4, t, hw, rfl, rfl⟩
   refine ⟨_, rfl, ?_⟩
   have := b4e (G := G) (bk := bk) (w := w) (A := A) (Fa := fun b => ow b ≠ none) (k := k) (g := g) hw (by simp only [a1d]; omega) rfl rfl rfl (fun b hb => by
    rw [a15 (by simp only [a1d]; omega), a15 (by simp only [a1d]; omega), a15 (by simp only [a1d]; omega), a15 (by simp only [a1d]; omega), a15 (by omega)])
   simpa only [a1d] using this
end Go.Ideal.Tryd
end
