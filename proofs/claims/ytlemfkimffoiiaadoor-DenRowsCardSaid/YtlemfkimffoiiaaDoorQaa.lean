/- Part Qaa of the proof: walks on a machine that is proved sound. -/
import Derived.Test.YtlemfkimffoiiaaDoorProg
import Derived.WalkKit
import Derived.LaidEql
import Derived.Stop.Asserts
import Derived.RowKitTokens
set_option linter.unusedVariables false
set_option linter.unusedSimpArgs false
set_option maxHeartbeats 4000000
set_option maxRecDepth 100000
section
namespace Go.Ideal.Tryd
open Go.RowKit Go.Extern.Stop Go.Stop Go.Extern Go.Proofs
theorem b0x (t:Addr) (w:World):(ReflectliteValue.unpack (.iface 96 (.pointer (some t)))).run Go.Proofs.Tryd.prog w
  = .ok (.agg #[.pointer (some ⟨7,96,none⟩),.pointer (some ⟨w.heap.size,0,none⟩),.int .u64 150]) (w.alloc (.cells #[.pointer (some t)] 96)):=by kernel_rfl
theorem b7d (a : Addr) (w : World) : (ReflectliteValue.methodAny (ReflectliteValue.valueError "reflectlite.Value.Type" 0) (fun t _ _ _ => ReflectliteType.toType t) #[.agg #[.pointer (some ⟨7, 96, none⟩), .pointer (some a), .int .u64 150]]).run Go.Proofs.Tryd.prog w
  = .ok (.iface 122 (.agg #[.pointer (some ⟨7,96,none⟩)])) w:=by kernel_rfl
theorem a9c (h : Value) (w : World) : (Go.method 268 122 (.agg #[h]) "Kind").run Go.Proofs.Tryd.prog w = .ok (88, h) w := by kernel_rfl
theorem b7c (w:World):((ReflectliteType.abiMethod fun t=>(fun a:Nat=>Value.int IntKind.u8 (a:Int)) <$> Rtype.kind t) #[.pointer (some ⟨7,96,none⟩)]).run Go.Proofs.Tryd.prog w= .ok (.int .u8 22) w:=by kernel_rfl
theorem b7b (w:World):((ReflectliteType.abiMethod fun t=>(fun a:Nat=>Value.int IntKind.u8 (a:Int)) <$> Rtype.kind t) #[.pointer (some ⟨7,72,none⟩)]).run Go.Proofs.Tryd.prog w= .ok (.int .u8 22) w:=by kernel_rfl
theorem c9y (z:Sem Value) (f:TypeId->Addr->Nat->Nat->Sem Value) (v:Value) :
  ReflectliteValue.method z f #[v]=(do match<-ReflectliteValue.parts v with | none=>z | some (t,a,fl)=>f t a fl (fl % 32)):=rfl
theorem b36 (a:Addr) (w:World):(ReflectliteValue.parts (.agg #[.pointer (some ⟨7,96,none⟩),.pointer (some a),.int .u64 150])).run Go.Proofs.Tryd.prog w= .ok (some (96,a,150)) w:=by kernel_rfl
theorem b35 (a p:Addr) (W:World) (ha:W.cell? a=some (.pointer (some p))) :
  (ReflectliteValue.method (ReflectliteValue.valueError "reflectlite.Value.IsNil" 0) ReflectliteValue.isNil #[.agg #[.pointer (some ⟨7, 96, none⟩), .pointer (some a), .int .u64 150]]).run Go.Proofs.Tryd.prog W = .ok (.bool false) W := by
 rw [c9y]
 simp only [Sem.run_bind,b36,Result.andThen]
 simp [ReflectliteValue.isNil,loadVar,isAgg,underlying,Go.Proofs.Tryd.underlying96,ha,Result.andThen]
theorem a9b (h : Value) (w : World) : (Go.method 268 122 (.agg #[h]) "Elem").run Go.Proofs.Tryd.prog w = .ok (99, .agg #[h]) w := by kernel_rfl
theorem a5b (h : Value) (w : World) : (Go.method 268 122 (.agg #[h]) "Implements").run Go.Proofs.Tryd.prog w = .ok (100, .agg #[h]) w := by kernel_rfl
theorem a4o (h : Value) (w : World) : (Go.method 268 122 (.agg #[h]) "AssignableTo").run Go.Proofs.Tryd.prog w = .ok (97, .agg #[h]) w := by kernel_rfl
theorem b7a (w:World):(ReflectliteType.method ReflectliteType.elem #[.agg #[.pointer (some ⟨7,96,none⟩)]]).run Go.Proofs.Tryd.prog w= .ok (.iface 122 (.agg #[.pointer (some ⟨7,72,none⟩)])) w:=by kernel_rfl
theorem a7d (w : World) : (ReflectliteType.relation "Implements" ReflectliteType.implements_ #[.agg #[.pointer (some ⟨7, 72, none⟩)], .iface 122 (.agg #[.pointer (some ⟨7, 35, none⟩)])]).run Go.Proofs.Tryd.prog w = .ok (.bool true) w := by kernel_rfl
theorem b9p (v:Value) (w:World):(ReflectliteType.typeOf #[.iface 72 v]).run Go.Proofs.Tryd.prog w= .ok (.iface 122 (.agg #[.pointer (some ⟨7,72,none⟩)])) w:=by kernel_rfl
theorem b18 (w : World) : (ReflectliteType.relation "AssignableTo" ReflectliteType.assignableTo #[.agg #[.pointer (some ⟨7, 72, none⟩)], .iface 122 (.agg #[.pointer (some ⟨7, 72, none⟩)])]).run Go.Proofs.Tryd.prog w = .ok (.bool true) w := by kernel_rfl
theorem b0w (e:Addr) (w:World):(ReflectliteValue.unpack (.iface 72 (.pointer (some e)))).run Go.Proofs.Tryd.prog w
  = .ok (.agg #[.pointer (some ⟨7,72,none⟩),.pointer (some ⟨w.heap.size,0,none⟩),.int .u64 150]) (w.alloc (.cells #[.pointer (some e)] 72)):=by kernel_rfl
theorem b9n (w:World):(Rtype.elem? 96).run Go.Proofs.Tryd.prog w= .ok (some 72) w:=by kernel_rfl
theorem d0z (p:Addr) (w:World):(ReflectliteValue.mk 72 p ReflectliteValue.flagAddr).run Go.Proofs.Tryd.prog w= .ok (.agg #[.pointer (some ⟨7,72,none⟩),.pointer (some p),.int .u64 406]) w:=by kernel_rfl
theorem b34 (a p:Addr) (W:World) (ha:W.cell? a=some (.pointer (some p))) :
  (ReflectliteValue.method (ReflectliteValue.valueError "reflectlite.Value.Elem" 0) ReflectliteValue.elem #[.agg #[.pointer (some ⟨7, 96, none⟩), .pointer (some a), .int .u64 150]]).run Go.Proofs.Tryd.prog W
   = .ok (.agg #[.pointer (some ⟨7,72,none⟩),.pointer (some p),.int .u64 406]) W:=by
 rw [c9y]
 simp only [Sem.run_bind,b36,Result.andThen]
 simp [ReflectliteValue.elem,loadVar,isAgg,underlying,Go.Proofs.Tryd.underlying96,ha,Result.andThen,b9n,d0z]
theorem d7t (v x:Value):ReflectliteValue.set #[v,x]=(do
  let (some (dst,a,fl),some (src,b,_)):=(<-ReflectliteValue.parts v,<-ReflectliteValue.parts x)
   | unsupported (.noEntry "extern/(internal/reflectlite.Value).Set.zeroValue")
  if fl / ReflectliteValue.flagAddr % 2 == 0 then unsupported (.noEntry "extern/(internal/reflectlite.Value).Set.unaddressable")
  let val<-loadVar src b
  if<-Rtype.directlyAssignable dst src then storeVar dst a val
  else if<-Rtype.implements dst src then
   if (<-Rtype.kind src)==20 then
    match val with
    | .nilIface => unsupported (.noEntry "extern/reflectlite: a nil value of one interface type handed on as a value of another")
    | _=>storeVar dst a val
   else storeVar dst a (.iface src val)
  else panicString ("reflectlite.Set: value of type " ++ (<- Rtype.spelt src) ++ " is not assignable to type " ++ (<- Rtype.spelt dst))
  pure (.tuple #[])):=rfl
theorem b9o (a:Addr) (w:World):(ReflectliteValue.parts (.agg #[.pointer (some ⟨7,72,none⟩),.pointer (some a),.int .u64 406])).run Go.Proofs.Tryd.prog w= .ok (some (72,a,406)) w:=by kernel_rfl
theorem c2h (a:Addr) (w:World):(ReflectliteValue.parts (.agg #[.pointer (some ⟨7,72,none⟩),.pointer (some a),.int .u64 150])).run Go.Proofs.Tryd.prog w= .ok (some (72,a,150)) w:=by kernel_rfl
theorem b9m (w:World):(Rtype.directlyAssignable 72 72).run Go.Proofs.Tryd.prog w= .ok true w:=by kernel_rfl
theorem c7j (ta b e:Addr) (old:Value) (W:World) (hb:W.cell? b=some (.pointer (some e))) (ht:W.cell? ta=some old) (hf:W.frozen? ta=false) :
  (ReflectliteValue.set #[.agg #[.pointer (some ⟨7,72,none⟩),.pointer (some ta),.int .u64 406],.agg #[.pointer (some ⟨7,72,none⟩),.pointer (some b),.int .u64 150]]).run Go.Proofs.Tryd.prog W
   = .ok (.tuple #[]) (W.setCell ta (.pointer (some e))):=by
 rw [d7t]
 simp only [Sem.run_bind,b9o,c2h,Result.andThen]
 simp [ReflectliteValue.flagAddr,loadVar,isAgg,underlying,Go.Proofs.Tryd.underlying72,hb,Result.andThen,b9m,storeVar,Value.cells,storeCells,Addr.add]
 rw [run_store Go.Proofs.Tryd.prog W ta _ _ (by rfl)]
 simp [ht,hf]
theorem b9q (v:Value) (w:World):(ReflectliteType.typeOf #[.iface 135 v]).run Go.Proofs.Tryd.prog w= .ok (.iface 122 (.agg #[.pointer (some ⟨7,135,none⟩)])) w:=by kernel_rfl
theorem b19 (w : World) : (ReflectliteType.relation "AssignableTo" ReflectliteType.assignableTo #[.agg #[.pointer (some ⟨7, 135, none⟩)], .iface 122 (.agg #[.pointer (some ⟨7, 72, none⟩)])]).run Go.Proofs.Tryd.prog w = .ok (.bool false) w := by kernel_rfl
theorem f3w (v:Value) (xT:TypeId) (w:World):(Instr.typeAssert (.iface 135 v) xT 127 true).run Go.Proofs.Tryd.prog w= .ok (.tuple #[.nilIface,.bool false]) w:=run_typeAssert_lacksB Go.Proofs.Tryd.underlying127 (by kernel_rfl) (by kernel_rfl) v xT w
theorem c5s (v:Value) (xT:TypeId) (w:World):(Instr.typeAssert (.iface 135 v) xT 130 true).run Go.Proofs.Tryd.prog w= .ok (.tuple #[.nilIface,.bool false]) w:=run_typeAssert_lacksB Go.Proofs.Tryd.underlying130 (by kernel_rfl) (by kernel_rfl) v xT w
theorem c3e (v:Value) (xT:TypeId) (w:World):(Instr.typeAssert (.iface 135 v) xT 132 true).run Go.Proofs.Tryd.prog w= .ok (.tuple #[.nilIface,.bool false]) w:=run_typeAssert_lacksB Go.Proofs.Tryd.underlying132 (by kernel_rfl) (by kernel_rfl) v xT w
theorem c2u (e t:Addr) (old:Value) (w:World) (hg:w.cell? ⟨6,0,none⟩=some (.iface 122 (.agg #[.pointer (some ⟨7,35,none⟩)]))) (ht0:w.cell? t=some old) (hf0:w.frozen? t=false) :
  Calls Go.Proofs.Tryd.prog 52 #[.iface 135 (.pointer (some e)),.iface 96 (.pointer (some t))] w fun ev w'=>ev= .returned (.bool false)/\w'=(((w.alloc (.cells #[.pointer (some t)] 96)).alloc (.cells #[.pointer (some ⟨7,96,none⟩),.pointer (some ⟨w.heap.size,0,none⟩),.int .u64 150] 109)).alloc (.cells #[.pointer (some ⟨7,96,none⟩),.pointer (some ⟨w.heap.size,0,none⟩),.int .u64 150] 109)):=by
 have h6:= @run_callFunc_extern Go.Proofs.Tryd.prog 65 _ (fun args=>ReflectliteValue.unpack (args.getD 0 (.tuple #[]))) Go.Proofs.Tryd.func65 (by kernel_rfl) (by kernel_rfl) (by kernel_rfl) (by kernel_rfl)
 have h7 := @run_callFunc_extern Go.Proofs.Tryd.prog 66 _ (ReflectliteValue.methodAny (ReflectliteValue.valueError "reflectlite.Value.Type" 0) (fun t _ _ _ => ReflectliteType.toType t)) Go.Proofs.Tryd.func66 (by kernel_rfl) (by kernel_rfl) (by kernel_rfl) (by kernel_rfl)
 have h8 := @run_callFunc_extern Go.Proofs.Tryd.prog 67 _ (ReflectliteValue.method (ReflectliteValue.valueError "reflectlite.Value.IsNil" 0) ReflectliteValue.isNil) Go.Proofs.Tryd.func67 (by kernel_rfl) (by kernel_rfl) (by kernel_rfl) (by kernel_rfl)
 have h27:= @run_callFunc_extern Go.Proofs.Tryd.prog 88 _ (ReflectliteType.abiMethod fun t=>do pure (.int .u8 (<-Rtype.kind t))) Go.Proofs.Tryd.func88 (by kernel_rfl) (by kernel_rfl) (by kernel_rfl) (by kernel_rfl)
 have h37:= @run_callFunc_extern Go.Proofs.Tryd.prog 99 _ (ReflectliteType.method ReflectliteType.elem) Go.Proofs.Tryd.func99 (by kernel_rfl) (by kernel_rfl) (by kernel_rfl) (by kernel_rfl)
 have h38 := @run_callFunc_extern Go.Proofs.Tryd.prog 100 _ (ReflectliteType.relation "Implements" ReflectliteType.implements_) Go.Proofs.Tryd.func100 (by kernel_rfl) (by kernel_rfl) (by kernel_rfl) (by kernel_rfl)
 have h10:= @run_callFunc_extern Go.Proofs.Tryd.prog 71 _ ReflectliteType.typeOf Go.Proofs.Tryd.func71 (by kernel_rfl) (by kernel_rfl) (by kernel_rfl) (by kernel_rfl)
 have h35 := @run_callFunc_extern Go.Proofs.Tryd.prog 97 _ (ReflectliteType.relation "AssignableTo" ReflectliteType.assignableTo) Go.Proofs.Tryd.func97 (by kernel_rfl) (by kernel_rfl) (by kernel_rfl) (by kernel_rfl)
 have h11 := @run_callFunc_extern Go.Proofs.Tryd.prog 72 _ (ReflectliteValue.method (ReflectliteValue.valueError "reflectlite.Value.Elem" 0) ReflectliteValue.elem) Go.Proofs.Tryd.func72 (by kernel_rfl) (by kernel_rfl) (by kernel_rfl) (by kernel_rfl)
 have h12:= @run_callFunc_extern Go.Proofs.Tryd.prog 73 _ ReflectliteValue.set Go.Proofs.Tryd.func73 (by kernel_rfl) (by kernel_rfl) (by kernel_rfl) (by kernel_rfl)
 have tO:=b9q
 have mA:=a4o
 have a25:=b19
 have nE:=f3w
 have uE:=c5s
 have vE:=c3e
 have v25:=b0w
 have f6:=b0x
 have f7:=b7d
 have mK:=a9c
 have mE:=a9b
 have mI:=a5b
 have k27:=b7c
 have k25:=b7b
 have e27:=b7a
 have i25:=a7d
 have n8:=b35 ⟨w.heap.size,0,none⟩ t ((w.alloc (.cells #[.pointer (some t)] 96)).alloc (.cells #[.pointer (some ⟨7,96,none⟩),.pointer (some ⟨w.heap.size,0,none⟩),.int .u64 150] 109)) (by simp)
 have hlt:6 < w.heap.size:=by
  rcases Nat.lt_or_ge 6 w.heap.size with h | h
  ·exact h
  ·simp [World.cell?,Array.getElem?_eq_none h] at hg
 have hg2:((w.alloc (.cells #[.pointer (some t)] 96)).alloc (.cells #[.pointer (some ⟨7,96,none⟩),.pointer (some ⟨w.heap.size,0,none⟩),.int .u64 150] 109)).cell? ⟨6,0,none⟩=some (.iface 122 (.agg #[.pointer (some ⟨7,35,none⟩)])):=by
  rw [World.cell?_alloc_lt _ _ ⟨6,0,none⟩ (by simp; omega),World.cell?_alloc_lt _ _ ⟨6,0,none⟩ hlt]; exact hg
 have htl:t.block < w.heap.size:=by
  rcases Nat.lt_or_ge t.block w.heap.size with h | h
  ·exact h
  ·simp [World.cell?,Array.getElem?_eq_none h] at ht0
 have el:=b34 ⟨w.heap.size,0,none⟩ t (((w.alloc (.cells #[.pointer (some t)] 96)).alloc (.cells #[.pointer (some ⟨7,96,none⟩),.pointer (some ⟨w.heap.size,0,none⟩),.int .u64 150] 109)).alloc (.cells #[.pointer (some ⟨7,96,none⟩),.pointer (some ⟨w.heap.size,0,none⟩),.int .u64 150] 109)) (by rw [World.cell?_alloc_lt _ _ ⟨w.heap.size,0,none⟩ (by simp; omega)]; simp)
 go_enter Go.Proofs.Tryd.func52,Go.Proofs.Tryd.ntmps52
 go_wp2
 refine wp_loop_rounds 1 ?_
 rw [rounds_succ]
 go_wp2
 go_ret
 exact ⟨rfl,rfl⟩
theorem c4y (e t:Addr) (old:Value) (w:World) (hg:w.cell? ⟨6,0,none⟩=some (.iface 122 (.agg #[.pointer (some ⟨7,35,none⟩)]))) (ht0:w.cell? t=some old) (hf0:w.frozen? t=false) :
  Calls Go.Proofs.Tryd.prog 52 #[.iface 72 (.pointer (some e)),.iface 96 (.pointer (some t))] w fun ev w'=>ev= .returned (.bool true)/\w'=((((w.alloc (.cells #[.pointer (some t)] 96)).alloc (.cells #[.pointer (some ⟨7,96,none⟩),.pointer (some ⟨w.heap.size,0,none⟩),.int .u64 150] 109)).alloc (.cells #[.pointer (some ⟨7,96,none⟩),.pointer (some ⟨w.heap.size,0,none⟩),.int .u64 150] 109)).alloc (.cells #[.pointer (some e)] 72)).setCell t (.pointer (some e)):=by
 have h6:= @run_callFunc_extern Go.Proofs.Tryd.prog 65 _ (fun args=>ReflectliteValue.unpack (args.getD 0 (.tuple #[]))) Go.Proofs.Tryd.func65 (by kernel_rfl) (by kernel_rfl) (by kernel_rfl) (by kernel_rfl)
 have h7 := @run_callFunc_extern Go.Proofs.Tryd.prog 66 _ (ReflectliteValue.methodAny (ReflectliteValue.valueError "reflectlite.Value.Type" 0) (fun t _ _ _ => ReflectliteType.toType t)) Go.Proofs.Tryd.func66 (by kernel_rfl) (by kernel_rfl) (by kernel_rfl) (by kernel_rfl)
 have h8 := @run_callFunc_extern Go.Proofs.Tryd.prog 67 _ (ReflectliteValue.method (ReflectliteValue.valueError "reflectlite.Value.IsNil" 0) ReflectliteValue.isNil) Go.Proofs.Tryd.func67 (by kernel_rfl) (by kernel_rfl) (by kernel_rfl) (by kernel_rfl)
 have h27:= @run_callFunc_extern Go.Proofs.Tryd.prog 88 _ (ReflectliteType.abiMethod fun t=>do pure (.int .u8 (<-Rtype.kind t))) Go.Proofs.Tryd.func88 (by kernel_rfl) (by kernel_rfl) (by kernel_rfl) (by kernel_rfl)
 have h37:= @run_callFunc_extern Go.Proofs.Tryd.prog 99 _ (ReflectliteType.method ReflectliteType.elem) Go.Proofs.Tryd.func99 (by kernel_rfl) (by kernel_rfl) (by kernel_rfl) (by kernel_rfl)
 have h38 := @run_callFunc_extern Go.Proofs.Tryd.prog 100 _ (ReflectliteType.relation "Implements" ReflectliteType.implements_) Go.Proofs.Tryd.func100 (by kernel_rfl) (by kernel_rfl) (by kernel_rfl) (by kernel_rfl)
 have h10:= @run_callFunc_extern Go.Proofs.Tryd.prog 71 _ ReflectliteType.typeOf Go.Proofs.Tryd.func71 (by kernel_rfl) (by kernel_rfl) (by kernel_rfl) (by kernel_rfl)
 have h35 := @run_callFunc_extern Go.Proofs.Tryd.prog 97 _ (ReflectliteType.relation "AssignableTo" ReflectliteType.assignableTo) Go.Proofs.Tryd.func97 (by kernel_rfl) (by kernel_rfl) (by kernel_rfl) (by kernel_rfl)
 have h11 := @run_callFunc_extern Go.Proofs.Tryd.prog 72 _ (ReflectliteValue.method (ReflectliteValue.valueError "reflectlite.Value.Elem" 0) ReflectliteValue.elem) Go.Proofs.Tryd.func72 (by kernel_rfl) (by kernel_rfl) (by kernel_rfl) (by kernel_rfl)
 have h12:= @run_callFunc_extern Go.Proofs.Tryd.prog 73 _ ReflectliteValue.set Go.Proofs.Tryd.func73 (by kernel_rfl) (by kernel_rfl) (by kernel_rfl) (by kernel_rfl)
 have tO:=b9p
 have mA:=a4o
 have a25:=b18
 have v25:=b0w
 have f6:=b0x
 have f7:=b7d
 have mK:=a9c
 have mE:=a9b
 have mI:=a5b
 have k27:=b7c
 have k25:=b7b
 have e27:=b7a
 have i25:=a7d
 have n8:=b35 ⟨w.heap.size,0,none⟩ t ((w.alloc (.cells #[.pointer (some t)] 96)).alloc (.cells #[.pointer (some ⟨7,96,none⟩),.pointer (some ⟨w.heap.size,0,none⟩),.int .u64 150] 109)) (by simp)
 have hlt:6 < w.heap.size:=by
  rcases Nat.lt_or_ge 6 w.heap.size with h | h
  ·exact h
  ·simp [World.cell?,Array.getElem?_eq_none h] at hg
 have hg2:((w.alloc (.cells #[.pointer (some t)] 96)).alloc (.cells #[.pointer (some ⟨7,96,none⟩),.pointer (some ⟨w.heap.size,0,none⟩),.int .u64 150] 109)).cell? ⟨6,0,none⟩=some (.iface 122 (.agg #[.pointer (some ⟨7,35,none⟩)])):=by
  rw [World.cell?_alloc_lt _ _ ⟨6,0,none⟩ (by simp; omega),World.cell?_alloc_lt _ _ ⟨6,0,none⟩ hlt]; exact hg
 have htl:t.block < w.heap.size:=by
  rcases Nat.lt_or_ge t.block w.heap.size with h | h
  ·exact h
  ·simp [World.cell?,Array.getElem?_eq_none h] at ht0
 have el:=b34 ⟨w.heap.size,0,none⟩ t (((w.alloc (.cells #[.pointer (some t)] 96)).alloc (.cells #[.pointer (some ⟨7,96,none⟩),.pointer (some ⟨w.heap.size,0,none⟩),.int .u64 150] 109)).alloc (.cells #[.pointer (some ⟨7,96,none⟩),.pointer (some ⟨w.heap.size,0,none⟩),.int .u64 150] 109)) (by rw [World.cell?_alloc_lt _ _ ⟨w.heap.size,0,none⟩ (by simp; omega)]; simp)
 have st:=c7j t ⟨w.heap.size+1+1+1,0,none⟩ e old ((((w.alloc (.cells #[.pointer (some t)] 96)).alloc (.cells #[.pointer (some ⟨7,96,none⟩),.pointer (some ⟨w.heap.size,0,none⟩),.int .u64 150] 109)).alloc (.cells #[.pointer (some ⟨7,96,none⟩),.pointer (some ⟨w.heap.size,0,none⟩),.int .u64 150] 109)).alloc (.cells #[.pointer (some e)] 72))
  (by rw [World.cell?_alloc_at _ _ _ _ (by simp)]; rfl)
  (by rw [World.cell?_alloc_lt _ _ t (by simp; omega),World.cell?_alloc_lt _ _ t (by simp; omega),World.cell?_alloc_lt _ _ t (by simp; omega),World.cell?_alloc_lt _ _ t htl]; exact ht0)
  (by rw [World.frozen?_alloc_old _ _ t (by simp; omega),World.frozen?_alloc_old _ _ t (by simp; omega),World.frozen?_alloc_old _ _ t (by simp; omega),World.frozen?_alloc_old _ _ t (Nat.ne_of_lt htl)]; exact hf0)
 go_enter Go.Proofs.Tryd.func52,Go.Proofs.Tryd.ntmps52
 go_wp2
 refine wp_loop_rounds 1 ?_
 rw [rounds_succ]
 go_wp2
 go_ret
 exact ⟨rfl,rfl⟩
end Go.Ideal.Tryd
end
