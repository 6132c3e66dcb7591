/- Part Qat of the proof: walks on a machine that is proved sound. -/
import Derived.Test.YtfncabcldhemkaaGreatDoorProg
import Derived.WalkKit
import Derived.LaidEql
import Derived.Stop.Asserts
import Derived.RowKitTokens
import Derived.Test.YtfncabcldhemkaaGreatDoorQak
import Derived.Test.YtfncabcldhemkaaGreatDoorQas
set_option linter.unusedVariables false
set_option linter.unusedSimpArgs false
set_option maxHeartbeats 8000000
set_option maxRecDepth 100000
section
namespace Go.Ideal.Tryz
open Go.RowKit Go.Extern.Stop Go.Stop Go.Extern Go.Proofs
theorem b5e (t:Addr) (w:World):(ReflectliteValue.unpack (.iface 161 (.pointer (some t)))).run Go.Proofs.Tryz.prog w
  = .ok (.agg #[.pointer (some ⟨22,161,none⟩),.pointer (some ⟨w.heap.size,0,none⟩),.int .u64 150]) (w.alloc (.cells #[.pointer (some t)] 161)):=by kernel_rfl
theorem c11 (a : Addr) (w : World) : (ReflectliteValue.methodAny (ReflectliteValue.valueError "reflectlite.Value.Type" 0) (fun t _ _ _ => ReflectliteType.toType t) #[.agg #[.pointer (some ⟨22, 161, none⟩), .pointer (some a), .int .u64 150]]).run Go.Proofs.Tryz.prog w
  = .ok (.iface 212 (.agg #[.pointer (some ⟨22,161,none⟩)])) w:=by kernel_rfl
theorem b3e (h : Value) (w : World) : (Go.method 364 212 (.agg #[h]) "Kind").run Go.Proofs.Tryz.prog w = .ok (193, h) w := by kernel_rfl
theorem c10 (w:World):((ReflectliteType.abiMethod fun t=>(fun a:Nat=>Value.int IntKind.u8 (a:Int)) <$> Rtype.kind t) #[.pointer (some ⟨22,161,none⟩)]).run Go.Proofs.Tryz.prog w= .ok (.int .u8 22) w:=by kernel_rfl
theorem c1z (w:World):((ReflectliteType.abiMethod fun t=>(fun a:Nat=>Value.int IntKind.u8 (a:Int)) <$> Rtype.kind t) #[.pointer (some ⟨22,153,none⟩)]).run Go.Proofs.Tryz.prog w= .ok (.int .u8 22) w:=by kernel_rfl
theorem d4h (z:Sem Value) (f:TypeId->Addr->Nat->Nat->Sem Value) (v:Value) :
  ReflectliteValue.method z f #[v]=(do match<-ReflectliteValue.parts v with | none=>z | some (t,a,fl)=>f t a fl (fl % 32)):=rfl
theorem b84 (a:Addr) (w:World):(ReflectliteValue.parts (.agg #[.pointer (some ⟨22,161,none⟩),.pointer (some a),.int .u64 150])).run Go.Proofs.Tryz.prog w= .ok (some (161,a,150)) w:=by kernel_rfl
theorem b83 (a p:Addr) (W:World) (ha:W.cell? a=some (.pointer (some p))) :
  (ReflectliteValue.method (ReflectliteValue.valueError "reflectlite.Value.IsNil" 0) ReflectliteValue.isNil #[.agg #[.pointer (some ⟨22, 161, none⟩), .pointer (some a), .int .u64 150]]).run Go.Proofs.Tryz.prog W = .ok (.bool false) W := by
 rw [d4h]
 simp only [Sem.run_bind,b84,Result.andThen]
 simp [ReflectliteValue.isNil,loadVar,isAgg,underlying,Go.Proofs.Tryz.underlying161,ha,Result.andThen]
theorem b3d (h : Value) (w : World) : (Go.method 364 212 (.agg #[h]) "Elem").run Go.Proofs.Tryz.prog w = .ok (204, .agg #[h]) w := by kernel_rfl
theorem a68 (h : Value) (w : World) : (Go.method 364 212 (.agg #[h]) "Implements").run Go.Proofs.Tryz.prog w = .ok (205, .agg #[h]) w := by kernel_rfl
theorem a57 (h : Value) (w : World) : (Go.method 364 212 (.agg #[h]) "AssignableTo").run Go.Proofs.Tryz.prog w = .ok (202, .agg #[h]) w := by kernel_rfl
theorem c1y (w:World):(ReflectliteType.method ReflectliteType.elem #[.agg #[.pointer (some ⟨22,161,none⟩)]]).run Go.Proofs.Tryz.prog w= .ok (.iface 212 (.agg #[.pointer (some ⟨22,153,none⟩)])) w:=by kernel_rfl
theorem b0l (w : World) : (ReflectliteType.relation "Implements" ReflectliteType.implements_ #[.agg #[.pointer (some ⟨22, 153, none⟩)], .iface 212 (.agg #[.pointer (some ⟨22, 35, none⟩)])]).run Go.Proofs.Tryz.prog w = .ok (.bool true) w := by kernel_rfl
theorem c4b (v:Value) (w:World):(ReflectliteType.typeOf #[.iface 153 v]).run Go.Proofs.Tryz.prog w= .ok (.iface 212 (.agg #[.pointer (some ⟨22,153,none⟩)])) w:=by kernel_rfl
theorem b6x (w : World) : (ReflectliteType.relation "AssignableTo" ReflectliteType.assignableTo #[.agg #[.pointer (some ⟨22, 153, none⟩)], .iface 212 (.agg #[.pointer (some ⟨22, 153, none⟩)])]).run Go.Proofs.Tryz.prog w = .ok (.bool true) w := by kernel_rfl
theorem b5d (e:Addr) (w:World):(ReflectliteValue.unpack (.iface 153 (.pointer (some e)))).run Go.Proofs.Tryz.prog w
  = .ok (.agg #[.pointer (some ⟨22,153,none⟩),.pointer (some ⟨w.heap.size,0,none⟩),.int .u64 150]) (w.alloc (.cells #[.pointer (some e)] 153)):=by kernel_rfl
theorem c39 (w:World):(Rtype.elem? 161).run Go.Proofs.Tryz.prog w= .ok (some 153) w:=by kernel_rfl
theorem d5d (p:Addr) (w:World):(ReflectliteValue.mk 153 p ReflectliteValue.flagAddr).run Go.Proofs.Tryz.prog w= .ok (.agg #[.pointer (some ⟨22,153,none⟩),.pointer (some p),.int .u64 406]) w:=by kernel_rfl
theorem b82 (a p:Addr) (W:World) (ha:W.cell? a=some (.pointer (some p))) :
  (ReflectliteValue.method (ReflectliteValue.valueError "reflectlite.Value.Elem" 0) ReflectliteValue.elem #[.agg #[.pointer (some ⟨22, 161, none⟩), .pointer (some a), .int .u64 150]]).run Go.Proofs.Tryz.prog W
   = .ok (.agg #[.pointer (some ⟨22,153,none⟩),.pointer (some p),.int .u64 406]) W:=by
 rw [d4h]
 simp only [Sem.run_bind,b84,Result.andThen]
 simp [ReflectliteValue.elem,loadVar,isAgg,underlying,Go.Proofs.Tryz.underlying161,ha,Result.andThen,c39,d5d]
theorem e0v (v x:Value):ReflectliteValue.set #[v,x]=(do
  let (some (dst,a,fl),some (src,b,_)):=(<-ReflectliteValue.parts v,<-ReflectliteValue.parts x)
   | unsupported (.noEntry "extern/(internal/reflectlite.Value).Set.zeroValue")
  if fl / ReflectliteValue.flagAddr % 2 == 0 then unsupported (.noEntry "extern/(internal/reflectlite.Value).Set.unaddressable")
  let val<-loadVar src b
  if<-Rtype.directlyAssignable dst src then storeVar dst a val
  else if<-Rtype.implements dst src then
   if (<-Rtype.kind src)==20 then
    match val with
    | .nilIface => unsupported (.noEntry "extern/reflectlite: a nil value of one interface type handed on as a value of another")
    | _=>storeVar dst a val
   else storeVar dst a (.iface src val)
  else panicString ("reflectlite.Set: value of type " ++ (<- Rtype.spelt src) ++ " is not assignable to type " ++ (<- Rtype.spelt dst))
  pure (.tuple #[])):=rfl
theorem c4a (a:Addr) (w:World):(ReflectliteValue.parts (.agg #[.pointer (some ⟨22,153,none⟩),.pointer (some a),.int .u64 406])).run Go.Proofs.Tryz.prog w= .ok (some (153,a,406)) w:=by kernel_rfl
theorem c6z (a:Addr) (w:World):(ReflectliteValue.parts (.agg #[.pointer (some ⟨22,153,none⟩),.pointer (some a),.int .u64 150])).run Go.Proofs.Tryz.prog w= .ok (some (153,a,150)) w:=by kernel_rfl
theorem c38 (w:World):(Rtype.directlyAssignable 153 153).run Go.Proofs.Tryz.prog w= .ok true w:=by kernel_rfl
theorem d1p (ta b e:Addr) (old:Value) (W:World) (hb:W.cell? b=some (.pointer (some e))) (ht:W.cell? ta=some old) (hf:W.frozen? ta=false) :
  (ReflectliteValue.set #[.agg #[.pointer (some ⟨22,153,none⟩),.pointer (some ta),.int .u64 406],.agg #[.pointer (some ⟨22,153,none⟩),.pointer (some b),.int .u64 150]]).run Go.Proofs.Tryz.prog W
   = .ok (.tuple #[]) (W.setCell ta (.pointer (some e))):=by
 rw [e0v]
 simp only [Sem.run_bind,c4a,c6z,Result.andThen]
 simp [ReflectliteValue.flagAddr,loadVar,isAgg,underlying,Go.Proofs.Tryz.underlying153,hb,Result.andThen,c38,storeVar,Value.cells,storeCells,Addr.add]
 rw [run_store Go.Proofs.Tryz.prog W ta _ _ (by rfl)]
 simp [ht,hf]
theorem c4c (v:Value) (w:World):(ReflectliteType.typeOf #[.iface 230 v]).run Go.Proofs.Tryz.prog w= .ok (.iface 212 (.agg #[.pointer (some ⟨22,230,none⟩)])) w:=by kernel_rfl
theorem b6y (w : World) : (ReflectliteType.relation "AssignableTo" ReflectliteType.assignableTo #[.agg #[.pointer (some ⟨22, 230, none⟩)], .iface 212 (.agg #[.pointer (some ⟨22, 153, none⟩)])]).run Go.Proofs.Tryz.prog w = .ok (.bool false) w := by kernel_rfl
theorem f1g (v:Value) (xT:TypeId) (w:World):(Instr.typeAssert (.iface 230 v) xT 217 true).run Go.Proofs.Tryz.prog w= .ok (.tuple #[.nilIface,.bool false]) w:=run_typeAssert_lacksB Go.Proofs.Tryz.underlying217 (by kernel_rfl) (by kernel_rfl) v xT w
theorem c96 (v:Value) (xT:TypeId) (w:World):(Instr.typeAssert (.iface 230 v) xT 220 true).run Go.Proofs.Tryz.prog w= .ok (.tuple #[.nilIface,.bool false]) w:=run_typeAssert_lacksB Go.Proofs.Tryz.underlying220 (by kernel_rfl) (by kernel_rfl) v xT w
theorem c7t (v:Value) (xT:TypeId) (w:World):(Instr.typeAssert (.iface 230 v) xT 222 true).run Go.Proofs.Tryz.prog w= .ok (.tuple #[.nilIface,.bool false]) w:=run_typeAssert_lacksB Go.Proofs.Tryz.underlying222 (by kernel_rfl) (by kernel_rfl) v xT w
theorem c7c (e t:Addr) (old:Value) (w:World) (hg:w.cell? ⟨9,0,none⟩=some (.iface 212 (.agg #[.pointer (some ⟨22,35,none⟩)]))) (ht0:w.cell? t=some old) (hf0:w.frozen? t=false) :
  Calls Go.Proofs.Tryz.prog 108 #[.iface 230 (.pointer (some e)),.iface 161 (.pointer (some t))] w fun ev w'=>ev= .returned (.bool false)/\w'=(((w.alloc (.cells #[.pointer (some t)] 161)).alloc (.cells #[.pointer (some ⟨22,161,none⟩),.pointer (some ⟨w.heap.size,0,none⟩),.int .u64 150] 196)).alloc (.cells #[.pointer (some ⟨22,161,none⟩),.pointer (some ⟨w.heap.size,0,none⟩),.int .u64 150] 196)):=by
 have h6:= @run_callFunc_extern Go.Proofs.Tryz.prog 147 _ (fun args=>ReflectliteValue.unpack (args.getD 0 (.tuple #[]))) Go.Proofs.Tryz.func147 (by kernel_rfl) (by kernel_rfl) (by kernel_rfl) (by kernel_rfl)
 have h7 := @run_callFunc_extern Go.Proofs.Tryz.prog 148 _ (ReflectliteValue.methodAny (ReflectliteValue.valueError "reflectlite.Value.Type" 0) (fun t _ _ _ => ReflectliteType.toType t)) Go.Proofs.Tryz.func148 (by kernel_rfl) (by kernel_rfl) (by kernel_rfl) (by kernel_rfl)
 have h8 := @run_callFunc_extern Go.Proofs.Tryz.prog 149 _ (ReflectliteValue.method (ReflectliteValue.valueError "reflectlite.Value.IsNil" 0) ReflectliteValue.isNil) Go.Proofs.Tryz.func149 (by kernel_rfl) (by kernel_rfl) (by kernel_rfl) (by kernel_rfl)
 have h27:= @run_callFunc_extern Go.Proofs.Tryz.prog 193 _ (ReflectliteType.abiMethod fun t=>do pure (.int .u8 (<-Rtype.kind t))) Go.Proofs.Tryz.func193 (by kernel_rfl) (by kernel_rfl) (by kernel_rfl) (by kernel_rfl)
 have h37:= @run_callFunc_extern Go.Proofs.Tryz.prog 204 _ (ReflectliteType.method ReflectliteType.elem) Go.Proofs.Tryz.func204 (by kernel_rfl) (by kernel_rfl) (by kernel_rfl) (by kernel_rfl)
 have h38 := @run_callFunc_extern Go.Proofs.Tryz.prog 205 _ (ReflectliteType.relation "Implements" ReflectliteType.implements_) Go.Proofs.Tryz.func205 (by kernel_rfl) (by kernel_rfl) (by kernel_rfl) (by kernel_rfl)
 have h10:= @run_callFunc_extern Go.Proofs.Tryz.prog 168 _ ReflectliteType.typeOf Go.Proofs.Tryz.func168 (by kernel_rfl) (by kernel_rfl) (by kernel_rfl) (by kernel_rfl)
 have h35 := @run_callFunc_extern Go.Proofs.Tryz.prog 202 _ (ReflectliteType.relation "AssignableTo" ReflectliteType.assignableTo) Go.Proofs.Tryz.func202 (by kernel_rfl) (by kernel_rfl) (by kernel_rfl) (by kernel_rfl)
 have h11 := @run_callFunc_extern Go.Proofs.Tryz.prog 169 _ (ReflectliteValue.method (ReflectliteValue.valueError "reflectlite.Value.Elem" 0) ReflectliteValue.elem) Go.Proofs.Tryz.func169 (by kernel_rfl) (by kernel_rfl) (by kernel_rfl) (by kernel_rfl)
 have h12:= @run_callFunc_extern Go.Proofs.Tryz.prog 170 _ ReflectliteValue.set Go.Proofs.Tryz.func170 (by kernel_rfl) (by kernel_rfl) (by kernel_rfl) (by kernel_rfl)
 have tO:=c4c
 have mA:=a57
 have a25:=b6y
 have nE:=f1g
 have uE:=c96
 have vE:=c7t
 have v25:=b5d
 have f6:=b5e
 have f7:=c11
 have mK:=b3e
 have mE:=b3d
 have mI:=a68
 have k27:=c10
 have k25:=c1z
 have e27:=c1y
 have i25:=b0l
 have n8:=b83 ⟨w.heap.size,0,none⟩ t ((w.alloc (.cells #[.pointer (some t)] 161)).alloc (.cells #[.pointer (some ⟨22,161,none⟩),.pointer (some ⟨w.heap.size,0,none⟩),.int .u64 150] 196)) (by simp)
 have hlt:9 < w.heap.size:=by
  rcases Nat.lt_or_ge 9 w.heap.size with h | h
  ·exact h
  ·simp [World.cell?,Array.getElem?_eq_none h] at hg
 have hg2:((w.alloc (.cells #[.pointer (some t)] 161)).alloc (.cells #[.pointer (some ⟨22,161,none⟩),.pointer (some ⟨w.heap.size,0,none⟩),.int .u64 150] 196)).cell? ⟨9,0,none⟩=some (.iface 212 (.agg #[.pointer (some ⟨22,35,none⟩)])):=by
  rw [World.cell?_alloc_lt _ _ ⟨9,0,none⟩ (by simp; omega),World.cell?_alloc_lt _ _ ⟨9,0,none⟩ hlt]; exact hg
 have htl:t.block < w.heap.size:=by
  rcases Nat.lt_or_ge t.block w.heap.size with h | h
  ·exact h
  ·simp [World.cell?,Array.getElem?_eq_none h] at ht0
 have el:=b82 ⟨w.heap.size,0,none⟩ t (((w.alloc (.cells #[.pointer (some t)] 161)).alloc (.cells #[.pointer (some ⟨22,161,none⟩),.pointer (some ⟨w.heap.size,0,none⟩),.int .u64 150] 196)).alloc (.cells #[.pointer (some ⟨22,161,none⟩),.pointer (some ⟨w.heap.size,0,none⟩),.int .u64 150] 196)) (by rw [World.cell?_alloc_lt _ _ ⟨w.heap.size,0,none⟩ (by simp; omega)]; simp)
 go_enter Go.Proofs.Tryz.func108,Go.Proofs.Tryz.ntmps108
 go_wp2
 refine wp_loop_rounds 1 ?_
 rw [rounds_succ]
 go_wp2
 go_ret
 exact ⟨rfl,rfl⟩
theorem c87 (e t:Addr) (old:Value) (w:World) (hg:w.cell? ⟨9,0,none⟩=some (.iface 212 (.agg #[.pointer (some ⟨22,35,none⟩)]))) (ht0:w.cell? t=some old) (hf0:w.frozen? t=false) :
  Calls Go.Proofs.Tryz.prog 108 #[.iface 153 (.pointer (some e)),.iface 161 (.pointer (some t))] w fun ev w'=>ev= .returned (.bool true)/\w'=((((w.alloc (.cells #[.pointer (some t)] 161)).alloc (.cells #[.pointer (some ⟨22,161,none⟩),.pointer (some ⟨w.heap.size,0,none⟩),.int .u64 150] 196)).alloc (.cells #[.pointer (some ⟨22,161,none⟩),.pointer (some ⟨w.heap.size,0,none⟩),.int .u64 150] 196)).alloc (.cells #[.pointer (some e)] 153)).setCell t (.pointer (some e)):=by
 have h6:= @run_callFunc_extern Go.Proofs.Tryz.prog 147 _ (fun args=>ReflectliteValue.unpack (args.getD 0 (.tuple #[]))) Go.Proofs.Tryz.func147 (by kernel_rfl) (by kernel_rfl) (by kernel_rfl) (by kernel_rfl)
 have h7 := @run_callFunc_extern Go.Proofs.Tryz.prog 148 _ (ReflectliteValue.methodAny (ReflectliteValue.valueError "reflectlite.Value.Type" 0) (fun t _ _ _ => ReflectliteType.toType t)) Go.Proofs.Tryz.func148 (by kernel_rfl) (by kernel_rfl) (by kernel_rfl) (by kernel_rfl)
 have h8 := @run_callFunc_extern Go.Proofs.Tryz.prog 149 _ (ReflectliteValue.method (ReflectliteValue.valueError "reflectlite.Value.IsNil" 0) ReflectliteValue.isNil) Go.Proofs.Tryz.func149 (by kernel_rfl) (by kernel_rfl) (by kernel_rfl) (by kernel_rfl)
 have h27:= @run_callFunc_extern Go.Proofs.Tryz.prog 193 _ (ReflectliteType.abiMethod fun t=>do pure (.int .u8 (<-Rtype.kind t))) Go.Proofs.Tryz.func193 (by kernel_rfl) (by kernel_rfl) (by kernel_rfl) (by kernel_rfl)
 have h37:= @run_callFunc_extern Go.Proofs.Tryz.prog 204 _ (ReflectliteType.method ReflectliteType.elem) Go.Proofs.Tryz.func204 (by kernel_rfl) (by kernel_rfl) (by kernel_rfl) (by kernel_rfl)
 have h38 := @run_callFunc_extern Go.Proofs.Tryz.prog 205 _ (ReflectliteType.relation "Implements" ReflectliteType.implements_) Go.Proofs.Tryz.func205 (by kernel_rfl) (by kernel_rfl) (by kernel_rfl) (by kernel_rfl)
 have h10:= @run_callFunc_extern Go.Proofs.Tryz.prog 168 _ ReflectliteType.typeOf Go.Proofs.Tryz.func168 (by kernel_rfl) (by kernel_rfl) (by kernel_rfl) (by kernel_rfl)
 have h35 := @run_callFunc_extern Go.Proofs.Tryz.prog 202 _ (ReflectliteType.relation "AssignableTo" ReflectliteType.assignableTo) Go.Proofs.Tryz.func202 (by kernel_rfl) (by kernel_rfl) (by kernel_rfl) (by kernel_rfl)
 have h11 := @run_callFunc_extern Go.Proofs.Tryz.prog 169 _ (ReflectliteValue.method (ReflectliteValue.valueError "reflectlite.Value.Elem" 0) ReflectliteValue.elem) Go.Proofs.Tryz.func169 (by kernel_rfl) (by kernel_rfl) (by kernel_rfl) (by kernel_rfl)
 have h12:= @run_callFunc_extern Go.Proofs.Tryz.prog 170 _ ReflectliteValue.set Go.Proofs.Tryz.func170 (by kernel_rfl) (by kernel_rfl) (by kernel_rfl) (by kernel_rfl)
 have tO:=c4b
 have mA:=a57
 have a25:=b6x
 have v25:=b5d
 have f6:=b5e
 have f7:=c11
 have mK:=b3e
 have mE:=b3d
 have mI:=a68
 have k27:=c10
 have k25:=c1z
 have e27:=c1y
 have i25:=b0l
 have n8:=b83 ⟨w.heap.size,0,none⟩ t ((w.alloc (.cells #[.pointer (some t)] 161)).alloc (.cells #[.pointer (some ⟨22,161,none⟩),.pointer (some ⟨w.heap.size,0,none⟩),.int .u64 150] 196)) (by simp)
 have hlt:9 < w.heap.size:=by
  rcases Nat.lt_or_ge 9 w.heap.size with h | h
  ·exact h
  ·simp [World.cell?,Array.getElem?_eq_none h] at hg
 have hg2:((w.alloc (.cells #[.pointer (some t)] 161)).alloc (.cells #[.pointer (some ⟨22,161,none⟩),.pointer (some ⟨w.heap.size,0,none⟩),.int .u64 150] 196)).cell? ⟨9,0,none⟩=some (.iface 212 (.agg #[.pointer (some ⟨22,35,none⟩)])):=by
  rw [World.cell?_alloc_lt _ _ ⟨9,0,none⟩ (by simp; omega),World.cell?_alloc_lt _ _ ⟨9,0,none⟩ hlt]; exact hg
 have htl:t.block < w.heap.size:=by
  rcases Nat.lt_or_ge t.block w.heap.size with h | h
  ·exact h
  ·simp [World.cell?,Array.getElem?_eq_none h] at ht0
 have el:=b82 ⟨w.heap.size,0,none⟩ t (((w.alloc (.cells #[.pointer (some t)] 161)).alloc (.cells #[.pointer (some ⟨22,161,none⟩),.pointer (some ⟨w.heap.size,0,none⟩),.int .u64 150] 196)).alloc (.cells #[.pointer (some ⟨22,161,none⟩),.pointer (some ⟨w.heap.size,0,none⟩),.int .u64 150] 196)) (by rw [World.cell?_alloc_lt _ _ ⟨w.heap.size,0,none⟩ (by simp; omega)]; simp)
 have st:=d1p t ⟨w.heap.size+1+1+1,0,none⟩ e old ((((w.alloc (.cells #[.pointer (some t)] 161)).alloc (.cells #[.pointer (some ⟨22,161,none⟩),.pointer (some ⟨w.heap.size,0,none⟩),.int .u64 150] 196)).alloc (.cells #[.pointer (some ⟨22,161,none⟩),.pointer (some ⟨w.heap.size,0,none⟩),.int .u64 150] 196)).alloc (.cells #[.pointer (some e)] 153))
  (by rw [World.cell?_alloc_at _ _ _ _ (by simp)]; rfl)
  (by rw [World.cell?_alloc_lt _ _ t (by simp; omega),World.cell?_alloc_lt _ _ t (by simp; omega),World.cell?_alloc_lt _ _ t (by simp; omega),World.cell?_alloc_lt _ _ t htl]; exact ht0)
  (by rw [World.frozen?_alloc_old _ _ t (by simp; omega),World.frozen?_alloc_old _ _ t (by simp; omega),World.frozen?_alloc_old _ _ t (by simp; omega),World.frozen?_alloc_old _ _ t (Nat.ne_of_lt htl)]; exact hf0)
 go_enter Go.Proofs.Tryz.func108,Go.Proofs.Tryz.ntmps108
 go_wp2
 refine wp_loop_rounds 1 ?_
 rw [rounds_succ]
 go_wp2
 go_ret
 exact ⟨rfl,rfl⟩
open Go.RowKit Go.Extern.Stop Go.Stop Go.Extern Go.Proofs
abbrev hnd:Value:= .iface 212 (.agg #[.pointer (some ⟨22,35,none⟩)])
theorem c40 {w:World} {a:Addr} {v:Value} (h:w.cell? a=some v):a.block < w.heap.size:=by
 rcases Nat.lt_or_ge a.block w.heap.size with h1 | h1
 ·exact h1
 ·simp [World.cell?,Array.getElem?_eq_none h1] at h
theorem a1t {w:World} {o:Obj}:(w.alloc o).heap.size=w.heap.size+1:=Array.size_push _
theorem c37 (k:Int) (a:Addr) (w:World) (hg:w.cell? ⟨9,0,none⟩=some hnd) :
  Calls Go.Proofs.Tryz.prog 59 #[.int .i64 k,.iface 230 (.pointer (some a))] w fun ev w'=>∃ b o1 o2 o3 t,w'=((((w.alloc (.cells #[.pointer none] 153)).alloc o1).alloc o2).alloc o3).alloc (.cells #[.int .i64 k,.iface 230 (.pointer (some a))] t)/\b=w.heap.size+1+1+1+1/\ev= .returned (.iface 153 (.pointer (some ⟨b,0,none⟩))):=by
 have hlt:9 < w.heap.size:=c40 hg
 have hgA:(w.alloc (.cells #[.pointer none] 153)).cell? ⟨9,0,none⟩=some hnd:=by
  rw [World.cell?_alloc_lt _ _ ⟨9,0,none⟩ hlt]; exact hg
 have htA:(w.alloc (.cells #[.pointer none] 153)).cell? ⟨w.heap.size,0,none⟩=some (.pointer none):=by simp
 have hfA:(w.alloc (.cells #[.pointer none] 153)).frozen? ⟨w.heap.size,0,none⟩=false:=by simp
 go_enter Go.Proofs.Tryz.func59,Go.Proofs.Tryz.ntmps59
 go_wp2_with (go_at_call 108; refine (c7c _ _ (.pointer none) _ hgA htA hfA).mono ?_; rintro e w' ⟨rfl,rfl⟩)
 go_ret
 exact ⟨_,_,_,_,_,rfl,rfl,rfl⟩
theorem c6x (k:Int) (eb eo:Nat) (xa:Addr) (w:World) (hg:w.cell? ⟨9,0,none⟩=some hnd) (he:w.cell? ⟨eb,eo+1,none⟩=some (.iface 230 (.pointer (some xa)))) :
  Calls Go.Proofs.Tryz.prog 59 #[.int .i64 k,.iface 153 (.pointer (some ⟨eb,eo,none⟩))] w fun ev w'=>∃ b o0 o1 o2 o3 o4 t,w'=(((((w.alloc o0).alloc o1).alloc o2).alloc o3).alloc o4).alloc (.cells #[.int .i64 k,.iface 230 (.pointer (some xa))] t)/\b=w.heap.size+1+1+1+1+1/\ev= .returned (.iface 153 (.pointer (some ⟨b,0,none⟩))):=by
 have hlt:9 < w.heap.size:=c40 hg
 have hle:eb < w.heap.size:=c40 he
 have hgA:(w.alloc (.cells #[.pointer none] 153)).cell? ⟨9,0,none⟩=some hnd:=by
  rw [World.cell?_alloc_lt _ _ ⟨9,0,none⟩ hlt]; exact hg
 have htA:(w.alloc (.cells #[.pointer none] 153)).cell? ⟨w.heap.size,0,none⟩=some (.pointer none):=by simp
 have hfA:(w.alloc (.cells #[.pointer none] 153)).frozen? ⟨w.heap.size,0,none⟩=false:=by simp
 have hx:∀ o0 o1 o2 o3 o4,(((((w.alloc o0).alloc o1).alloc o2).alloc o3).alloc o4).cell? ⟨eb,eo+1,none⟩=some (.iface 230 (.pointer (some xa))):=fun o0 o1 o2 o3 o4=>by
  rw [World.cell?_alloc_lt _ _ ⟨eb,eo+1,none⟩ (by simp only [a1t]; omega),World.cell?_alloc_lt _ _ ⟨eb,eo+1,none⟩ (by simp only [a1t]; omega),World.cell?_alloc_lt _ _ ⟨eb,eo+1,none⟩ (by simp only [a1t]; omega),World.cell?_alloc_lt _ _ ⟨eb,eo+1,none⟩ (by simp only [a1t]; omega),World.cell?_alloc_lt _ _ ⟨eb,eo+1,none⟩ hle]; exact he
 go_enter Go.Proofs.Tryz.func59,Go.Proofs.Tryz.ntmps59
 go_wp2_with (go_at_call 108; refine (c87 _ _ (.pointer none) _ hgA htA hfA).mono ?_; rintro e w' ⟨rfl,rfl⟩)
 go_ret
 exact ⟨_,_,_,_,_,_,_,rfl,rfl,rfl⟩
theorem a2y {w:World} {o:Obj} {b:Nat} (h:b < w.heap.size):(w.alloc o).heap[b]? =w.heap[b]? :=by
 show (w.heap.push o)[b]? =_
 rw [Array.getElem?_push,if_neg (Nat.ne_of_lt h)]
theorem b81 {G:GG} {bk:Nat->Nat×Nat} {w w' W:World} {A Fa:BS} {k:Int} {g t:Nat} (hw:w'=W.alloc (.cells #[.int .i64 k,.iface c8k (.pointer (some ⟨(bk g).1,(bk g).2,none⟩))] t)) (h1:w.heap.size<=W.heap.size) (h2:W.os=w.os) (h3:W.tape=w.tape) (h4:W.output=w.output) (h5:∀ b,b < w.heap.size->W.heap[b]? =w.heap[b]?) :
  Ret w A Fa w' (a05 bk (.at k (.s g))) (.iface f3b (.pointer (some ⟨W.heap.size,0,none⟩))):=by
 subst hw
 refine ⟨by rw [a1t]; omega,h2,h3,h4,fun b hb _=>by rw [a2y (by omega)]; exact h5 b hb,noB,fun _ h=>h.elim,?_⟩
 simp only [a05,R]
 refine ⟨_,rfl,W.heap.size,0,[.int .i64 k,.iface c8k (.pointer (some ⟨(bk g).1,(bk g).2,none⟩))],rfl,⟨by rw [a1t]; omega,fun h=>h,.inr (.inr h1)⟩,fun u hu=> ?_,?_,fun i u hu=> ?_⟩
 ·simp at hu
  rcases hu with rfl | rfl<;>rfl
 ·simp only [RL,R]
  exact ⟨_,_,rfl,noB,noB,fun _ h=>h,fun _ h=>h,fun _ h=>h.elim,rfl,_,_,rfl,noB,noB,fun _ h=>h,fun _ h=>h,fun _ h=>h.elim,rfl,rfl⟩
 ·rw [Nat.zero_add]
  have e:∀ j,(W.alloc (.cells #[.int .i64 k,.iface c8k (.pointer (some ⟨(bk g).1,(bk g).2,none⟩))] t)).cell? ⟨W.heap.size,j,none⟩=#[.int .i64 k,.iface c8k (.pointer (some ⟨(bk g).1,(bk g).2,none⟩))][j]? :=fun j=>by
   have:(W.alloc (.cells #[.int .i64 k,.iface c8k (.pointer (some ⟨(bk g).1,(bk g).2,none⟩))] t)).heap[W.heap.size]? =some (.cells #[.int .i64 k,.iface c8k (.pointer (some ⟨(bk g).1,(bk g).2,none⟩))] t):=by
    show (W.heap.push _)[W.heap.size]? =_
    rw [Array.getElem?_push,if_pos rfl]
   simp only [World.cell?,this,Option.isSome_none,Bool.false_eq_true,if_false]
  rw [e]
  rcases i with _ | _ | i
  ·exact hu
  ·exact hu
  ·simp at hu
theorem c1x {G:GG} {bk:Nat->Nat×Nat} (hh:G.hs=[(9,hnd)]):Around G bk:=by
 have key:∀ {w:World},(∀ g v,G.at g v->GC G w g v/\g < w.heap.size)->w.cell? ⟨9,0,none⟩=some hnd:=fun h=>by
  obtain ⟨⟨c,t,fz,h1,h2,_⟩,_⟩:=h 9 hnd (.inr (by rw [hh]; simp))
  simpa [World.cell?,h1] using h2
 constructor
 ·intro k g hg w args A ow hsz hA how hG hpre
  obtain ⟨l⟩:=args
  match l,hsz with
  | [x,y],_=>
   have h0:=hpre 0 _ rfl
   have h1:=hpre 1 _ rfl
   rw [show (Array.mk [x,y]).getD 0 undef=x from rfl] at h0
   rw [show (Array.mk [x,y]).getD 1 undef=y from rfl] at h1
   simp only [a05,R] at h0 h1
   subst h0 h1
   refine (c37 k _ w (key fun g v h=>⟨(hG g v h).1,(hG g v h).2.1⟩)).mono ?_
   rintro e w' ⟨b,o1,o2,o3,t,hw,rfl,rfl⟩
   refine ⟨_,rfl,?_⟩
   have:=b81 (G:=G) (bk:=bk) (w:=w) (A:=A) (Fa:=fun b=>ow b≠none) (k:=k) (g:=g) hw (by simp only [a1t]; omega) rfl rfl rfl (fun b hb=>by
    rw [a2y (by simp only [a1t]; omega),a2y (by simp only [a1t]; omega),a2y (by simp only [a1t]; omega),a2y (by omega)])
   simpa only [a1t] using this
 ·intro k q g hg w args A ow hsz hA how hG hpre
  obtain ⟨l⟩:=args
  match l,hsz with
  | [x,y],_=>
   have h0:=hpre 0 _ rfl
   have h1:=hpre 1 _ rfl
   rw [show (Array.mk [x,y]).getD 0 undef=x from rfl] at h0
   rw [show (Array.mk [x,y]).getD 1 undef=y from rfl] at h1
   simp only [a05,R,RL] at h0 h1
   obtain ⟨u,rfl,b,o,vs,rfl,hb,hc,⟨v1,vs1,rfl,_,_,_,_,_,rfl,v2,vs2,rfl,_,_,_,_,_,rfl,rfl⟩,hcell⟩:=h1
   subst h0
   refine (c6x k b (o+0) _ w (key fun g v h=>⟨(hG g v h).1,(hG g v h).2.1⟩) (hcell 1 _ rfl)).mono ?_
   rintro e w' ⟨b',o0,o1,o2,o3,o4,t,hw,rfl,rfl⟩
   refine ⟨_,rfl,?_⟩
   have:=b81 (G:=G) (bk:=bk) (w:=w) (A:=A) (Fa:=fun b=>ow b≠none) (k:=k) (g:=g) hw (by simp only [a1t]; omega) rfl rfl rfl (fun b hb=>by
    rw [a2y (by simp only [a1t]; omega),a2y (by simp only [a1t]; omega),a2y (by simp only [a1t]; omega),a2y (by simp only [a1t]; omega),a2y (by omega)])
   simpa only [a1t] using this
end Go.Ideal.Tryz
end
section
namespace Go.Ideal.Tryz
attribute [local go_sem] eD
theorem f6n {e:Er} (h:e.wb):e.ok:=by
 rcases h with rfl | ⟨g,hg,rfl⟩ | ⟨q,g,hg,rfl⟩
 ·exact .nil
 ·exact .s hg
 ·exact .at hg
theorem b9b {ns:List Nd}:∀ {is:List Int} {l:Lk},(a1y ns l is).2.wb
 | [],_=> .inl rfl
 | i::is,l=>by
  rw [a1y]
  split
  ·exact b9b
  ·exact e0x c0m
theorem d3e {ins:List (List Int)} (hr:∀ r∈ins,r.length < 2 ^ 61) {i:Int} {g:Nat} (h:a9i ins= .error (i,g)):g < 21:=((b1j hr).1 i g h).2
theorem d40 {g:Gr} (hf:∀ n∈g.nodes,n.sh):(ofR g).2.wb:=by
 unfold ofR
 split
 ·exact .inr (.inl ⟨2,by decide,rfl⟩)
 split
 ·exact .inr (.inl ⟨0,by decide,rfl⟩)
 have hr:∀ r∈g.nodes.map (·.ins),r.length < 2 ^ 61:=by
  intro r hr
  obtain ⟨n,hn,rfl⟩:=List.mem_map.1 hr
  have:=(hf n hn).ins
  omega
 cases ho:a9i (g.nodes.map (·.ins)) with
 | error e=>
  obtain ⟨i,k⟩:=e
  exact .inr (.inr ⟨i,k,d3e hr ho,rfl⟩)
 | ok ord=>exact b9b
theorem d26 {g:Gr} (hf:∀ n∈g.nodes,n.sh):(b2s g).2.wb:=by
 unfold b2s
 split
 ·unfold c2s
  split
  ·exact .inr (.inl ⟨7,by decide,rfl⟩)
  ·exact .inl rfl
 ·exact d40 hf
section
variable {G:GG} {bk:Nat->Nat×Nat} {Q:Exit->St->Prop} {st:St}
theorem e5h (hS:Sent G bk) {e:Er} (h:e.wb):ACalls pg G b0g [a05 bk e,fE e] (lb true):=by
 have:=e5f hS (f6n h) e.flt
 simpa using this
theorem d3a {l:List Sp} (hl:l.length < 2 ^ 40) (h:st.s 4=owS l/\st.s 7=owS l/\st.s 10=li 0)
  (hex:∀ s:St,Q (.exit 0) s):AW pg G 106 (.loop a2r) Q st:=by
 refine a0u Nat (fun j st=>j<=l.length/\st.s 4=owS l/\st.s 7=owS l/\st.s 10=li j) (fun j=>l.length - j) 0 ⟨by simp,by simpa using h⟩ ?_
 clear h
 rintro j st K ⟨hj,h⟩ hK
 by_cases c:j < l.length
 ·simp (disch:=omega) [go_sem,a2r,h,c]
  refine a0b ?_
  simp (disch:=omega) [go_sem,h,c]
  refine a0d (a48 (by kernel_rfl)) fun s2 hs2 hep=> ?_
  have f:s2.s 4=owS l/\s2.s 7=owS l/\s2.s 10=li j/\s2.s 105=lb false:=by
   refine ⟨?_,?_,?_,?_⟩<;>simp (disch:=omega) [go_sem,hs2,h]
  clear hs2 hep h
  simp (disch:=omega) [go_sem,f]
  exact hK (j+1) _ ⟨by omega,by simp (disch:=omega) [go_sem,f]⟩ (by omega)
 ·have:j=l.length:=by omega
  subst this
  simp (disch:=omega) [go_sem,a2r,h]
  exact hex _
theorem c2w (hS:Sent G bk) (hA:Around G bk) (g:Gr) (hn:g.nodes.length < 2 ^ 62) (hfin:∀ n∈g.nodes,n.fin):ACalls pg G b0b [d1i g] (lb true):=by
 refine a8q rfl ?_
 simp (disch:=omega) [go_sem,a6a]
 refine a0c (d56 hS.o hA) rfl rfl ?_
 simp (disch:=omega) [go_sem]
 refine a0c (d4d g hn hfin) rfl rfl ?_
 cases hw:b51 g with
 | false=>simp (disch:=omega) [go_sem]
 | true=>
  have hw2:=hw
  simp only [b51,Bool.and_eq_true,decide_eq_true_eq,List.all_eq_true,a6u] at hw2
  obtain ⟨hl70,hsm⟩:=hw2
  have hf:∀ n∈g.nodes,n.sh:=fun n h=>by
   have:=hsm n h
   exact ⟨by omega,by omega,by omega,by omega⟩
  have ht:tot (g.nodes.map (·.ins))<=10*(g.nodes.map (·.ins)).length:=d48 (fun r hr=>by
   obtain ⟨x,hx,rfl⟩:=List.mem_map.1 hr
   exact (hsm x hx).1.1)
  rw [List.length_map] at ht
  have hlv:=e3g hS.o hA g hf (by omega) (by omega) (fun hnil=>by
   obtain ⟨a1,a2,a3,a4,a5,a6,a7,a8,a9⟩:=c6f hf hnil
   exact ⟨a1,a4,by omega,a6,fun d hd=>by have:=a7 d hd; omega⟩)
  have hrl:=d68 (G:=G) g hf (by omega) (d40 hf) (fun hnil=>by
   obtain ⟨a1,a2,a3,a4,a5,a6,a7,a8,a9⟩:=c6f hf hnil
   have hx:=a5i (ins:=g.nodes.map (·.ins)) (fun r hr=>by
    obtain ⟨n,hn,rfl⟩:=List.mem_map.1 hr
    have:=(hf n hn).ins
    omega) a3
   simp only [List.length_map] at hx
   exact ⟨a1,fun n hn=>by have:=(hf n hn).ins; omega,a4,a5,hx.1,hx.2.1,a6,fun d hd=>by have:=a7 d hd; omega,fun i hi hop=>e4i hf hnil hi hop⟩)
  have hsame:=e5h (G:=G) hS (d26 hf)
  have hlen:(b2s g).1.1.length < 2 ^ 40:=by
   unfold b2s
   split
   ·unfold c2s
    split
    ·simp
    ·simp only [e8c]
     have hso:(a3b g (ofR g).1).1.length=g.nodes.length:=by rw [a3b,b6p,a9a]; simp
     split
     ·rw [List.length_append,b70,hso]; simp; omega
     ·rw [b70,hso]; omega
   ·simp
  generalize b2s g=r at *
  obtain ⟨⟨l,m⟩,e⟩:=r
  simp only at hlv hrl hsame hlen
  simp (disch:=omega) [go_sem]
  refine a5w hlv (by simp [go_sem,a0p]) ?_ ?_
  all_goals
   simp (disch:=omega) [go_sem]
   refine a5w hrl (by simp [go_sem,a0p]) ?_ ?_
   all_goals
    simp (disch:=omega) [go_sem,a0f]
    refine a0g hsame rfl (by simp (disch:=omega) [go_sem]) ?_
    simp (disch:=omega) [go_sem]
    refine d3a (l:=l) hlen (by simp (disch:=omega) [go_sem]) (fun s=> ?_)
    simp (disch:=omega) [go_sem]
end
end Go.Ideal.Tryz
end
