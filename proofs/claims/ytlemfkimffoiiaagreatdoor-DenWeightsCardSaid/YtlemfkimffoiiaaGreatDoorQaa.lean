/- Part Qaa of the proof: walks on a machine that is proved sound. -/
import Derived.Test.YtlemfkimffoiiaaGreatDoorProg
import Derived.WalkKit
import Derived.LaidEql
import Derived.Stop.Asserts
import Derived.RowKitTokens
set_option linter.unusedVariables false
set_option linter.unusedSimpArgs false
set_option maxHeartbeats 4000000
set_option maxRecDepth 100000
section
namespace Go.Ideal.Tryz
open Go.RowKit Go.Extern.Stop Go.Stop Go.Extern Go.Proofs
theorem b12 (t:Addr) (w:World):(ReflectliteValue.unpack (.iface 113 (.pointer (some t)))).run Go.Proofs.Tryz.prog w
  = .ok (.agg #[.pointer (some ⟨22,113,none⟩),.pointer (some ⟨w.heap.size,0,none⟩),.int .u64 150]) (w.alloc (.cells #[.pointer (some t)] 113)):=by kernel_rfl
theorem b8w (a : Addr) (w : World) : (ReflectliteValue.methodAny (ReflectliteValue.valueError "reflectlite.Value.Type" 0) (fun t _ _ _ => ReflectliteType.toType t) #[.agg #[.pointer (some ⟨22, 113, none⟩), .pointer (some a), .int .u64 150]]).run Go.Proofs.Tryz.prog w
  = .ok (.iface 137 (.agg #[.pointer (some ⟨22,113,none⟩)])) w:=by kernel_rfl
theorem a95 (h : Value) (w : World) : (Go.method 281 137 (.agg #[h]) "Kind").run Go.Proofs.Tryz.prog w = .ok (102, h) w := by kernel_rfl
theorem b8v (w:World):((ReflectliteType.abiMethod fun t=>(fun a:Nat=>Value.int IntKind.u8 (a:Int)) <$> Rtype.kind t) #[.pointer (some ⟨22,113,none⟩)]).run Go.Proofs.Tryz.prog w= .ok (.int .u8 22) w:=by kernel_rfl
theorem b8u (w:World):((ReflectliteType.abiMethod fun t=>(fun a:Nat=>Value.int IntKind.u8 (a:Int)) <$> Rtype.kind t) #[.pointer (some ⟨22,83,none⟩)]).run Go.Proofs.Tryz.prog w= .ok (.int .u8 22) w:=by kernel_rfl
theorem d11 (z:Sem Value) (f:TypeId->Addr->Nat->Nat->Sem Value) (v:Value) :
  ReflectliteValue.method z f #[v]=(do match<-ReflectliteValue.parts v with | none=>z | some (t,a,fl)=>f t a fl (fl % 32)):=rfl
theorem b5r (a:Addr) (w:World):(ReflectliteValue.parts (.agg #[.pointer (some ⟨22,113,none⟩),.pointer (some a),.int .u64 150])).run Go.Proofs.Tryz.prog w= .ok (some (113,a,150)) w:=by kernel_rfl
theorem b5q (a p:Addr) (W:World) (ha:W.cell? a=some (.pointer (some p))) :
  (ReflectliteValue.method (ReflectliteValue.valueError "reflectlite.Value.IsNil" 0) ReflectliteValue.isNil #[.agg #[.pointer (some ⟨22, 113, none⟩), .pointer (some a), .int .u64 150]]).run Go.Proofs.Tryz.prog W = .ok (.bool false) W := by
 rw [d11]
 simp only [Sem.run_bind,b5r,Result.andThen]
 simp [ReflectliteValue.isNil,loadVar,isAgg,underlying,Go.Proofs.Tryz.underlying113,ha,Result.andThen]
theorem a94 (h : Value) (w : World) : (Go.method 281 137 (.agg #[h]) "Elem").run Go.Proofs.Tryz.prog w = .ok (113, .agg #[h]) w := by kernel_rfl
theorem a5f (h : Value) (w : World) : (Go.method 281 137 (.agg #[h]) "Implements").run Go.Proofs.Tryz.prog w = .ok (114, .agg #[h]) w := by kernel_rfl
theorem a4q (h : Value) (w : World) : (Go.method 281 137 (.agg #[h]) "AssignableTo").run Go.Proofs.Tryz.prog w = .ok (111, .agg #[h]) w := by kernel_rfl
theorem b8t (w:World):(ReflectliteType.method ReflectliteType.elem #[.agg #[.pointer (some ⟨22,113,none⟩)]]).run Go.Proofs.Tryz.prog w= .ok (.iface 137 (.agg #[.pointer (some ⟨22,83,none⟩)])) w:=by kernel_rfl
theorem a7r (w : World) : (ReflectliteType.relation "Implements" ReflectliteType.implements_ #[.agg #[.pointer (some ⟨22, 83, none⟩)], .iface 137 (.agg #[.pointer (some ⟨22, 38, none⟩)])]).run Go.Proofs.Tryz.prog w = .ok (.bool true) w := by kernel_rfl
theorem c1b (v:Value) (w:World):(ReflectliteType.typeOf #[.iface 83 v]).run Go.Proofs.Tryz.prog w= .ok (.iface 137 (.agg #[.pointer (some ⟨22,83,none⟩)])) w:=by kernel_rfl
theorem b3o (w : World) : (ReflectliteType.relation "AssignableTo" ReflectliteType.assignableTo #[.agg #[.pointer (some ⟨22, 83, none⟩)], .iface 137 (.agg #[.pointer (some ⟨22, 83, none⟩)])]).run Go.Proofs.Tryz.prog w = .ok (.bool true) w := by kernel_rfl
theorem b11 (e:Addr) (w:World):(ReflectliteValue.unpack (.iface 83 (.pointer (some e)))).run Go.Proofs.Tryz.prog w
  = .ok (.agg #[.pointer (some ⟨22,83,none⟩),.pointer (some ⟨w.heap.size,0,none⟩),.int .u64 150]) (w.alloc (.cells #[.pointer (some e)] 83)):=by kernel_rfl
theorem c09 (w:World):(Rtype.elem? 113).run Go.Proofs.Tryz.prog w= .ok (some 83) w:=by kernel_rfl
theorem d25 (p:Addr) (w:World):(ReflectliteValue.mk 83 p ReflectliteValue.flagAddr).run Go.Proofs.Tryz.prog w= .ok (.agg #[.pointer (some ⟨22,83,none⟩),.pointer (some p),.int .u64 406]) w:=by kernel_rfl
theorem b5p (a p:Addr) (W:World) (ha:W.cell? a=some (.pointer (some p))) :
  (ReflectliteValue.method (ReflectliteValue.valueError "reflectlite.Value.Elem" 0) ReflectliteValue.elem #[.agg #[.pointer (some ⟨22, 113, none⟩), .pointer (some a), .int .u64 150]]).run Go.Proofs.Tryz.prog W
   = .ok (.agg #[.pointer (some ⟨22,83,none⟩),.pointer (some p),.int .u64 406]) W:=by
 rw [d11]
 simp only [Sem.run_bind,b5r,Result.andThen]
 simp [ReflectliteValue.elem,loadVar,isAgg,underlying,Go.Proofs.Tryz.underlying113,ha,Result.andThen,c09,d25]
theorem d9w (v x:Value):ReflectliteValue.set #[v,x]=(do
  let (some (dst,a,fl),some (src,b,_)):=(<-ReflectliteValue.parts v,<-ReflectliteValue.parts x)
   | unsupported (.noEntry "extern/(internal/reflectlite.Value).Set.zeroValue")
  if fl / ReflectliteValue.flagAddr % 2 == 0 then unsupported (.noEntry "extern/(internal/reflectlite.Value).Set.unaddressable")
  let val<-loadVar src b
  if<-Rtype.directlyAssignable dst src then storeVar dst a val
  else if<-Rtype.implements dst src then
   if (<-Rtype.kind src)==20 then
    match val with
    | .nilIface => unsupported (.noEntry "extern/reflectlite: a nil value of one interface type handed on as a value of another")
    | _=>storeVar dst a val
   else storeVar dst a (.iface src val)
  else panicString ("reflectlite.Set: value of type " ++ (<- Rtype.spelt src) ++ " is not assignable to type " ++ (<- Rtype.spelt dst))
  pure (.tuple #[])):=rfl
theorem c1a (a:Addr) (w:World):(ReflectliteValue.parts (.agg #[.pointer (some ⟨22,83,none⟩),.pointer (some a),.int .u64 406])).run Go.Proofs.Tryz.prog w= .ok (some (83,a,406)) w:=by kernel_rfl
theorem c38 (a:Addr) (w:World):(ReflectliteValue.parts (.agg #[.pointer (some ⟨22,83,none⟩),.pointer (some a),.int .u64 150])).run Go.Proofs.Tryz.prog w= .ok (some (83,a,150)) w:=by kernel_rfl
theorem c08 (w:World):(Rtype.directlyAssignable 83 83).run Go.Proofs.Tryz.prog w= .ok true w:=by kernel_rfl
theorem c9k (ta b e:Addr) (old:Value) (W:World) (hb:W.cell? b=some (.pointer (some e))) (ht:W.cell? ta=some old) (hf:W.frozen? ta=false) :
  (ReflectliteValue.set #[.agg #[.pointer (some ⟨22,83,none⟩),.pointer (some ta),.int .u64 406],.agg #[.pointer (some ⟨22,83,none⟩),.pointer (some b),.int .u64 150]]).run Go.Proofs.Tryz.prog W
   = .ok (.tuple #[]) (W.setCell ta (.pointer (some e))):=by
 rw [d9w]
 simp only [Sem.run_bind,c1a,c38,Result.andThen]
 simp [ReflectliteValue.flagAddr,loadVar,isAgg,underlying,Go.Proofs.Tryz.underlying83,hb,Result.andThen,c08,storeVar,Value.cells,storeCells,Addr.add]
 rw [run_store Go.Proofs.Tryz.prog W ta _ _ (by rfl)]
 simp [ht,hf]
theorem c1c (v:Value) (w:World):(ReflectliteType.typeOf #[.iface 148 v]).run Go.Proofs.Tryz.prog w= .ok (.iface 137 (.agg #[.pointer (some ⟨22,148,none⟩)])) w:=by kernel_rfl
theorem b3p (w : World) : (ReflectliteType.relation "AssignableTo" ReflectliteType.assignableTo #[.agg #[.pointer (some ⟨22, 148, none⟩)], .iface 137 (.agg #[.pointer (some ⟨22, 83, none⟩)])]).run Go.Proofs.Tryz.prog w = .ok (.bool false) w := by kernel_rfl
theorem f6p (v:Value) (xT:TypeId) (w:World):(Instr.typeAssert (.iface 148 v) xT 142 true).run Go.Proofs.Tryz.prog w= .ok (.tuple #[.nilIface,.bool false]) w:=run_typeAssert_lacksB Go.Proofs.Tryz.underlying142 (by kernel_rfl) (by kernel_rfl) v xT w
theorem c7s (v:Value) (xT:TypeId) (w:World):(Instr.typeAssert (.iface 148 v) xT 145 true).run Go.Proofs.Tryz.prog w= .ok (.tuple #[.nilIface,.bool false]) w:=run_typeAssert_lacksB Go.Proofs.Tryz.underlying145 (by kernel_rfl) (by kernel_rfl) v xT w
theorem c5a (v:Value) (xT:TypeId) (w:World):(Instr.typeAssert (.iface 148 v) xT 147 true).run Go.Proofs.Tryz.prog w= .ok (.tuple #[.nilIface,.bool false]) w:=run_typeAssert_lacksB Go.Proofs.Tryz.underlying147 (by kernel_rfl) (by kernel_rfl) v xT w
theorem c4k (e t:Addr) (old:Value) (w:World) (hg:w.cell? ⟨21,0,none⟩=some (.iface 137 (.agg #[.pointer (some ⟨22,38,none⟩)]))) (ht0:w.cell? t=some old) (hf0:w.frozen? t=false) :
  Calls Go.Proofs.Tryz.prog 66 #[.iface 148 (.pointer (some e)),.iface 113 (.pointer (some t))] w fun ev w'=>ev= .returned (.bool false)/\w'=(((w.alloc (.cells #[.pointer (some t)] 113)).alloc (.cells #[.pointer (some ⟨22,113,none⟩),.pointer (some ⟨w.heap.size,0,none⟩),.int .u64 150] 126)).alloc (.cells #[.pointer (some ⟨22,113,none⟩),.pointer (some ⟨w.heap.size,0,none⟩),.int .u64 150] 126)):=by
 have h6:= @run_callFunc_extern Go.Proofs.Tryz.prog 79 _ (fun args=>ReflectliteValue.unpack (args.getD 0 (.tuple #[]))) Go.Proofs.Tryz.func79 (by kernel_rfl) (by kernel_rfl) (by kernel_rfl) (by kernel_rfl)
 have h7 := @run_callFunc_extern Go.Proofs.Tryz.prog 80 _ (ReflectliteValue.methodAny (ReflectliteValue.valueError "reflectlite.Value.Type" 0) (fun t _ _ _ => ReflectliteType.toType t)) Go.Proofs.Tryz.func80 (by kernel_rfl) (by kernel_rfl) (by kernel_rfl) (by kernel_rfl)
 have h8 := @run_callFunc_extern Go.Proofs.Tryz.prog 81 _ (ReflectliteValue.method (ReflectliteValue.valueError "reflectlite.Value.IsNil" 0) ReflectliteValue.isNil) Go.Proofs.Tryz.func81 (by kernel_rfl) (by kernel_rfl) (by kernel_rfl) (by kernel_rfl)
 have h27:= @run_callFunc_extern Go.Proofs.Tryz.prog 102 _ (ReflectliteType.abiMethod fun t=>do pure (.int .u8 (<-Rtype.kind t))) Go.Proofs.Tryz.func102 (by kernel_rfl) (by kernel_rfl) (by kernel_rfl) (by kernel_rfl)
 have h37:= @run_callFunc_extern Go.Proofs.Tryz.prog 113 _ (ReflectliteType.method ReflectliteType.elem) Go.Proofs.Tryz.func113 (by kernel_rfl) (by kernel_rfl) (by kernel_rfl) (by kernel_rfl)
 have h38 := @run_callFunc_extern Go.Proofs.Tryz.prog 114 _ (ReflectliteType.relation "Implements" ReflectliteType.implements_) Go.Proofs.Tryz.func114 (by kernel_rfl) (by kernel_rfl) (by kernel_rfl) (by kernel_rfl)
 have h10:= @run_callFunc_extern Go.Proofs.Tryz.prog 85 _ ReflectliteType.typeOf Go.Proofs.Tryz.func85 (by kernel_rfl) (by kernel_rfl) (by kernel_rfl) (by kernel_rfl)
 have h35 := @run_callFunc_extern Go.Proofs.Tryz.prog 111 _ (ReflectliteType.relation "AssignableTo" ReflectliteType.assignableTo) Go.Proofs.Tryz.func111 (by kernel_rfl) (by kernel_rfl) (by kernel_rfl) (by kernel_rfl)
 have h11 := @run_callFunc_extern Go.Proofs.Tryz.prog 86 _ (ReflectliteValue.method (ReflectliteValue.valueError "reflectlite.Value.Elem" 0) ReflectliteValue.elem) Go.Proofs.Tryz.func86 (by kernel_rfl) (by kernel_rfl) (by kernel_rfl) (by kernel_rfl)
 have h12:= @run_callFunc_extern Go.Proofs.Tryz.prog 87 _ ReflectliteValue.set Go.Proofs.Tryz.func87 (by kernel_rfl) (by kernel_rfl) (by kernel_rfl) (by kernel_rfl)
 have tO:=c1c
 have mA:=a4q
 have a25:=b3p
 have nE:=f6p
 have uE:=c7s
 have vE:=c5a
 have v25:=b11
 have f6:=b12
 have f7:=b8w
 have mK:=a95
 have mE:=a94
 have mI:=a5f
 have k27:=b8v
 have k25:=b8u
 have e27:=b8t
 have i25:=a7r
 have n8:=b5q ⟨w.heap.size,0,none⟩ t ((w.alloc (.cells #[.pointer (some t)] 113)).alloc (.cells #[.pointer (some ⟨22,113,none⟩),.pointer (some ⟨w.heap.size,0,none⟩),.int .u64 150] 126)) (by simp)
 have hlt:21 < w.heap.size:=by
  rcases Nat.lt_or_ge 21 w.heap.size with h | h
  ·exact h
  ·simp [World.cell?,Array.getElem?_eq_none h] at hg
 have hg2:((w.alloc (.cells #[.pointer (some t)] 113)).alloc (.cells #[.pointer (some ⟨22,113,none⟩),.pointer (some ⟨w.heap.size,0,none⟩),.int .u64 150] 126)).cell? ⟨21,0,none⟩=some (.iface 137 (.agg #[.pointer (some ⟨22,38,none⟩)])):=by
  rw [World.cell?_alloc_lt _ _ ⟨21,0,none⟩ (by simp; omega),World.cell?_alloc_lt _ _ ⟨21,0,none⟩ hlt]; exact hg
 have htl:t.block < w.heap.size:=by
  rcases Nat.lt_or_ge t.block w.heap.size with h | h
  ·exact h
  ·simp [World.cell?,Array.getElem?_eq_none h] at ht0
 have el:=b5p ⟨w.heap.size,0,none⟩ t (((w.alloc (.cells #[.pointer (some t)] 113)).alloc (.cells #[.pointer (some ⟨22,113,none⟩),.pointer (some ⟨w.heap.size,0,none⟩),.int .u64 150] 126)).alloc (.cells #[.pointer (some ⟨22,113,none⟩),.pointer (some ⟨w.heap.size,0,none⟩),.int .u64 150] 126)) (by rw [World.cell?_alloc_lt _ _ ⟨w.heap.size,0,none⟩ (by simp; omega)]; simp)
 go_enter Go.Proofs.Tryz.func66,Go.Proofs.Tryz.ntmps66
 go_wp2
 refine wp_loop_rounds 1 ?_
 rw [rounds_succ]
 go_wp2
 go_ret
 exact ⟨rfl,rfl⟩
theorem c6v (e t:Addr) (old:Value) (w:World) (hg:w.cell? ⟨21,0,none⟩=some (.iface 137 (.agg #[.pointer (some ⟨22,38,none⟩)]))) (ht0:w.cell? t=some old) (hf0:w.frozen? t=false) :
  Calls Go.Proofs.Tryz.prog 66 #[.iface 83 (.pointer (some e)),.iface 113 (.pointer (some t))] w fun ev w'=>ev= .returned (.bool true)/\w'=((((w.alloc (.cells #[.pointer (some t)] 113)).alloc (.cells #[.pointer (some ⟨22,113,none⟩),.pointer (some ⟨w.heap.size,0,none⟩),.int .u64 150] 126)).alloc (.cells #[.pointer (some ⟨22,113,none⟩),.pointer (some ⟨w.heap.size,0,none⟩),.int .u64 150] 126)).alloc (.cells #[.pointer (some e)] 83)).setCell t (.pointer (some e)):=by
 have h6:= @run_callFunc_extern Go.Proofs.Tryz.prog 79 _ (fun args=>ReflectliteValue.unpack (args.getD 0 (.tuple #[]))) Go.Proofs.Tryz.func79 (by kernel_rfl) (by kernel_rfl) (by kernel_rfl) (by kernel_rfl)
 have h7 := @run_callFunc_extern Go.Proofs.Tryz.prog 80 _ (ReflectliteValue.methodAny (ReflectliteValue.valueError "reflectlite.Value.Type" 0) (fun t _ _ _ => ReflectliteType.toType t)) Go.Proofs.Tryz.func80 (by kernel_rfl) (by kernel_rfl) (by kernel_rfl) (by kernel_rfl)
 have h8 := @run_callFunc_extern Go.Proofs.Tryz.prog 81 _ (ReflectliteValue.method (ReflectliteValue.valueError "reflectlite.Value.IsNil" 0) ReflectliteValue.isNil) Go.Proofs.Tryz.func81 (by kernel_rfl) (by kernel_rfl) (by kernel_rfl) (by kernel_rfl)
 have h27:= @run_callFunc_extern Go.Proofs.Tryz.prog 102 _ (ReflectliteType.abiMethod fun t=>do pure (.int .u8 (<-Rtype.kind t))) Go.Proofs.Tryz.func102 (by kernel_rfl) (by kernel_rfl) (by kernel_rfl) (by kernel_rfl)
 have h37:= @run_callFunc_extern Go.Proofs.Tryz.prog 113 _ (ReflectliteType.method ReflectliteType.elem) Go.Proofs.Tryz.func113 (by kernel_rfl) (by kernel_rfl) (by kernel_rfl) (by kernel_rfl)
 have h38 := @run_callFunc_extern Go.Proofs.Tryz.prog 114 _ (ReflectliteType.relation "Implements" ReflectliteType.implements_) Go.Proofs.Tryz.func114 (by kernel_rfl) (by kernel_rfl) (by kernel_rfl) (by kernel_rfl)
 have h10:= @run_callFunc_extern Go.Proofs.Tryz.prog 85 _ ReflectliteType.typeOf Go.Proofs.Tryz.func85 (by kernel_rfl) (by kernel_rfl) (by kernel_rfl) (by kernel_rfl)
 have h35 := @run_callFunc_extern Go.Proofs.Tryz.prog 111 _ (ReflectliteType.relation "AssignableTo" ReflectliteType.assignableTo) Go.Proofs.Tryz.func111 (by kernel_rfl) (by kernel_rfl) (by kernel_rfl) (by kernel_rfl)
 have h11 := @run_callFunc_extern Go.Proofs.Tryz.prog 86 _ (ReflectliteValue.method (ReflectliteValue.valueError "reflectlite.Value.Elem" 0) ReflectliteValue.elem) Go.Proofs.Tryz.func86 (by kernel_rfl) (by kernel_rfl) (by kernel_rfl) (by kernel_rfl)
 have h12:= @run_callFunc_extern Go.Proofs.Tryz.prog 87 _ ReflectliteValue.set Go.Proofs.Tryz.func87 (by kernel_rfl) (by kernel_rfl) (by kernel_rfl) (by kernel_rfl)
 have tO:=c1b
 have mA:=a4q
 have a25:=b3o
 have v25:=b11
 have f6:=b12
 have f7:=b8w
 have mK:=a95
 have mE:=a94
 have mI:=a5f
 have k27:=b8v
 have k25:=b8u
 have e27:=b8t
 have i25:=a7r
 have n8:=b5q ⟨w.heap.size,0,none⟩ t ((w.alloc (.cells #[.pointer (some t)] 113)).alloc (.cells #[.pointer (some ⟨22,113,none⟩),.pointer (some ⟨w.heap.size,0,none⟩),.int .u64 150] 126)) (by simp)
 have hlt:21 < w.heap.size:=by
  rcases Nat.lt_or_ge 21 w.heap.size with h | h
  ·exact h
  ·simp [World.cell?,Array.getElem?_eq_none h] at hg
 have hg2:((w.alloc (.cells #[.pointer (some t)] 113)).alloc (.cells #[.pointer (some ⟨22,113,none⟩),.pointer (some ⟨w.heap.size,0,none⟩),.int .u64 150] 126)).cell? ⟨21,0,none⟩=some (.iface 137 (.agg #[.pointer (some ⟨22,38,none⟩)])):=by
  rw [World.cell?_alloc_lt _ _ ⟨21,0,none⟩ (by simp; omega),World.cell?_alloc_lt _ _ ⟨21,0,none⟩ hlt]; exact hg
 have htl:t.block < w.heap.size:=by
  rcases Nat.lt_or_ge t.block w.heap.size with h | h
  ·exact h
  ·simp [World.cell?,Array.getElem?_eq_none h] at ht0
 have el:=b5p ⟨w.heap.size,0,none⟩ t (((w.alloc (.cells #[.pointer (some t)] 113)).alloc (.cells #[.pointer (some ⟨22,113,none⟩),.pointer (some ⟨w.heap.size,0,none⟩),.int .u64 150] 126)).alloc (.cells #[.pointer (some ⟨22,113,none⟩),.pointer (some ⟨w.heap.size,0,none⟩),.int .u64 150] 126)) (by rw [World.cell?_alloc_lt _ _ ⟨w.heap.size,0,none⟩ (by simp; omega)]; simp)
 have st:=c9k t ⟨w.heap.size+1+1+1,0,none⟩ e old ((((w.alloc (.cells #[.pointer (some t)] 113)).alloc (.cells #[.pointer (some ⟨22,113,none⟩),.pointer (some ⟨w.heap.size,0,none⟩),.int .u64 150] 126)).alloc (.cells #[.pointer (some ⟨22,113,none⟩),.pointer (some ⟨w.heap.size,0,none⟩),.int .u64 150] 126)).alloc (.cells #[.pointer (some e)] 83))
  (by rw [World.cell?_alloc_at _ _ _ _ (by simp)]; rfl)
  (by rw [World.cell?_alloc_lt _ _ t (by simp; omega),World.cell?_alloc_lt _ _ t (by simp; omega),World.cell?_alloc_lt _ _ t (by simp; omega),World.cell?_alloc_lt _ _ t htl]; exact ht0)
  (by rw [World.frozen?_alloc_old _ _ t (by simp; omega),World.frozen?_alloc_old _ _ t (by simp; omega),World.frozen?_alloc_old _ _ t (by simp; omega),World.frozen?_alloc_old _ _ t (Nat.ne_of_lt htl)]; exact hf0)
 go_enter Go.Proofs.Tryz.func66,Go.Proofs.Tryz.ntmps66
 go_wp2
 refine wp_loop_rounds 1 ?_
 rw [rounds_succ]
 go_wp2
 go_ret
 exact ⟨rfl,rfl⟩
end Go.Ideal.Tryz
end
