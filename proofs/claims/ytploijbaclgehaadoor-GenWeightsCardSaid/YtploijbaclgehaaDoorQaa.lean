/- Part Qaa of the proof: walks on a machine that is proved sound. -/
import Derived.Test.YtploijbaclgehaaDoorProg
import Derived.WalkKit
import Derived.LaidEql
import Derived.Stop.Asserts
import Derived.RowKitTokens
set_option linter.unusedVariables false
set_option linter.unusedSimpArgs false
set_option maxHeartbeats 4000000
set_option maxRecDepth 100000
section
namespace Go.Ideal.Tryd
open Go.RowKit Go.Extern.Stop Go.Stop Go.Extern Go.Proofs
theorem b2b (t:Addr) (w:World):(ReflectliteValue.unpack (.iface 155 (.pointer (some t)))).run Go.Proofs.Tryd.prog w
  = .ok (.agg #[.pointer (some ⟨22,155,none⟩),.pointer (some ⟨w.heap.size,0,none⟩),.int .u64 150]) (w.alloc (.cells #[.pointer (some t)] 155)):=by kernel_rfl
theorem b9j (a : Addr) (w : World) : (ReflectliteValue.methodAny (ReflectliteValue.valueError "reflectlite.Value.Type" 0) (fun t _ _ _ => ReflectliteType.toType t) #[.agg #[.pointer (some ⟨22, 155, none⟩), .pointer (some a), .int .u64 150]]).run Go.Proofs.Tryd.prog w
  = .ok (.iface 186 (.agg #[.pointer (some ⟨22,155,none⟩)])) w:=by kernel_rfl
theorem b0l (h : Value) (w : World) : (Go.method 332 186 (.agg #[h]) "Kind").run Go.Proofs.Tryd.prog w = .ok (143, h) w := by kernel_rfl
theorem b9i (w:World):((ReflectliteType.abiMethod fun t=>(fun a:Nat=>Value.int IntKind.u8 (a:Int)) <$> Rtype.kind t) #[.pointer (some ⟨22,155,none⟩)]).run Go.Proofs.Tryd.prog w= .ok (.int .u8 22) w:=by kernel_rfl
theorem b9h (w:World):((ReflectliteType.abiMethod fun t=>(fun a:Nat=>Value.int IntKind.u8 (a:Int)) <$> Rtype.kind t) #[.pointer (some ⟨22,106,none⟩)]).run Go.Proofs.Tryd.prog w= .ok (.int .u8 22) w:=by kernel_rfl
theorem d3n (z:Sem Value) (f:TypeId->Addr->Nat->Nat->Sem Value) (v:Value) :
  ReflectliteValue.method z f #[v]=(do match<-ReflectliteValue.parts v with | none=>z | some (t,a,fl)=>f t a fl (fl % 32)):=rfl
theorem b6a (a:Addr) (w:World):(ReflectliteValue.parts (.agg #[.pointer (some ⟨22,155,none⟩),.pointer (some a),.int .u64 150])).run Go.Proofs.Tryd.prog w= .ok (some (155,a,150)) w:=by kernel_rfl
theorem b59 (a p:Addr) (W:World) (ha:W.cell? a=some (.pointer (some p))) :
  (ReflectliteValue.method (ReflectliteValue.valueError "reflectlite.Value.IsNil" 0) ReflectliteValue.isNil #[.agg #[.pointer (some ⟨22, 155, none⟩), .pointer (some a), .int .u64 150]]).run Go.Proofs.Tryd.prog W = .ok (.bool false) W := by
 rw [d3n]
 simp only [Sem.run_bind,b6a,Result.andThen]
 simp [ReflectliteValue.isNil,loadVar,isAgg,underlying,Go.Proofs.Tryd.underlying155,ha,Result.andThen]
theorem b0k (h : Value) (w : World) : (Go.method 332 186 (.agg #[h]) "Elem").run Go.Proofs.Tryd.prog w = .ok (154, .agg #[h]) w := by kernel_rfl
theorem a53 (h : Value) (w : World) : (Go.method 332 186 (.agg #[h]) "Implements").run Go.Proofs.Tryd.prog w = .ok (155, .agg #[h]) w := by kernel_rfl
theorem a46 (h : Value) (w : World) : (Go.method 332 186 (.agg #[h]) "AssignableTo").run Go.Proofs.Tryd.prog w = .ok (152, .agg #[h]) w := by kernel_rfl
theorem b9g (w:World):(ReflectliteType.method ReflectliteType.elem #[.agg #[.pointer (some ⟨22,155,none⟩)]]).run Go.Proofs.Tryd.prog w= .ok (.iface 186 (.agg #[.pointer (some ⟨22,106,none⟩)])) w:=by kernel_rfl
theorem a8n (w : World) : (ReflectliteType.relation "Implements" ReflectliteType.implements_ #[.agg #[.pointer (some ⟨22, 106, none⟩)], .iface 186 (.agg #[.pointer (some ⟨22, 53, none⟩)])]).run Go.Proofs.Tryd.prog w = .ok (.bool true) w := by kernel_rfl
theorem c13 (v:Value) (w:World):(ReflectliteType.typeOf #[.iface 106 v]).run Go.Proofs.Tryd.prog w= .ok (.iface 186 (.agg #[.pointer (some ⟨22,106,none⟩)])) w:=by kernel_rfl
theorem b3u (w : World) : (ReflectliteType.relation "AssignableTo" ReflectliteType.assignableTo #[.agg #[.pointer (some ⟨22, 106, none⟩)], .iface 186 (.agg #[.pointer (some ⟨22, 106, none⟩)])]).run Go.Proofs.Tryd.prog w = .ok (.bool true) w := by kernel_rfl
theorem b2a (e:Addr) (w:World):(ReflectliteValue.unpack (.iface 106 (.pointer (some e)))).run Go.Proofs.Tryd.prog w
  = .ok (.agg #[.pointer (some ⟨22,106,none⟩),.pointer (some ⟨w.heap.size,0,none⟩),.int .u64 150]) (w.alloc (.cells #[.pointer (some e)] 106)):=by kernel_rfl
theorem c11 (w:World):(Rtype.elem? 155).run Go.Proofs.Tryd.prog w= .ok (some 106) w:=by kernel_rfl
theorem d4p (p:Addr) (w:World):(ReflectliteValue.mk 106 p ReflectliteValue.flagAddr).run Go.Proofs.Tryd.prog w= .ok (.agg #[.pointer (some ⟨22,106,none⟩),.pointer (some p),.int .u64 406]) w:=by kernel_rfl
theorem b58 (a p:Addr) (W:World) (ha:W.cell? a=some (.pointer (some p))) :
  (ReflectliteValue.method (ReflectliteValue.valueError "reflectlite.Value.Elem" 0) ReflectliteValue.elem #[.agg #[.pointer (some ⟨22, 155, none⟩), .pointer (some a), .int .u64 150]]).run Go.Proofs.Tryd.prog W
   = .ok (.agg #[.pointer (some ⟨22,106,none⟩),.pointer (some p),.int .u64 406]) W:=by
 rw [d3n]
 simp only [Sem.run_bind,b6a,Result.andThen]
 simp [ReflectliteValue.elem,loadVar,isAgg,underlying,Go.Proofs.Tryd.underlying155,ha,Result.andThen,c11,d4p]
theorem e1t (v x:Value):ReflectliteValue.set #[v,x]=(do
  let (some (dst,a,fl),some (src,b,_)):=(<-ReflectliteValue.parts v,<-ReflectliteValue.parts x)
   | unsupported (.noEntry "extern/(internal/reflectlite.Value).Set.zeroValue")
  if fl / ReflectliteValue.flagAddr % 2 == 0 then unsupported (.noEntry "extern/(internal/reflectlite.Value).Set.unaddressable")
  let val<-loadVar src b
  if<-Rtype.directlyAssignable dst src then storeVar dst a val
  else if<-Rtype.implements dst src then
   if (<-Rtype.kind src)==20 then
    match val with
    | .nilIface => unsupported (.noEntry "extern/reflectlite: a nil value of one interface type handed on as a value of another")
    | _=>storeVar dst a val
   else storeVar dst a (.iface src val)
  else panicString ("reflectlite.Set: value of type " ++ (<- Rtype.spelt src) ++ " is not assignable to type " ++ (<- Rtype.spelt dst))
  pure (.tuple #[])):=rfl
theorem c12 (a:Addr) (w:World):(ReflectliteValue.parts (.agg #[.pointer (some ⟨22,106,none⟩),.pointer (some a),.int .u64 406])).run Go.Proofs.Tryd.prog w= .ok (some (106,a,406)) w:=by kernel_rfl
theorem c5d (a:Addr) (w:World):(ReflectliteValue.parts (.agg #[.pointer (some ⟨22,106,none⟩),.pointer (some a),.int .u64 150])).run Go.Proofs.Tryd.prog w= .ok (some (106,a,150)) w:=by kernel_rfl
theorem c10 (w:World):(Rtype.directlyAssignable 106 106).run Go.Proofs.Tryd.prog w= .ok true w:=by kernel_rfl
theorem d0z (ta b e:Addr) (old:Value) (W:World) (hb:W.cell? b=some (.pointer (some e))) (ht:W.cell? ta=some old) (hf:W.frozen? ta=false) :
  (ReflectliteValue.set #[.agg #[.pointer (some ⟨22,106,none⟩),.pointer (some ta),.int .u64 406],.agg #[.pointer (some ⟨22,106,none⟩),.pointer (some b),.int .u64 150]]).run Go.Proofs.Tryd.prog W
   = .ok (.tuple #[]) (W.setCell ta (.pointer (some e))):=by
 rw [e1t]
 simp only [Sem.run_bind,c12,c5d,Result.andThen]
 simp [ReflectliteValue.flagAddr,loadVar,isAgg,underlying,Go.Proofs.Tryd.underlying106,hb,Result.andThen,c10,storeVar,Value.cells,storeCells,Addr.add]
 rw [run_store Go.Proofs.Tryd.prog W ta _ _ (by rfl)]
 simp [ht,hf]
theorem c14 (v:Value) (w:World):(ReflectliteType.typeOf #[.iface 198 v]).run Go.Proofs.Tryd.prog w= .ok (.iface 186 (.agg #[.pointer (some ⟨22,198,none⟩)])) w:=by kernel_rfl
theorem b3v (w : World) : (ReflectliteType.relation "AssignableTo" ReflectliteType.assignableTo #[.agg #[.pointer (some ⟨22, 198, none⟩)], .iface 186 (.agg #[.pointer (some ⟨22, 106, none⟩)])]).run Go.Proofs.Tryd.prog w = .ok (.bool false) w := by kernel_rfl
theorem f8g (v:Value) (xT:TypeId) (w:World):(Instr.typeAssert (.iface 198 v) xT 191 true).run Go.Proofs.Tryd.prog w= .ok (.tuple #[.nilIface,.bool false]) w:=run_typeAssert_lacksB Go.Proofs.Tryd.underlying191 (by kernel_rfl) (by kernel_rfl) v xT w
theorem c8t (v:Value) (xT:TypeId) (w:World):(Instr.typeAssert (.iface 198 v) xT 194 true).run Go.Proofs.Tryd.prog w= .ok (.tuple #[.nilIface,.bool false]) w:=run_typeAssert_lacksB Go.Proofs.Tryd.underlying194 (by kernel_rfl) (by kernel_rfl) v xT w
theorem c6b (v:Value) (xT:TypeId) (w:World):(Instr.typeAssert (.iface 198 v) xT 196 true).run Go.Proofs.Tryd.prog w= .ok (.tuple #[.nilIface,.bool false]) w:=run_typeAssert_lacksB Go.Proofs.Tryd.underlying196 (by kernel_rfl) (by kernel_rfl) v xT w
theorem c5p (e t:Addr) (old:Value) (w:World) (hg:w.cell? ⟨8,0,none⟩=some (.iface 186 (.agg #[.pointer (some ⟨22,53,none⟩)]))) (ht0:w.cell? t=some old) (hf0:w.frozen? t=false) :
  Calls Go.Proofs.Tryd.prog 100 #[.iface 198 (.pointer (some e)),.iface 155 (.pointer (some t))] w fun ev w'=>ev= .returned (.bool false)/\w'=(((w.alloc (.cells #[.pointer (some t)] 155)).alloc (.cells #[.pointer (some ⟨22,155,none⟩),.pointer (some ⟨w.heap.size,0,none⟩),.int .u64 150] 174)).alloc (.cells #[.pointer (some ⟨22,155,none⟩),.pointer (some ⟨w.heap.size,0,none⟩),.int .u64 150] 174)):=by
 have h6:= @run_callFunc_extern Go.Proofs.Tryd.prog 119 _ (fun args=>ReflectliteValue.unpack (args.getD 0 (.tuple #[]))) Go.Proofs.Tryd.func119 (by kernel_rfl) (by kernel_rfl) (by kernel_rfl) (by kernel_rfl)
 have h7 := @run_callFunc_extern Go.Proofs.Tryd.prog 120 _ (ReflectliteValue.methodAny (ReflectliteValue.valueError "reflectlite.Value.Type" 0) (fun t _ _ _ => ReflectliteType.toType t)) Go.Proofs.Tryd.func120 (by kernel_rfl) (by kernel_rfl) (by kernel_rfl) (by kernel_rfl)
 have h8 := @run_callFunc_extern Go.Proofs.Tryd.prog 121 _ (ReflectliteValue.method (ReflectliteValue.valueError "reflectlite.Value.IsNil" 0) ReflectliteValue.isNil) Go.Proofs.Tryd.func121 (by kernel_rfl) (by kernel_rfl) (by kernel_rfl) (by kernel_rfl)
 have h27:= @run_callFunc_extern Go.Proofs.Tryd.prog 143 _ (ReflectliteType.abiMethod fun t=>do pure (.int .u8 (<-Rtype.kind t))) Go.Proofs.Tryd.func143 (by kernel_rfl) (by kernel_rfl) (by kernel_rfl) (by kernel_rfl)
 have h37:= @run_callFunc_extern Go.Proofs.Tryd.prog 154 _ (ReflectliteType.method ReflectliteType.elem) Go.Proofs.Tryd.func154 (by kernel_rfl) (by kernel_rfl) (by kernel_rfl) (by kernel_rfl)
 have h38 := @run_callFunc_extern Go.Proofs.Tryd.prog 155 _ (ReflectliteType.relation "Implements" ReflectliteType.implements_) Go.Proofs.Tryd.func155 (by kernel_rfl) (by kernel_rfl) (by kernel_rfl) (by kernel_rfl)
 have h10:= @run_callFunc_extern Go.Proofs.Tryd.prog 125 _ ReflectliteType.typeOf Go.Proofs.Tryd.func125 (by kernel_rfl) (by kernel_rfl) (by kernel_rfl) (by kernel_rfl)
 have h35 := @run_callFunc_extern Go.Proofs.Tryd.prog 152 _ (ReflectliteType.relation "AssignableTo" ReflectliteType.assignableTo) Go.Proofs.Tryd.func152 (by kernel_rfl) (by kernel_rfl) (by kernel_rfl) (by kernel_rfl)
 have h11 := @run_callFunc_extern Go.Proofs.Tryd.prog 126 _ (ReflectliteValue.method (ReflectliteValue.valueError "reflectlite.Value.Elem" 0) ReflectliteValue.elem) Go.Proofs.Tryd.func126 (by kernel_rfl) (by kernel_rfl) (by kernel_rfl) (by kernel_rfl)
 have h12:= @run_callFunc_extern Go.Proofs.Tryd.prog 127 _ ReflectliteValue.set Go.Proofs.Tryd.func127 (by kernel_rfl) (by kernel_rfl) (by kernel_rfl) (by kernel_rfl)
 have tO:=c14
 have mA:=a46
 have a25:=b3v
 have nE:=f8g
 have uE:=c8t
 have vE:=c6b
 have v25:=b2a
 have f6:=b2b
 have f7:=b9j
 have mK:=b0l
 have mE:=b0k
 have mI:=a53
 have k27:=b9i
 have k25:=b9h
 have e27:=b9g
 have i25:=a8n
 have n8:=b59 ⟨w.heap.size,0,none⟩ t ((w.alloc (.cells #[.pointer (some t)] 155)).alloc (.cells #[.pointer (some ⟨22,155,none⟩),.pointer (some ⟨w.heap.size,0,none⟩),.int .u64 150] 174)) (by simp)
 have hlt:8 < w.heap.size:=by
  rcases Nat.lt_or_ge 8 w.heap.size with h | h
  ·exact h
  ·simp [World.cell?,Array.getElem?_eq_none h] at hg
 have hg2:((w.alloc (.cells #[.pointer (some t)] 155)).alloc (.cells #[.pointer (some ⟨22,155,none⟩),.pointer (some ⟨w.heap.size,0,none⟩),.int .u64 150] 174)).cell? ⟨8,0,none⟩=some (.iface 186 (.agg #[.pointer (some ⟨22,53,none⟩)])):=by
  rw [World.cell?_alloc_lt _ _ ⟨8,0,none⟩ (by simp; omega),World.cell?_alloc_lt _ _ ⟨8,0,none⟩ hlt]; exact hg
 have htl:t.block < w.heap.size:=by
  rcases Nat.lt_or_ge t.block w.heap.size with h | h
  ·exact h
  ·simp [World.cell?,Array.getElem?_eq_none h] at ht0
 have el:=b58 ⟨w.heap.size,0,none⟩ t (((w.alloc (.cells #[.pointer (some t)] 155)).alloc (.cells #[.pointer (some ⟨22,155,none⟩),.pointer (some ⟨w.heap.size,0,none⟩),.int .u64 150] 174)).alloc (.cells #[.pointer (some ⟨22,155,none⟩),.pointer (some ⟨w.heap.size,0,none⟩),.int .u64 150] 174)) (by rw [World.cell?_alloc_lt _ _ ⟨w.heap.size,0,none⟩ (by simp; omega)]; simp)
 go_enter Go.Proofs.Tryd.func100,Go.Proofs.Tryd.ntmps100
 go_wp2
 refine wp_loop_rounds 1 ?_
 rw [rounds_succ]
 go_wp2
 go_ret
 exact ⟨rfl,rfl⟩
theorem c7z (e t:Addr) (old:Value) (w:World) (hg:w.cell? ⟨8,0,none⟩=some (.iface 186 (.agg #[.pointer (some ⟨22,53,none⟩)]))) (ht0:w.cell? t=some old) (hf0:w.frozen? t=false) :
  Calls Go.Proofs.Tryd.prog 100 #[.iface 106 (.pointer (some e)),.iface 155 (.pointer (some t))] w fun ev w'=>ev= .returned (.bool true)/\w'=((((w.alloc (.cells #[.pointer (some t)] 155)).alloc (.cells #[.pointer (some ⟨22,155,none⟩),.pointer (some ⟨w.heap.size,0,none⟩),.int .u64 150] 174)).alloc (.cells #[.pointer (some ⟨22,155,none⟩),.pointer (some ⟨w.heap.size,0,none⟩),.int .u64 150] 174)).alloc (.cells #[.pointer (some e)] 106)).setCell t (.pointer (some e)):=by
 have h6:= @run_callFunc_extern Go.Proofs.Tryd.prog 119 _ (fun args=>ReflectliteValue.unpack (args.getD 0 (.tuple #[]))) Go.Proofs.Tryd.func119 (by kernel_rfl) (by kernel_rfl) (by kernel_rfl) (by kernel_rfl)
 have h7 := @run_callFunc_extern Go.Proofs.Tryd.prog 120 _ (ReflectliteValue.methodAny (ReflectliteValue.valueError "reflectlite.Value.Type" 0) (fun t _ _ _ => ReflectliteType.toType t)) Go.Proofs.Tryd.func120 (by kernel_rfl) (by kernel_rfl) (by kernel_rfl) (by kernel_rfl)
 have h8 := @run_callFunc_extern Go.Proofs.Tryd.prog 121 _ (ReflectliteValue.method (ReflectliteValue.valueError "reflectlite.Value.IsNil" 0) ReflectliteValue.isNil) Go.Proofs.Tryd.func121 (by kernel_rfl) (by kernel_rfl) (by kernel_rfl) (by kernel_rfl)
 have h27:= @run_callFunc_extern Go.Proofs.Tryd.prog 143 _ (ReflectliteType.abiMethod fun t=>do pure (.int .u8 (<-Rtype.kind t))) Go.Proofs.Tryd.func143 (by kernel_rfl) (by kernel_rfl) (by kernel_rfl) (by kernel_rfl)
 have h37:= @run_callFunc_extern Go.Proofs.Tryd.prog 154 _ (ReflectliteType.method ReflectliteType.elem) Go.Proofs.Tryd.func154 (by kernel_rfl) (by kernel_rfl) (by kernel_rfl) (by kernel_rfl)
 have h38 := @run_callFunc_extern Go.Proofs.Tryd.prog 155 _ (ReflectliteType.relation "Implements" ReflectliteType.implements_) Go.Proofs.Tryd.func155 (by kernel_rfl) (by kernel_rfl) (by kernel_rfl) (by kernel_rfl)
 have h10:= @run_callFunc_extern Go.Proofs.Tryd.prog 125 _ ReflectliteType.typeOf Go.Proofs.Tryd.func125 (by kernel_rfl) (by kernel_rfl) (by kernel_rfl) (by kernel_rfl)
 have h35 := @run_callFunc_extern Go.Proofs.Tryd.prog 152 _ (ReflectliteType.relation "AssignableTo" ReflectliteType.assignableTo) Go.Proofs.Tryd.func152 (by kernel_rfl) (by kernel_rfl) (by kernel_rfl) (by kernel_rfl)
 have h11 := @run_callFunc_extern Go.Proofs.Tryd.prog 126 _ (ReflectliteValue.method (ReflectliteValue.valueError "reflectlite.Value.Elem" 0) ReflectliteValue.elem) Go.Proofs.Tryd.func126 (by kernel_rfl) (by kernel_rfl) (by kernel_rfl) (by kernel_rfl)
 have h12:= @run_callFunc_extern Go.Proofs.Tryd.prog 127 _ ReflectliteValue.set Go.Proofs.Tryd.func127 (by kernel_rfl) (by kernel_rfl) (by kernel_rfl) (by kernel_rfl)
 have tO:=c13
 have mA:=a46
 have a25:=b3u
 have v25:=b2a
 have f6:=b2b
 have f7:=b9j
 have mK:=b0l
 have mE:=b0k
 have mI:=a53
 have k27:=b9i
 have k25:=b9h
 have e27:=b9g
 have i25:=a8n
 have n8:=b59 ⟨w.heap.size,0,none⟩ t ((w.alloc (.cells #[.pointer (some t)] 155)).alloc (.cells #[.pointer (some ⟨22,155,none⟩),.pointer (some ⟨w.heap.size,0,none⟩),.int .u64 150] 174)) (by simp)
 have hlt:8 < w.heap.size:=by
  rcases Nat.lt_or_ge 8 w.heap.size with h | h
  ·exact h
  ·simp [World.cell?,Array.getElem?_eq_none h] at hg
 have hg2:((w.alloc (.cells #[.pointer (some t)] 155)).alloc (.cells #[.pointer (some ⟨22,155,none⟩),.pointer (some ⟨w.heap.size,0,none⟩),.int .u64 150] 174)).cell? ⟨8,0,none⟩=some (.iface 186 (.agg #[.pointer (some ⟨22,53,none⟩)])):=by
  rw [World.cell?_alloc_lt _ _ ⟨8,0,none⟩ (by simp; omega),World.cell?_alloc_lt _ _ ⟨8,0,none⟩ hlt]; exact hg
 have htl:t.block < w.heap.size:=by
  rcases Nat.lt_or_ge t.block w.heap.size with h | h
  ·exact h
  ·simp [World.cell?,Array.getElem?_eq_none h] at ht0
 have el:=b58 ⟨w.heap.size,0,none⟩ t (((w.alloc (.cells #[.pointer (some t)] 155)).alloc (.cells #[.pointer (some ⟨22,155,none⟩),.pointer (some ⟨w.heap.size,0,none⟩),.int .u64 150] 174)).alloc (.cells #[.pointer (some ⟨22,155,none⟩),.pointer (some ⟨w.heap.size,0,none⟩),.int .u64 150] 174)) (by rw [World.cell?_alloc_lt _ _ ⟨w.heap.size,0,none⟩ (by simp; omega)]; simp)
 have st:=d0z t ⟨w.heap.size+1+1+1,0,none⟩ e old ((((w.alloc (.cells #[.pointer (some t)] 155)).alloc (.cells #[.pointer (some ⟨22,155,none⟩),.pointer (some ⟨w.heap.size,0,none⟩),.int .u64 150] 174)).alloc (.cells #[.pointer (some ⟨22,155,none⟩),.pointer (some ⟨w.heap.size,0,none⟩),.int .u64 150] 174)).alloc (.cells #[.pointer (some e)] 106))
  (by rw [World.cell?_alloc_at _ _ _ _ (by simp)]; rfl)
  (by rw [World.cell?_alloc_lt _ _ t (by simp; omega),World.cell?_alloc_lt _ _ t (by simp; omega),World.cell?_alloc_lt _ _ t (by simp; omega),World.cell?_alloc_lt _ _ t htl]; exact ht0)
  (by rw [World.frozen?_alloc_old _ _ t (by simp; omega),World.frozen?_alloc_old _ _ t (by simp; omega),World.frozen?_alloc_old _ _ t (by simp; omega),World.frozen?_alloc_old _ _ t (Nat.ne_of_lt htl)]; exact hf0)
 go_enter Go.Proofs.Tryd.func100,Go.Proofs.Tryd.ntmps100
 go_wp2
 refine wp_loop_rounds 1 ?_
 rw [rounds_succ]
 go_wp2
 go_ret
 exact ⟨rfl,rfl⟩
end Go.Ideal.Tryd
end
