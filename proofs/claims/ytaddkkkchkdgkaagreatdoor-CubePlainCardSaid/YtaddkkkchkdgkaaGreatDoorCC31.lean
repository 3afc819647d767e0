/- Why groups are refused is told: errors.As: walked. Turned from Q41. -/
import Derived.Test.YtaddkkkchkdgkaaGreatDoorCC30
import Derived.Stop.ErrReads
import Derived.Stop.Asserts
namespace Go.Proofs.YtaddkkkchkdgkaaGreatDoor
open Go.RowKit Go.Sort Go.Extern.Stop Go.Stop Go.Extern
theorem as_nilG (t:Value) (w:World) :
  Calls Tryz.prog 70 #[.nilIface,t] w fun e w'=>e = .returned (.bool false)∧w'=w:=by
 go_enter Tryz.func70,Tryz.ntmps70
 go_wp2
 go_ret
 exact ⟨rfl,rfl⟩
theorem valueOfP (t:Addr) (w:World):(ReflectliteValue.unpack (.iface 145 (.pointer (some t)))).run Tryz.prog w
  = .ok (.agg #[.pointer (some ⟨14,145,none⟩),.pointer (some ⟨w.heap.size,0,none⟩),.int .u64 150]) (w.alloc (.cells #[.pointer (some t)] 145)):=by kernel_rfl
theorem typeP (a : Addr) (w : World) : (ReflectliteValue.methodAny (ReflectliteValue.valueError "reflectlite.Value.Type" 0) (fun t _ _ _ => ReflectliteType.toType t) #[.agg #[.pointer (some ⟨14, 145, none⟩), .pointer (some a), .int .u64 150]]).run Tryz.prog w
  = .ok (.iface 229 (.agg #[.pointer (some ⟨14,145,none⟩)])) w:=by kernel_rfl
theorem methodKind (h : Value) (w : World) : (Go.method 455 229 (.agg #[h]) "Kind").run Tryz.prog w = .ok (256, h) w := by kernel_rfl
theorem kindP (w:World):((ReflectliteType.abiMethod fun t=>(fun a:Nat=>Value.int IntKind.u8 (a:Int)) <$> Rtype.kind t) #[.pointer (some ⟨14,145,none⟩)]).run Tryz.prog w = .ok (.int .u8 22) w:=by kernel_rfl
theorem kindS (w:World):((ReflectliteType.abiMethod fun t=>(fun a:Nat=>Value.int IntKind.u8 (a:Int)) <$> Rtype.kind t) #[.pointer (some ⟨14,143,none⟩)]).run Tryz.prog w = .ok (.int .u8 25) w:=by kernel_rfl
theorem rlm (z:Sem Value) (f:TypeId→Addr→Nat→Nat→Sem Value) (v:Value) :
  ReflectliteValue.method z f #[v]=(do match ← ReflectliteValue.parts v with | none=>z | some (t,a,fl)=>f t a fl (fl % 32)):=rfl
theorem partsP (a:Addr) (w:World):(ReflectliteValue.parts (.agg #[.pointer (some ⟨14,145,none⟩),.pointer (some a),.int .u64 150])).run Tryz.prog w = .ok (some (145,a,150)) w:=by kernel_rfl
theorem isNilP (a p:Addr) (W:World) (ha:W.cell? a=some (.pointer (some p))) :
  (ReflectliteValue.method (ReflectliteValue.valueError "reflectlite.Value.IsNil" 0) ReflectliteValue.isNil #[.agg #[.pointer (some ⟨14, 145, none⟩), .pointer (some a), .int .u64 150]]).run Tryz.prog W = .ok (.bool false) W := by
 rw [rlm]
 simp only [Sem.run_bind,partsP,Result.andThen]
 simp [ReflectliteValue.isNil,loadVar,isAgg,underlying,Tryz.underlying145,ha,Result.andThen]
theorem methodElem (h : Value) (w : World) : (Go.method 455 229 (.agg #[h]) "Elem").run Tryz.prog w = .ok (266, .agg #[h]) w := by kernel_rfl
theorem mI2 (h : Value) (w : World) : (Go.method 455 229 (.agg #[h]) "Implements").run Tryz.prog w = .ok (267, .agg #[h]) w := by kernel_rfl
theorem mAT (h : Value) (w : World) : (Go.method 455 229 (.agg #[h]) "AssignableTo").run Tryz.prog w = .ok (264, .agg #[h]) w := by kernel_rfl
theorem elemP (w:World):(ReflectliteType.method ReflectliteType.elem #[.agg #[.pointer (some ⟨14,145,none⟩)]]).run Tryz.prog w = .ok (.iface 229 (.agg #[.pointer (some ⟨14,143,none⟩)])) w:=by kernel_rfl
theorem implementsS (w : World) : (ReflectliteType.relation "Implements" ReflectliteType.implements_ #[.agg #[.pointer (some ⟨14, 143, none⟩)], .iface 229 (.agg #[.pointer (some ⟨14, 89, none⟩)])]).run Tryz.prog w = .ok (.bool true) w := by kernel_rfl
theorem typeOfS (v:Value) (w:World):(ReflectliteType.typeOf #[.iface 143 v]).run Tryz.prog w = .ok (.iface 229 (.agg #[.pointer (some ⟨14,143,none⟩)])) w:=by kernel_rfl
theorem assignableS (w : World) : (ReflectliteType.relation "AssignableTo" ReflectliteType.assignableTo #[.agg #[.pointer (some ⟨14, 143, none⟩)], .iface 229 (.agg #[.pointer (some ⟨14, 143, none⟩)])]).run Tryz.prog w = .ok (.bool true) w := by kernel_rfl
theorem valueOfS (c:Int) (w:World):(ReflectliteValue.unpack (.iface 143 (.agg #[.int .i64 c]))).run Tryz.prog w
  = .ok (.agg #[.pointer (some ⟨14,143,none⟩),.pointer (some ⟨w.heap.size,0,none⟩),.int .u64 153]) (w.alloc (.cells #[.int .i64 c] 143)):=by kernel_rfl
theorem elemOfP (w:World):(Rtype.elem? 145).run Tryz.prog w = .ok (some 143) w:=by kernel_rfl
theorem mkS (p:Addr) (w:World):(ReflectliteValue.mk 143 p ReflectliteValue.flagAddr).run Tryz.prog w = .ok (.agg #[.pointer (some ⟨14,143,none⟩),.pointer (some p),.int .u64 409]) w:=by kernel_rfl
theorem elemVP (a p:Addr) (W:World) (ha:W.cell? a=some (.pointer (some p))) :
  (ReflectliteValue.method (ReflectliteValue.valueError "reflectlite.Value.Elem" 0) ReflectliteValue.elem #[.agg #[.pointer (some ⟨14, 145, none⟩), .pointer (some a), .int .u64 150]]).run Tryz.prog W
   = .ok (.agg #[.pointer (some ⟨14,143,none⟩),.pointer (some p),.int .u64 409]) W:=by
 rw [rlm]
 simp only [Sem.run_bind,partsP,Result.andThen]
 simp [ReflectliteValue.elem,loadVar,isAgg,underlying,Tryz.underlying145,ha,Result.andThen,elemOfP,mkS]
theorem rls (v x:Value):ReflectliteValue.set #[v,x]=(do
  let (some (dst,a,fl),some (src,b,_)):=(← ReflectliteValue.parts v,← ReflectliteValue.parts x)
   | unsupported (.noEntry "extern/(internal/reflectlite.Value).Set.zeroValue")
  if fl / ReflectliteValue.flagAddr % 2 == 0 then unsupported (.noEntry "extern/(internal/reflectlite.Value).Set.unaddressable")
  let val ← loadVar src b
  if ← Rtype.directlyAssignable dst src then storeVar dst a val
  else if ← Rtype.implements dst src then
   if (← Rtype.kind src) == 20 then
    match val with
    | .nilIface => unsupported (.noEntry "extern/reflectlite: a nil value of one interface type handed on as a value of another")
    | _=>storeVar dst a val
   else storeVar dst a (.iface src val)
  else panicString ("reflectlite.Set: value of type " ++ (← Rtype.spelt src) ++ " is not assignable to type " ++ (← Rtype.spelt dst))
  pure (.tuple #[])):=rfl
theorem partsSa (a:Addr) (w:World):(ReflectliteValue.parts (.agg #[.pointer (some ⟨14,143,none⟩),.pointer (some a),.int .u64 409])).run Tryz.prog w = .ok (some (143,a,409)) w:=by kernel_rfl
theorem partsS (a:Addr) (w:World):(ReflectliteValue.parts (.agg #[.pointer (some ⟨14,143,none⟩),.pointer (some a),.int .u64 153])).run Tryz.prog w = .ok (some (143,a,153)) w:=by kernel_rfl
theorem directS (w:World):(Rtype.directlyAssignable 143 143).run Tryz.prog w = .ok true w:=by kernel_rfl
theorem setS (ta b:Addr) (c:Int) (old:Value) (W:World) (hb:W.cell? b=some (.int .i64 c)) (ht:W.cell? ta=some old) (hf:W.frozen? ta=false) :
  (ReflectliteValue.set #[.agg #[.pointer (some ⟨14,143,none⟩),.pointer (some ta),.int .u64 409],.agg #[.pointer (some ⟨14,143,none⟩),.pointer (some b),.int .u64 153]]).run Tryz.prog W
   = .ok (.tuple #[]) (W.setCell ta (.int .i64 c)):=by
 rw [rls]
 simp only [Sem.run_bind,partsSa,partsS,Result.andThen]
 have hl:(loadVar 143 b).run Tryz.prog W = .ok (.agg #[.int .i64 c]) W:=by
  have hc:=run_loadCells_list (P:=Tryz.prog) W b [.int .i64 c] (fun j v hj=>by
   match j,hj with
   | 0,hj=>simp at hj;subst hj;simpa [Addr.add] using hb)
  simp only [List.length_singleton] at hc
  simp [loadVar,Result.andThen,hc]
 simp [ReflectliteValue.flagAddr,hl,Result.andThen,directS,storeVar,Value.cells,storeCells,Addr.add]
 rw [run_store Tryz.prog W ta _ _ (by rfl)]
 simp [ht,hf]
set_option maxRecDepth 100000 in
set_option maxHeartbeats 4000000 in
theorem as_hitG (t:Addr) (c:Int) (old:Value) (w:World) (hg:w.cell? ⟨0,0,none⟩=some (.iface 229 (.agg #[.pointer (some ⟨14,89,none⟩)]))) (ht0:w.cell? t=some old) (hf0:w.frozen? t=false) :
  Calls Tryz.prog 70 #[.iface 143 (.agg #[.int .i64 c]),.iface 145 (.pointer (some t))] w fun ev w'=>ev = .returned (.bool true)∧w'=((((w.alloc (.cells #[.pointer (some t)] 145)).alloc (.cells #[.pointer (some ⟨14,145,none⟩),.pointer (some ⟨w.heap.size,0,none⟩),.int .u64 150] 178)).alloc (.cells #[.pointer (some ⟨14,145,none⟩),.pointer (some ⟨w.heap.size,0,none⟩),.int .u64 150] 178)).alloc (.cells #[.int .i64 c] 143)).setCell t (.int .i64 c):=by
 have h6:=@run_callFunc_extern Tryz.prog 108 _ (fun args=>ReflectliteValue.unpack (args.getD 0 (.tuple #[]))) Tryz.func108 (by kernel_rfl) (by kernel_rfl) (by kernel_rfl) (by kernel_rfl)
 have h7 := @run_callFunc_extern Tryz.prog 109 _ (ReflectliteValue.methodAny (ReflectliteValue.valueError "reflectlite.Value.Type" 0) (fun t _ _ _ => ReflectliteType.toType t)) Tryz.func109 (by kernel_rfl) (by kernel_rfl) (by kernel_rfl) (by kernel_rfl)
 have h8 := @run_callFunc_extern Tryz.prog 110 _ (ReflectliteValue.method (ReflectliteValue.valueError "reflectlite.Value.IsNil" 0) ReflectliteValue.isNil) Tryz.func110 (by kernel_rfl) (by kernel_rfl) (by kernel_rfl) (by kernel_rfl)
 have An:=@run_callFunc_extern Tryz.prog 256 _ (ReflectliteType.abiMethod fun t=>do pure (.int .u8 (← Rtype.kind t))) Tryz.func256 (by kernel_rfl) (by kernel_rfl) (by kernel_rfl) (by kernel_rfl)
 have Ai:=@run_callFunc_extern Tryz.prog 266 _ (ReflectliteType.method ReflectliteType.elem) Tryz.func266 (by kernel_rfl) (by kernel_rfl) (by kernel_rfl) (by kernel_rfl)
 have Ah := @run_callFunc_extern Tryz.prog 267 _ (ReflectliteType.relation "Implements" ReflectliteType.implements_) Tryz.func267 (by kernel_rfl) (by kernel_rfl) (by kernel_rfl) (by kernel_rfl)
 have Ag:=@run_callFunc_extern Tryz.prog 155 _ ReflectliteType.typeOf Tryz.func155 (by kernel_rfl) (by kernel_rfl) (by kernel_rfl) (by kernel_rfl)
 have Ap := @run_callFunc_extern Tryz.prog 264 _ (ReflectliteType.relation "AssignableTo" ReflectliteType.assignableTo) Tryz.func264 (by kernel_rfl) (by kernel_rfl) (by kernel_rfl) (by kernel_rfl)
 have Am := @run_callFunc_extern Tryz.prog 156 _ (ReflectliteValue.method (ReflectliteValue.valueError "reflectlite.Value.Elem" 0) ReflectliteValue.elem) Tryz.func156 (by kernel_rfl) (by kernel_rfl) (by kernel_rfl) (by kernel_rfl)
 have Ac:=@run_callFunc_extern Tryz.prog 157 _ ReflectliteValue.set Tryz.func157 (by kernel_rfl) (by kernel_rfl) (by kernel_rfl) (by kernel_rfl)
 have tO:=typeOfS
 have mA:=mAT
 have Ad:=assignableS
 have Aj:=valueOfS
 have f6:=valueOfP
 have f7:=typeP
 have mK:=methodKind
 have mE:=methodElem
 have mI:=mI2
 have Ao:=kindP
 have Al:=kindS
 have Ae:=elemP
 have Ak:=implementsS
 have n8:=isNilP ⟨w.heap.size,0,none⟩ t ((w.alloc (.cells #[.pointer (some t)] 145)).alloc (.cells #[.pointer (some ⟨14,145,none⟩),.pointer (some ⟨w.heap.size,0,none⟩),.int .u64 150] 178)) (by simp)
 have Ab:0 < w.heap.size:=World.block_lt_of_cell? _ _ hg
 have Af:((w.alloc (.cells #[.pointer (some t)] 145)).alloc (.cells #[.pointer (some ⟨14,145,none⟩),.pointer (some ⟨w.heap.size,0,none⟩),.int .u64 150] 178)).cell? ⟨0,0,none⟩=some (.iface 229 (.agg #[.pointer (some ⟨14,89,none⟩)])):=by
  rw [World.cell?_alloc_lt _ _ ⟨0,0,none⟩ (by simp),World.cell?_alloc_lt _ _ ⟨0,0,none⟩ Ab];exact hg
 have Aa:t.block < w.heap.size:=World.block_lt_of_cell? _ _ ht0
 have el:=elemVP ⟨w.heap.size,0,none⟩ t (((w.alloc (.cells #[.pointer (some t)] 145)).alloc (.cells #[.pointer (some ⟨14,145,none⟩),.pointer (some ⟨w.heap.size,0,none⟩),.int .u64 150] 178)).alloc (.cells #[.pointer (some ⟨14,145,none⟩),.pointer (some ⟨w.heap.size,0,none⟩),.int .u64 150] 178)) (by rw [World.cell?_alloc_lt _ _ ⟨w.heap.size,0,none⟩ (by simp;omega)];simp)
 have st:=setS t ⟨w.heap.size + 1 + 1 + 1,0,none⟩ c old ((((w.alloc (.cells #[.pointer (some t)] 145)).alloc (.cells #[.pointer (some ⟨14,145,none⟩),.pointer (some ⟨w.heap.size,0,none⟩),.int .u64 150] 178)).alloc (.cells #[.pointer (some ⟨14,145,none⟩),.pointer (some ⟨w.heap.size,0,none⟩),.int .u64 150] 178)).alloc (.cells #[.int .i64 c] 143))
  (by rw [World.cell?_alloc_at _ _ _ _ (by simp)];rfl)
  (by rw [World.cell?_alloc_lt _ _ t (by simp;omega),World.cell?_alloc_lt _ _ t (by simp;omega),World.cell?_alloc_lt _ _ t (by simp;omega),World.cell?_alloc_lt _ _ t Aa];exact ht0)
  (by rw [World.frozen?_alloc_old _ _ t (by simp;omega),World.frozen?_alloc_old _ _ t (by simp;omega),World.frozen?_alloc_old _ _ t (by simp;omega),World.frozen?_alloc_old _ _ t (Nat.ne_of_lt Aa)];exact hf0)
 go_enter Tryz.func70,Tryz.ntmps70
 go_wp2
 refine wp_loop_rounds 1 ?_
 rw [rounds_succ]
 go_wp2
 go_ret
 exact ⟨rfl,rfl⟩
end Go.Proofs.YtaddkkkchkdgkaaGreatDoor
