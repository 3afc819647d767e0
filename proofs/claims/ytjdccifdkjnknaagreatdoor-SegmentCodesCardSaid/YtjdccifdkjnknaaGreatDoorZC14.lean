/- Joined. -/
import Derived.Test.YtjdccifdkjnknaaGreatDoorZC13
set_option maxRecDepth 100000
set_option maxHeartbeats 4000000
namespace Go.Proofs.Q9
open Go.RowKit Go.Sort Go.Extern.Stop Go.Stop Go.Extern
theorem an3(t:Value)(w:World) :
  Calls Tryz.prog 208 #[.nilIface,t] w fun e w'=>e = .returned (.bool false)/\w'=w:=by
 go_enter Tryz.func208,Tryz.ntmps208;go_wp2;go_ret;exact⟨rfl,rfl⟩
theorem vOP(t:Addr)(w:World):(ReflectliteValue.unpack (.iface 276 (.pointer (some t)))).run Tryz.prog w
  = .ok (.agg #[.pointer (some ⟨5,276,none⟩),.pointer (some ⟨w.heap.size,0,none⟩),.int .u64 150]) (w.alloc (.cells #[.pointer (some t)] 276)):=by kernel_rfl
theorem tP2 (a : Addr) (w : World) : (ReflectliteValue.methodAny (ReflectliteValue.valueError "reflectlite.Value.Type" 0) (fun t _ _ _ => ReflectliteType.toType t) #[.agg #[.pointer (some ⟨5, 276, none⟩), .pointer (some a), .int .u64 150]]).run Tryz.prog w
  = .ok (.iface 222 (.agg #[.pointer (some ⟨5,276,none⟩)])) w:=by kernel_rfl
theorem mK2 (h : Value) (w : World) : (Go.method 445 222 (.agg #[h]) "Kind").run Tryz.prog w = .ok (255, h) w := by kernel_rfl
theorem kP(w:World):((ReflectliteType.abiMethod fun t=>(fun a:Nat=>Value.int IntKind.u8 (a:Int)) <$> Rtype.kind t) #[.pointer (some ⟨5,276,none⟩)]).run Tryz.prog w = .ok (.int .u8 22) w:=by kernel_rfl
theorem kS7(w:World):((ReflectliteType.abiMethod fun t=>(fun a:Nat=>Value.int IntKind.u8 (a:Int)) <$> Rtype.kind t) #[.pointer (some ⟨5,274,none⟩)]).run Tryz.prog w = .ok (.int .u8 25) w:=by kernel_rfl
theorem rlm(z:Sem Value)(f:TypeId->Addr->Nat->Nat->Sem Value)(v:Value) :
  ReflectliteValue.method z f #[v]=(do match <-ReflectliteValue.parts v with|none=>z|some (t,a,fl)=>f t a fl (fl%32)):=rfl
theorem pP2(a:Addr)(w:World):(ReflectliteValue.parts (.agg #[.pointer (some ⟨5,276,none⟩),.pointer (some a),.int .u64 150])).run Tryz.prog w = .ok (some (276,a,150)) w:=by kernel_rfl
theorem iNP(a p:Addr)(W:World)(ha:W.cell? a=some (.pointer (some p))) :
  (ReflectliteValue.method (ReflectliteValue.valueError "reflectlite.Value.IsNil" 0) ReflectliteValue.isNil #[.agg #[.pointer (some ⟨5, 276, none⟩), .pointer (some a), .int .u64 150]]).run Tryz.prog W = .ok (.bool false) W := by
 rw[rlm];simp only[xz,pP2,Result.andThen];simp[ReflectliteValue.isNil,loadVar,isAgg,underlying,Tryz.underlying276,ha,Result.andThen]
theorem mE2 (h : Value) (w : World) : (Go.method 445 222 (.agg #[h]) "Elem").run Tryz.prog w = .ok (262, .agg #[h]) w := by kernel_rfl
theorem mI2 (h : Value) (w : World) : (Go.method 445 222 (.agg #[h]) "Implements").run Tryz.prog w = .ok (263, .agg #[h]) w := by kernel_rfl
theorem mAT (h : Value) (w : World) : (Go.method 445 222 (.agg #[h]) "AssignableTo").run Tryz.prog w = .ok (260, .agg #[h]) w := by kernel_rfl
theorem eP(w:World):(ReflectliteType.method ReflectliteType.elem #[.agg #[.pointer (some ⟨5,276,none⟩)]]).run Tryz.prog w = .ok (.iface 222 (.agg #[.pointer (some ⟨5,274,none⟩)])) w:=by kernel_rfl
theorem iS3 (w : World) : (ReflectliteType.relation "Implements" ReflectliteType.implements_ #[.agg #[.pointer (some ⟨5, 274, none⟩)], .iface 222 (.agg #[.pointer (some ⟨5, 75, none⟩)])]).run Tryz.prog w = .ok (.bool true) w := by kernel_rfl
theorem tOS(v:Value)(w:World):(ReflectliteType.typeOf #[.iface 274 v]).run Tryz.prog w = .ok (.iface 222 (.agg #[.pointer (some ⟨5,274,none⟩)])) w:=by kernel_rfl
theorem aS (w : World) : (ReflectliteType.relation "AssignableTo" ReflectliteType.assignableTo #[.agg #[.pointer (some ⟨5, 274, none⟩)], .iface 222 (.agg #[.pointer (some ⟨5, 274, none⟩)])]).run Tryz.prog w = .ok (.bool true) w := by kernel_rfl
theorem vOS(c:Int)(w:World):(ReflectliteValue.unpack (.iface 274 (.agg #[.int .i64 c]))).run Tryz.prog w
  = .ok (.agg #[.pointer (some ⟨5,274,none⟩),.pointer (some ⟨w.heap.size,0,none⟩),.int .u64 153]) (w.alloc (.cells #[.int .i64 c] 274)):=by kernel_rfl
theorem eOP(w:World):(Rtype.elem? 276).run Tryz.prog w = .ok (some 274) w:=by kernel_rfl
theorem mkS(p:Addr)(w:World):(ReflectliteValue.mk 274 p ReflectliteValue.flagAddr).run Tryz.prog w = .ok (.agg #[.pointer (some ⟨5,274,none⟩),.pointer (some p),.int .u64 409]) w:=by kernel_rfl
theorem eV2(a p:Addr)(W:World)(ha:W.cell? a=some (.pointer (some p))) :
  (ReflectliteValue.method (ReflectliteValue.valueError "reflectlite.Value.Elem" 0) ReflectliteValue.elem #[.agg #[.pointer (some ⟨5, 276, none⟩), .pointer (some a), .int .u64 150]]).run Tryz.prog W
   = .ok (.agg #[.pointer (some ⟨5,274,none⟩),.pointer (some p),.int .u64 409]) W:=by
 rw[rlm];simp only[xz,pP2,Result.andThen];simp[ReflectliteValue.elem,loadVar,isAgg,underlying,Tryz.underlying276,ha,Result.andThen,eOP,mkS]
theorem rls(v x:Value):ReflectliteValue.set #[v,x]=(do
  let(some (dst,a,fl),some (src,b,_)):=(<-ReflectliteValue.parts v,<-ReflectliteValue.parts x)
   | unsupported (.noEntry "extern/(internal/reflectlite.Value).Set.zeroValue")
  if fl / ReflectliteValue.flagAddr % 2 == 0 then unsupported (.noEntry "extern/(internal/reflectlite.Value).Set.unaddressable")
  let val <-loadVar src b
  if <-Rtype.directlyAssignable dst src then storeVar dst a val
  else if <-Rtype.implements dst src then
   if(<-Rtype.kind src)==20 then
    match val with
    | .nilIface => unsupported (.noEntry "extern/reflectlite: a nil value of one interface type handed on as a value of another")
    |_=>storeVar dst a val
   else storeVar dst a (.iface src val)
  else panicString ("reflectlite.Set: value of type " ++ (← Rtype.spelt src) ++ " is not assignable to type " ++ (← Rtype.spelt dst))
  pure (.tuple #[])):=rfl
theorem pS4(a:Addr)(w:World):(ReflectliteValue.parts (.agg #[.pointer (some ⟨5,274,none⟩),.pointer (some a),.int .u64 409])).run Tryz.prog w = .ok (some (274,a,409)) w:=by kernel_rfl
theorem pS2(a:Addr)(w:World):(ReflectliteValue.parts (.agg #[.pointer (some ⟨5,274,none⟩),.pointer (some a),.int .u64 153])).run Tryz.prog w = .ok (some (274,a,153)) w:=by kernel_rfl
theorem dS(w:World):(Rtype.directlyAssignable 274 274).run Tryz.prog w = .ok true w:=by kernel_rfl
theorem setS(ta b:Addr)(c:Int)(old:Value)(W:World)(hb:W.cell? b=some (.int .i64 c))(ht:W.cell? ta=some old)(hf:W.frozen? ta=false) :
  (ReflectliteValue.set #[.agg #[.pointer (some ⟨5,274,none⟩),.pointer (some ta),.int .u64 409],.agg #[.pointer (some ⟨5,274,none⟩),.pointer (some b),.int .u64 153]]).run Tryz.prog W
   = .ok (.tuple #[]) (W.setCell ta (.int .i64 c)):=by
 rw[rls];simp only[xz,pS4,pS2,Result.andThen]
 have hl:(loadVar 274 b).run Tryz.prog W = .ok (.agg #[.int .i64 c]) W:=by
  have hc:=run_loadCells_list (P:=Tryz.prog) W b [.int .i64 c] (fun j v hj=>by
   match j,hj with
   |0,hj=>simp at hj;subst hj;simpa[Addr.add]using hb)
  simp only[zX]at hc;simp[loadVar,Result.andThen,hc]
 simp[ReflectliteValue.flagAddr,hl,Result.andThen,dS,storeVar,Value.cells,storeCells,Addr.add];rw[run_store Tryz.prog W ta _ _ (by rfl)];simp[ht,hf]
theorem ah(t:Addr)(c:Int)(old:Value)(w:World)(hg:w.cell? ⟨3,0,none⟩=some (.iface 222 (.agg #[.pointer (some ⟨5,75,none⟩)])))(ht0:w.cell? t=some old)(hf0:w.frozen? t=false) :
  Calls Tryz.prog 208 #[.iface 274 (.agg #[.int .i64 c]),.iface 276 (.pointer (some t))] w fun ev w'=>ev = .returned (.bool true)/\w'=((((w.alloc (.cells #[.pointer (some t)] 276)).alloc (.cells #[.pointer (some ⟨5,276,none⟩),.pointer (some ⟨w.heap.size,0,none⟩),.int .u64 150] 294)).alloc (.cells #[.pointer (some ⟨5,276,none⟩),.pointer (some ⟨w.heap.size,0,none⟩),.int .u64 150] 294)).alloc (.cells #[.int .i64 c] 274)).setCell t (.int .i64 c):=by
 have h6:=@run_callFunc_extern Tryz.prog 227 _ (fun args=>ReflectliteValue.unpack (args.getD 0 (.tuple #[]))) Tryz.func227 (by kernel_rfl) (by kernel_rfl) (by kernel_rfl) (by kernel_rfl)
 have h7 := @run_callFunc_extern Tryz.prog 228 _ (ReflectliteValue.methodAny (ReflectliteValue.valueError "reflectlite.Value.Type" 0) (fun t _ _ _ => ReflectliteType.toType t)) Tryz.func228 (by kernel_rfl) (by kernel_rfl) (by kernel_rfl) (by kernel_rfl)
 have h8 := @run_callFunc_extern Tryz.prog 229 _ (ReflectliteValue.method (ReflectliteValue.valueError "reflectlite.Value.IsNil" 0) ReflectliteValue.isNil) Tryz.func229 (by kernel_rfl) (by kernel_rfl) (by kernel_rfl) (by kernel_rfl)
 have Af:=@run_callFunc_extern Tryz.prog 255 _ (ReflectliteType.abiMethod fun t=>do pure (.int .u8 (<-Rtype.kind t))) Tryz.func255 (by kernel_rfl) (by kernel_rfl) (by kernel_rfl) (by kernel_rfl);have Am:=@run_callFunc_extern Tryz.prog 262 _ (ReflectliteType.method ReflectliteType.elem) Tryz.func262 (by kernel_rfl) (by kernel_rfl) (by kernel_rfl) (by kernel_rfl)
 have Ah := @run_callFunc_extern Tryz.prog 263 _ (ReflectliteType.relation "Implements" ReflectliteType.implements_) Tryz.func263 (by kernel_rfl) (by kernel_rfl) (by kernel_rfl) (by kernel_rfl);have Aj:=@run_callFunc_extern Tryz.prog 129 _ ReflectliteType.typeOf Tryz.func129 (by kernel_rfl) (by kernel_rfl) (by kernel_rfl) (by kernel_rfl)
 have Ac := @run_callFunc_extern Tryz.prog 260 _ (ReflectliteType.relation "AssignableTo" ReflectliteType.assignableTo) Tryz.func260 (by kernel_rfl) (by kernel_rfl) (by kernel_rfl) (by kernel_rfl)
 have Ag := @run_callFunc_extern Tryz.prog 238 _ (ReflectliteValue.method (ReflectliteValue.valueError "reflectlite.Value.Elem" 0) ReflectliteValue.elem) Tryz.func238 (by kernel_rfl) (by kernel_rfl) (by kernel_rfl) (by kernel_rfl);have Ad:=@run_callFunc_extern Tryz.prog 239 _ ReflectliteValue.set Tryz.func239 (by kernel_rfl) (by kernel_rfl) (by kernel_rfl) (by kernel_rfl);have tO:=tOS;have mA:=mAT
 have Ao:=aS;have Ae:=vOS;have f6:=vOP;have f7:=tP2;have mK:=mK2;have mE:=mE2;have mI:=mI2;have Ai:=kP;have Ak:=kS7;have An:=eP;have Ap:=iS3;have n8:=iNP ⟨w.heap.size,0,none⟩ t ((w.alloc (.cells #[.pointer (some t)] 276)).alloc (.cells #[.pointer (some ⟨5,276,none⟩),.pointer (some ⟨w.heap.size,0,none⟩),.int .u64 150] 294)) (by simp);have Ab:3<w.heap.size:=qK _ _ hg
 have Al:((w.alloc (.cells #[.pointer (some t)] 276)).alloc (.cells #[.pointer (some ⟨5,276,none⟩),.pointer (some ⟨w.heap.size,0,none⟩),.int .u64 150] 294)).cell? ⟨3,0,none⟩=some (.iface 222 (.agg #[.pointer (some ⟨5,75,none⟩)])):=by rw[jc _ _ ⟨3,0,none⟩ (by show 3<_;rw[yH];omega),jc _ _ ⟨3,0,none⟩ Ab];exact hg
 have Aa:t.block<w.heap.size:=qK _ _ ht0;have el:=eV2 ⟨w.heap.size,0,none⟩ t (((w.alloc (.cells #[.pointer (some t)] 276)).alloc (.cells #[.pointer (some ⟨5,276,none⟩),.pointer (some ⟨w.heap.size,0,none⟩),.int .u64 150] 294)).alloc (.cells #[.pointer (some ⟨5,276,none⟩),.pointer (some ⟨w.heap.size,0,none⟩),.int .u64 150] 294)) (by rw[jc _ _ ⟨w.heap.size,0,none⟩ (by simp;omega)];simp)
 have st:=setS t ⟨w.heap.size+1+1+1,0,none⟩ c old ((((w.alloc (.cells #[.pointer (some t)] 276)).alloc (.cells #[.pointer (some ⟨5,276,none⟩),.pointer (some ⟨w.heap.size,0,none⟩),.int .u64 150] 294)).alloc (.cells #[.pointer (some ⟨5,276,none⟩),.pointer (some ⟨w.heap.size,0,none⟩),.int .u64 150] 294)).alloc (.cells #[.int .i64 c] 274))
  (by rw[World.cell?_alloc_at _ _ _ _ (by simp)];rfl)
  (by rw[jc _ _ t (by simp;omega),jc _ _ t (by simp;omega),jc _ _ t (by simp;omega),jc _ _ t Aa];exact ht0)
  (by rw[xv _ _ t (by simp;omega),xv _ _ t (by simp;omega),xv _ _ t (by simp;omega),xv _ _ t (qAu Aa)];exact hf0)
 go_enter Tryz.func208,Tryz.ntmps208;go_wp2;refine jv 1 ?_;rw[jR];go_wp2;go_ret;exact⟨rfl,rfl⟩
def dErr(code:Nat):Value:=if code=0 then .nilIface else .iface 274 (.agg #[.int .i64 code])
theorem da6(a0 a1:Addr)(code:Nat)(w:World)(hv:DV2 a0 a1 w):Calls Tryz.prog 175 #[dErr code] w fun e w'=>e = .returned (.int .i64 (code:Nat))/\Below w.heap.size w w':=by
 obtain⟨w0,Aa⟩:=Xq (w.alloc (.cells #[.int .i64 0] 274))
 have Ac:Below w.heap.size w w0:=by rw[Aa];exact(qJ _ _).alloc (qC _) _
 unfold dErr;by_cases h:code=0
 ·subst h;rw[qR rfl];have i1:=an3 (.iface 276 (.pointer (some ⟨w.heap.size,0,none⟩))) w0;have I1:=Hd i1;have HW:=Hd Aa;clear i1 Aa;go_enter Tryz.func175,Tryz.ntmps175;go_wp2_with (go_at_call 208;rw[<-HW.out];refine I1.out.mono ?_;rintro e w' ⟨rfl,rfl⟩);go_ret;exact⟨rfl,Ac⟩
 ·rw[qH h];have Ab:w0.cell? ⟨w.heap.size,0,none⟩=some (.int .i64 0):=by rw[Aa];exact qBe w _ _
  have i1:=ah ⟨w.heap.size,0,none⟩ (code:Int) (.int .i64 0) w0 (hv.below Ac).g0 Ab (by rw[Aa];simp);have Ad:w.heap.size<w0.heap.size:=qK _ _ Ab
  have i2:=i1.mono (R':=fun ev w'=>ev = .returned (.bool true)/\w'.cell? ⟨w.heap.size,0,none⟩=some (.int .i64 code)/\Below w.heap.size w0 w') (by
   rintro e w' ⟨he,hw⟩;refine⟨he,?_,?_⟩
   ·rw[hw];refine xS _ _ _ ?_;rw[jc _ _ ⟨w.heap.size,0,none⟩ (by simp;omega),jc _ _ ⟨w.heap.size,0,none⟩ (by simp;omega),jc _ _ ⟨w.heap.size,0,none⟩ (by simp;omega),jc _ _ ⟨w.heap.size,0,none⟩ Ad,Ab];rfl
   ·rw[hw]
    exact(((((qJ w.heap.size w0).alloc (by omega) _).alloc (by simp;omega) _).alloc (by simp;omega) _).alloc (by simp;omega) _).setCell (p:=⟨w.heap.size,0,none⟩) (qC _) _)
  have I2:=Hd i2;have HW:=Hd Aa;clear i1 i2 Aa Ab Ad;go_enter Tryz.func175,Tryz.ntmps175;go_wp2_with (go_at_call 208;rw[<-HW.out];refine I2.out.mono ?_;rintro e w1 ⟨rfl,Af,Ae⟩);go_ret;exact⟨rfl,Ac.trans Ae⟩
theorem da3(g code:Nat)(w:World)(hc:w.cell? ⟨g,0,none⟩=some (.int .i64 code)) :
  Calls Tryz.prog 207 #[.slice (some ⟨g,0,none⟩) 1 1] w fun e w'=>e = .returned (dErr code)/\w'=w:=by
 unfold dErr;by_cases h:code=0
 ·subst h;rw[qR rfl];go_enter Tryz.func207,Tryz.ntmps207;go_wp2;refine jv 2 ?_;rw[jR];go_wp2;rw[jR];go_wp2;go_ret;exact⟨rfl,rfl⟩
 ·rw[qH h];have Ab:((code:Int) !=0)=true:=by rw[zj];omega
  have Aa:¬(code:Int)=0:=by omega
  go_enter Tryz.func207,Tryz.ntmps207;go_wp2;refine jv 1 ?_;rw[jR];go_wp2;go_ret;exact⟨rfl,rfl⟩
end Go.Proofs.Q9
namespace Tess
def numW(rest:ByteArray)(most:Nat):Nat×ByteArray×Nat:=
 if(getW rest).2.2=0 then(if most<(getW rest).1 then(0,rest,50)else((getW rest).1,(getW rest).2.1,0))else(0,rest,(getW rest).2.2)
theorem gWl(s:ByteArray):(getW s).1<18446744073709551616:=by
 unfold getW;split
 ·rename_i h;split
  ·rename_i hg;have hk:stop s.data.toList<s.data.toList.length:=by simp;omega
   have Aa:∀j (hj:j<s.data.toList.length),j<stop s.data.toList->128<=s.data.toList[j].toNat:=fun j hj hjs=>by have:=List.not_of_lt_findIdx (p:=fun c:UInt8=>decide (c.toNat<128)) (xs:=s.data.toList.take 10) hjs;rw[yP]at this;simpa using this
   have Ab:s.data.toList[stop s.data.toList].toNat<128:=by
    have Ac:stop s.data.toList<(s.data.toList.take 10).length:=by simp;omega
    have:=List.findIdx_getElem (p:=fun c:UInt8=>decide (c.toNat<128)) (xs:=s.data.toList.take 10) (w:=Ac);have e:(s.data.toList.take 10)[stop s.data.toList]=s.data.toList[stop s.data.toList]:=yP;rw[<-e];exact zT this
   exact(again s.data.toList (stop s.data.toList) hk (by omega) Aa Ab).2 hg
  ·show 0<_;omega
 ·show 0<_;omega
end Tess
namespace Go.Proofs.Q9
open Go.RowKit Go.Sort Go.Shelf
def Rd(p:Nat)(rest last:ByteArray)(w:World):Prop:=w.heap[p]?=some (.cells #[.string rest,.string last] 244 (0,0))
section
variable {p:Nat} {rest last:ByteArray} {w w':World}
theorem Rd.lt(h:Rd p rest last w):p<w.heap.size:=(qA.1 h).1
theorem Rd.c0(h:Rd p rest last w):w.cell? ⟨p,0,none⟩=some (.string rest):=by unfold Rd at h;simp[World.cell?,h]
theorem Rd.c1(h:Rd p rest last w):w.cell? ⟨p,1,none⟩=some (.string last):=by unfold Rd at h;simp[World.cell?,h]
theorem Rd.z(h:Rd p rest last w)(i:Nat):w.frozen? ⟨p,i,none⟩=false:=by unfold Rd at h;simp[World.frozen?,h]
theorem Rd.below(h:Rd p rest last w)(hb:Below w.heap.size w w'):Rd p rest last w':=(hb.block _ h.lt).trans h
theorem Rd.set0(h:Rd p rest last w)(r:ByteArray):Rd p r last (w.setCell ⟨p,0,none⟩ (.string r)):=by unfold Rd at *;simp[World.setCell,jl,h]
theorem Rd.set1(h:Rd p rest last w)(r:ByteArray):Rd p rest r (w.setCell ⟨p,1,none⟩ (.string r)):=by unfold Rd at *;simp[World.setCell,jl,h]
end
theorem Kept.of_below{p:Nat}{w w':World}(h:Below w.heap.size w w'):Kept w.heap.size p w w':=⟨h.os,h.tape,h.output,h.size,fun k hk _=>h.block k hk⟩
theorem Kept.on{p:Nat}{w w1 w2:World}(h:Kept w.heap.size p w w1)(h':Kept w1.heap.size p w1 w2):Kept w.heap.size p w w2:=
 ⟨h'.os.trans h.os,h'.tape.trans h.tape,h'.output.trans h.output,qt h.size h'.size,fun k h1 h2=>(h'.block k (qF h1 h.size) h2).trans (h.block k h1 h2)⟩
theorem Kept.from{p:Nat}{wb w w':World}(h:Kept w.heap.size p w w')(hb:Below wb.heap.size wb w)(hp:wb.heap.size<=p):Below wb.heap.size wb w':=
 ⟨h.os.trans hb.os,h.tape.trans hb.tape,h.output.trans hb.output,qt hb.size h.size,fun k hk=>(h.block k (qF hk hb.size) (by omega)).trans (hb.block k hk)⟩
theorem Kept.owns{p:Nat}{w w':World}{base:Nat}{e:TypeId}{size:Nat}{v:Value}{n:Nat}{xs:List Value}(h:Kept w.heap.size p w w')(ho:w.ownsRow base e size v n xs)(hp:p<base):w'.ownsRow base e size v n xs:=by
 obtain⟨h1,h2⟩:=ho;refine⟨h1,?_⟩;rcases h2 with h2|⟨g,Aa,Ab,hv,hb,hg,r⟩
 ·exact .inl h2
 ·exact .inr ⟨g,Aa,Ab,hv,hb,(h.block g (qA.1 hg).1 (by omega)).trans hg,r⟩
theorem dna(a0 a1:Addr)(wb:World)(p most:Nat)(rest last:ByteArray)(w:World)(hv:DV2 a0 a1 wb)(hB:Below wb.heap.size wb w)(hr:Rd p rest last w)(hm:most<=1000) :
  Calls Tryz.prog 173 #[.pointer (some ⟨p,0,none⟩),.int .i64 most] w fun e w'=>e = .returned (.tuple #[.int .i64 ((Tess.numW rest most).1:Nat),dErr (Tess.numW rest most).2.2])/\Rd p (Tess.numW rest most).2.1 last w'/\Kept w.heap.size p w w':=by
 have Ab:=ga2 a0 a1 rest w (hv.below hB);have Ae:=Tess.gWl rest;unfold GP2 at Ab;unfold Tess.numW;obtain⟨⟨n,r2,c⟩,hg⟩:∃g,g=Tess.getW rest:=⟨_,rfl⟩
 rw[<-hg]at Ab Ae⊢;simp only at Ab Ae⊢;have c0:=hr.c0;have HR:=Hd hr;have HG:=Hd Ab;clear Ab hv hB hr hg;by_cases hc:c=0
 ·subst hc;by_cases hn:most<n
  ·have Aa:(if(0:Nat)=0 then(if most<n then((0:Nat),rest,(50:Nat))else(n,r2,0))else(0,rest,0))=(0,rest,50):=by rw[qR rfl,qR hn]
   rw[Aa];have Ag:(most:Int)<(n:Int):=by omega
   have hw:IntKind.u64.wrap (most:Int)=(most:Int):=by go_bits;first|trivial|omega
   clear Aa;go_enter Tryz.func173,Tryz.ntmps173
   go_wp2_with (first
    |(go_at_call 176;refine HG.out.mono ?_;rintro e w1 ⟨rfl,Ad⟩;have Ac:=Hd Ad;clear Ad)
    |(go_at_call 207;refine(da3 _ 50 _ (qBe _ _ _)).mono ?_;rintro e w2 ⟨rfl,rfl⟩))
   go_ret2;exact⟨rfl,(HR.out.below Ac.out).below ((qJ _ _).alloc (qC _) _),Kept.of_below (Bt Ac.out ((qJ _ _).alloc (qC _) _))⟩
  ·have Aa:(if(0:Nat)=0 then(if most<n then((0:Nat),rest,(50:Nat))else(n,r2,0))else(0,rest,0))=(n,r2,0):=by rw[qR rfl,qH hn]
   rw[Aa];have Ag:¬(most:Int)<(n:Int):=by omega
   have hw:IntKind.u64.wrap (most:Int)=(most:Int):=by go_bits;first|trivial|omega
   have Ai:IntKind.i64.wrap (n:Int)=(n:Int):=by go_bits;first|trivial|omega
   clear Aa;go_enter Tryz.func173,Tryz.ntmps173;go_wp2_with (go_at_call 176;refine HG.out.mono ?_;rintro e w1 ⟨rfl,Ad⟩;have Ac:=Hd Ad;clear Ad;have d0:=(HR.out.below Ac.out).c0;have z0:=(HR.out.below Ac.out).z 0);go_ret2;exact⟨rfl,(HR.out.below Ac.out).set0 r2,(Kept.of_below Ac.out).trans (Kept.setCell _ _ _ _ _)⟩
 ·have Aa:(if c=0 then(if most<n then((0:Nat),rest,(50:Nat))else(n,r2,0))else(0,rest,c))=(0,rest,c):=by rw[qH hc]
  rw[Aa];have Ah:((c:Int) !=0)=true:=by rw[zj];omega
  have Af:¬(c:Int)=0:=by omega
  clear Aa;go_enter Tryz.func173,Tryz.ntmps173
  go_wp2_with (first
   |(go_at_call 176;refine HG.out.mono ?_;rintro e w1 ⟨rfl,Ad⟩;have Ac:=Hd Ad;clear Ad)
   |(go_at_call 207;refine(da3 _ c _ (qBe _ _ _)).mono ?_;rintro e w2 ⟨rfl,rfl⟩))
  go_ret2;exact⟨rfl,(HR.out.below Ac.out).below ((qJ _ _).alloc (qC _) _),Kept.of_below (Bt Ac.out ((qJ _ _).alloc (qC _) _))⟩
end Go.Proofs.Q9
namespace Tess
theorem nWl(rest:ByteArray)(most:Nat):(numW rest most).1<=most:=by
 unfold numW;split
 ·split
  ·exact qN _
  ·rename_i h;exact Nat.le_of_not_lt h
 ·exact qN _
def wW2(rest last:ByteArray):ByteArray×ByteArray×Nat:=
 if(numW rest last.size).2.2=0 then
  (if(numW (numW rest last.size).2.1 (100-(numW rest last.size).1)).2.2=0 then
    (if(numW (numW rest last.size).2.1 (100-(numW rest last.size).1)).2.1.size<(numW (numW rest last.size).2.1 (100-(numW rest last.size).1)).1 then((numW (numW rest last.size).2.1 (100-(numW rest last.size).1)).2.1,last,21)
     else((numW (numW rest last.size).2.1 (100-(numW rest last.size).1)).2.1.extract (numW (numW rest last.size).2.1 (100-(numW rest last.size).1)).1 (numW (numW rest last.size).2.1 (100-(numW rest last.size).1)).2.1.size,
      last.extract 0 (numW rest last.size).1++(numW (numW rest last.size).2.1 (100-(numW rest last.size).1)).2.1.extract 0 (numW (numW rest last.size).2.1 (100-(numW rest last.size).1)).1,0))
   else((numW (numW rest last.size).2.1 (100-(numW rest last.size).1)).2.1,last,(numW (numW rest last.size).2.1 (100-(numW rest last.size).1)).2.2))
 else((numW rest last.size).2.1,last,(numW rest last.size).2.2)
theorem wWo(rest last:ByteArray)(n k:Nat)(r1 r2:ByteArray)(c1 c2:Nat)(h1:numW rest last.size=(n,r1,c1))(h2:numW r1 (100-n)=(k,r2,c2)) :
  wW2 rest last=if c1=0 then(if c2=0 then(if r2.size<k then(r2,last,21)else(r2.extract k r2.size,last.extract 0 n++r2.extract 0 k,0))else(r2,last,c2))else(r1,last,c1):=by
 unfold wW2;simp only[h1,h2]
theorem wWs(rest last:ByteArray)(hl:last.size<=100):(wW2 rest last).2.1.size<=100:=by
 obtain⟨⟨n,r1,c1⟩,h1⟩:∃g,g=numW rest last.size:=⟨_,rfl⟩
 obtain⟨⟨k,r2,c2⟩,h2⟩:∃g,g=numW r1 (100-n):=⟨_,rfl⟩
 rw[wWo rest last n k r1 r2 c1 c2 h1.symm h2.symm];have hn:=nWl rest last.size;have hk:=nWl r1 (100-n);rw[<-h1]at hn;rw[<-h2]at hk;simp only at hn hk;split
 ·split
  ·split
   ·exact hl
   ·simp;omega
  ·exact hl
 ·exact hl
end Tess
namespace Go.Proofs.Q9
open Go.RowKit Go.Sort Go.Shelf
theorem wa5(a0 a1:Addr)(wb:World)(p:Nat)(rest last:ByteArray)(w:World)(hv:DV2 a0 a1 wb)(hpb:wb.heap.size<=p)(hB:Below wb.heap.size wb w)(hr:Rd p rest last w)(hl:last.size<=100) :
  Calls Tryz.prog 174 #[.pointer (some ⟨p,0,none⟩)] w fun e w'=>e = .returned (dErr (Tess.wW2 rest last).2.2)/\Rd p (Tess.wW2 rest last).1 (Tess.wW2 rest last).2.1 w'/\Kept w.heap.size p w w':=by
 have Al:=dna a0 a1 wb p last.size rest last w hv hB hr (by omega);have Ao:=Tess.nWl rest last.size;obtain⟨⟨n,r1,x1⟩,h1⟩:∃g,g=Tess.numW rest last.size:=⟨_,rfl⟩
 obtain⟨⟨k,r2,x2⟩,h2⟩:∃g,g=Tess.numW r1 (100-n):=⟨_,rfl⟩
 have hW:=Tess.wWo rest last n k r1 r2 x1 x2 h1.symm h2.symm;have Af:=Tess.nWl r1 (100-n);rw[<-h1]at Al Ao;rw[<-h2]at Af;simp only at Al Ao Af
 have Aq:∀W,Below wb.heap.size wb W->Rd p r1 last W->Calls Tryz.prog 173 #[.pointer (some ⟨p,0,none⟩),.int .i64 ((100-n:Nat):Int)] W fun e w'=>e = .returned (.tuple #[.int .i64 (k:Nat),dErr x2])/\Rd p r2 last w'/\Kept W.heap.size p W w':=fun W hBW hRW=>by have:=dna a0 a1 wb p (100-n) r1 last W hv hBW hRW (by omega);rw[<-h2]at this;exact this
 have d1:=hr.c1;have Ag:=Hd Al;have Ai:=Hd Aq;have Am:=Hd hB;clear Al Aq hv hB hr h1 h2;rw[hW];have Ap:(100:Int)-(n:Int)=((100-n:Nat):Int):=by omega
 obtain⟨m,hm⟩:=Xq (100-n)
 rw[<-hm]at Ai Ap Af;have Ar:m<=100:=by omega
 have Ay:IntKind.i64.wrap (m:Int)=(m:Int):=by go_bits;first|trivial|omega
 have Ax:n<=last.size:=Ao;clear hm hW;by_cases hx1:x1=0
 ·subst hx1;rw[qR rfl];by_cases hx2:x2=0
  ·subst hx2;rw[qR rfl];have An:dErr 0 = .nilIface:=rfl;rw[An]at Ag Ai;by_cases hk:r2.size<k
   ·rw[qR hk];have Au:(r2.size:Int)<(k:Int):=by omega
    go_enter Tryz.func174,Tryz.ntmps174
    go_wp2_with (first
     |(go_at_call 173;with_reducible refine Ag.out.mono ?_;rintro e w1 ⟨rfl,Ab,Ac⟩;have Ah:=Hd Ab;have Ad:=Hd Ac;clear Ab Ac)
     |(go_at_call 173;refine(Ai.out _ (Ad.out.from Am.out hpb) Ah.out).mono ?_;rintro e w2 ⟨rfl,Aa,Ae⟩;have e0:=Aa.c0;have Ak:=Hd Aa;have Aj:=Hd (Ad.out.on Ae);clear Aa Ae)
     |(go_at_call 207;refine(da3 _ 21 _ (qBe _ _ _)).mono ?_;rintro e w3 ⟨rfl,rfl⟩))
    go_ret;exact⟨rfl,Ak.out.below ((qJ _ _).alloc (qC _) _),Aj.out.on (Kept.of_below ((qJ _ _).alloc (qC _) _))⟩
   ·rw[qH hk];have Au:¬(r2.size:Int)<(k:Int):=by omega
    have As:(k:Int)<=(r2.size:Int):=by omega
    have Az:(n:Int)<=(last.size:Int):=by omega
    have Aw:¬9223372036854775807<(last.extract 0 n).size+(r2.extract 0 k).size:=by simp;omega
    go_enter Tryz.func174,Tryz.ntmps174
    go_wp2_with (first
     |(go_at_call 173;with_reducible refine Ag.out.mono ?_;rintro e w1 ⟨rfl,Ab,Ac⟩;have Ah:=Hd Ab;have Ad:=Hd Ac;clear Ab Ac)
     |(go_at_call 173;refine(Ai.out _ (Ad.out.from Am.out hpb) Ah.out).mono ?_;rintro e w2 ⟨rfl,Aa,Ae⟩;have e0:=Aa.c0;have e1:=Aa.c1;have z0:=Aa.z 0;have z1:=Aa.z 1;have Ak:=Hd Aa;have Aj:=Hd (Ad.out.on Ae);clear Aa Ae))
    go_region
    all_goals go_wp2
    all_goals go_ret
    all_goals exact⟨rfl,(Ak.out.set1 _).set0 _,Aj.out.trans (((Kept.setCell _ _ _ 1 _).trans (Kept.setCell _ _ _ 0 _)).trans ⟨rfl,rfl,rfl,qC _,fun _ _ _=>rfl⟩)⟩
  ·rw[qH hx2];have An:dErr 0 = .nilIface:=rfl;have Av:dErr x2 = .iface 274 (.agg #[.int .i64 x2]):=qH hx2;rw[An]at Ag;rw[Av]at Ai⊢;go_enter Tryz.func174,Tryz.ntmps174
   go_wp2_with (first
    |(go_at_call 173;with_reducible refine Ag.out.mono ?_;rintro e w1 ⟨rfl,Ab,Ac⟩;have Ah:=Hd Ab;have Ad:=Hd Ac;clear Ab Ac)
    |(go_at_call 173;refine(Ai.out _ (Ad.out.from Am.out hpb) Ah.out).mono ?_;rintro e w2 ⟨rfl,Aa,Ae⟩;have Ak:=Hd Aa;have Aj:=Hd (Ad.out.on Ae);clear Aa Ae))
   go_ret;exact⟨rfl,Ak.out,Aj.out⟩
 ·rw[qH hx1];have At:dErr x1 = .iface 274 (.agg #[.int .i64 x1]):=qH hx1;rw[At]at Ag⊢;go_enter Tryz.func174,Tryz.ntmps174;go_wp2_with (go_at_call 173;with_reducible refine Ag.out.mono ?_;rintro e w1 ⟨rfl,Ab,Ac⟩;have Ah:=Hd Ab;have Ad:=Hd Ac;clear Ab Ac);go_ret;exact⟨rfl,Ah.out,Ad.out⟩
end Go.Proofs.Q9
namespace Tess
def wW:Nat->ByteArray->ByteArray->List ByteArray×ByteArray×Nat
 |0,rest,_=>([],rest,0)
 |n+1,rest,last=>if(wW2 rest last).2.2=0 then((wW2 rest last).2.1::(wW n (wW2 rest last).1 (wW2 rest last).2.1).1,(wW n (wW2 rest last).1 (wW2 rest last).2.1).2.1,(wW n (wW2 rest last).1 (wW2 rest last).2.1).2.2)
   else([],(wW2 rest last).1,(wW2 rest last).2.2)
def decW(s:ByteArray):List ByteArray×ByteArray×Nat:=
 if(numW s 1000).2.2=0 then
  (if(wW (numW s 1000).1 (numW s 1000).2.1 w0).2.2=0 then
    (if(encW (wW (numW s 1000).1 (numW s 1000).2.1 w0).1).2=0/\(encW (wW (numW s 1000).1 (numW s 1000).2.1 w0).1).1++(wW (numW s 1000).1 (numW s 1000).2.1 w0).2.1=s then((wW (numW s 1000).1 (numW s 1000).2.1 w0).1,(wW (numW s 1000).1 (numW s 1000).2.1 w0).2.1,0)
     else([],s,50))
   else([],s,(wW (numW s 1000).1 (numW s 1000).2.1 w0).2.2))
 else([],s,(numW s 1000).2.2)
def fin(o:List ByteArray)(m:Nat)(r l:ByteArray)(c:Nat):List ByteArray×ByteArray×Nat:=if c=0 then(o++(wW m r l).1,(wW m r l).2.1,(wW m r l).2.2)else(o,r,c)
theorem fw(o:List ByteArray)(m:Nat)(r l:ByteArray)(h:(wW2 r l).2.2=0):fin o (m+1) r l 0=fin (o++[(wW2 r l).2.1]) m (wW2 r l).1 (wW2 r l).2.1 0:=by unfold fin;rw[qR rfl,qR rfl];simp only[wW,h,jH,zN,yw]
theorem fb2(o:List ByteArray)(m:Nat)(r l:ByteArray)(h:(wW2 r l).2.2≠0):fin o (m+1) r l 0=fin o m (wW2 r l).1 (wW2 r l).2.1 (wW2 r l).2.2:=by unfold fin;rw[qR rfl,qH h];simp only[wW,qH h,zZ]
theorem fe(o:List ByteArray)(m:Nat)(r l:ByteArray)(c:Nat)(h:c≠0∨m=0):fin o m r l c=(o,r,c):=by
 unfold fin;by_cases hc:c=0
 ·rcases h with h|h
  ·exact absurd hc h
  ·subst h;subst hc;simp[wW]
 ·rw[qH hc]
theorem fn5(m:Nat)(r l:ByteArray):fin [] m r l 0=wW m r l:=by unfold fin;simp
theorem gWs(s:ByteArray):(getW s).2.1.size<=s.size:=by
 unfold getW;split
 ·split
  ·simp
  ·exact qC _
 ·exact qC _
theorem nWs(s:ByteArray)(m:Nat):(numW s m).2.1.size<=s.size:=by
 unfold numW;split
 ·split
  ·exact qC _
  ·exact gWs s
 ·exact qC _
theorem wWr(r l:ByteArray):(wW2 r l).1.size<=r.size:=by
 have h1:=nWs r l.size;have h2:=nWs (numW r l.size).2.1 (100-(numW r l.size).1);unfold wW2;split
 ·split
  ·split
   ·exact qt h2 h1
   ·simp;omega
  ·exact qt h2 h1
 ·exact h1
theorem eWs(l:List ByteArray):(encW l).1.size<=120010:=by
 by_cases h:right l=true
 ·rw[sWe l h];have:=sWs l h l.length (qC _);have:=rl2 l h;show(sW l l.length).size<=_;omega
 ·unfold encW;rw[qH h];exact qN _
theorem dWo(s:ByteArray)(n c:Nat)(r:ByteArray)(h:numW s 1000=(n,r,c)):decW s=if c=0 then
  (if(wW n r w0).2.2=0 then(if(encW (wW n r w0).1).2=0/\(encW (wW n r w0).1).1++(wW n r w0).2.1=s then((wW n r w0).1,(wW n r w0).2.1,0)else([],s,50))else([],s,(wW n r w0).2.2))else([],s,c):=by
 unfold decW;simp only[h]
theorem do4(s:ByteArray)(n c:Nat)(r r':ByteArray)(o:List ByteArray)(hD:decW s=if c=0 then
  (if(wW n r w0).2.2=0 then(if(encW (wW n r w0).1).2=0/\(encW (wW n r w0).1).1++(wW n r w0).2.1=s then((wW n r w0).1,(wW n r w0).2.1,0)else([],s,50))else([],s,(wW n r w0).2.2))else([],s,c))
  (hE:fin [] n r w0 c=(o,r',0)):decW s=if(encW o).2=0/\(encW o).1++r'=s then(o,r',0)else([],s,50):=by
 by_cases hc:c=0
 ·subst hc;rw[fn5]at hE;rw[hD,qR rfl,hE];simp only[jH]
 ·unfold fin at hE;rw[qH hc]at hE;exact absurd (zM (fun t=>t.2.2) hE) hc
theorem db2(s:ByteArray)(n c c':Nat)(r r':ByteArray)(o:List ByteArray)(hD:decW s=if c=0 then
  (if(wW n r w0).2.2=0 then(if(encW (wW n r w0).1).2=0/\(encW (wW n r w0).1).1++(wW n r w0).2.1=s then((wW n r w0).1,(wW n r w0).2.1,0)else([],s,50))else([],s,(wW n r w0).2.2))else([],s,c))
  (hE:fin [] n r w0 c=(o,r',c')) (hc':c'≠0):decW s=([],s,c'):=by
 by_cases hc:c=0
 ·subst hc;rw[fn5]at hE;rw[hD,qR rfl,hE];simp only[qH hc']
 ·unfold fin at hE;rw[qH hc]at hE;rw[hD,qH hc];have:c=c':=zM (fun t=>t.2.2) hE;rw[this]
end Tess
namespace Go.Proofs.Q9
open Go.RowKit Go.Sort Go.Shelf
def DP2(s:ByteArray)(w:World)(e:Ending)(w':World):Prop:=∃v,e = .returned (.tuple #[v,.string (Tess.decW s).2.1,.int .i64 ((Tess.decW s).2.2:Nat)])/\SlOf w' v ((Tess.decW s).1.map .string)/\Below w.heap.size w w'
def DPO(s:ByteArray)(w:World)(e:Ending)(w':World):Prop:=∃v,e = .returned (.tuple #[v,.string (Tess.decW s).2.1,.int .i64 ((Tess.decW s).2.2:Nat)])/\w'.ownsRow 0 9 1 v (Tess.decW s).1.length ((Tess.decW s).1.map .string)/\Below w.heap.size w w'
theorem do3(a0 a1:Addr)(s:ByteArray)(w:World)(hv:DV2 a0 a1 w)(hs:s.size<=1000000):Calls Tryz.prog 133 #[.string s] w (DPO s w):=by
 obtain⟨w0,Av⟩:=Xq (w.alloc (.cells #[.string s,.string Tess.w0] 244))
 have A3:Below w.heap.size w w0:=by rw[Av];exact(qJ _ _).alloc (qC _) _
 have A9:Rd w.heap.size s Tess.w0 w0:=by rw[Av];exact zS w _
 have Aw:=dna a0 a1 w w.heap.size 1000 s Tess.w0 w0 hv A3 A9 (by omega);have Aj:=Tess.nWl s 1000;have Ai:=Tess.nWs s 1000;obtain⟨⟨n,r,c⟩,h1⟩:∃g,g=Tess.numW s 1000:=⟨_,rfl⟩
 have hD:=Tess.dWo s n c r h1.symm;rw[<-h1]at Aw Aj Ai;simp only at Aw Aj Ai;obtain⟨i0,hi,Bf,Bm,Bk⟩:=zF diS;have HV:=Hd hv;have HW:=Hd Av;have Be:=Hd A3;have A8:=Hd Aw;have HD:=Hd hD;have Ba:∀W,Below w.heap.size w W->∀code,Calls Tryz.prog 175 #[dErr code] W fun e w'=>e = .returned (.int .i64 (code:Nat))/\Below W.heap.size W w':=fun W hB code=>da6 a0 a1 code W (hv.below hB);have HT:=Hd Ba
 clear hv Av A3 Aw hD Ba A9 h1;unfold DPO;have Bu:w0.heap.size=w.heap.size+1:=by rw[HW.out];simp
 go_enter Tryz.func133,Tryz.ntmps133;go_wp2_with (go_at_call 173;rw[show(ByteArray.mk #[]:ByteArray)=Tess.w0 from rfl,<-HW.out];refine A8.out.mono ?_;rintro e w1 ⟨rfl,Bc,Az⟩;have Bd:=Hd Bc;have A7:=Hd (Az.from Be.out (qC _));have Bs:=Az.size;clear Bc Az)
 go_loopw [6,7,8] (fun s6 s7 s8 wr=>∃(m:Nat) (o:List ByteArray) (r' l:ByteArray) (c':Nat),s6 = .int .i64 m/\s7=dErr c'/\wr.ownsRow (w.heap.size+1) 9 1 s8 o.length (o.map .string)/\Rd w.heap.size r' l wr/\l.size<=100/\o.length+m<=1000/\r'.size<=s.size/\Tess.fin o m r' l c'=Tess.fin [] n r Tess.w0 c/\Below w.heap.size w wr) (fun s6 _ _ _=>(intOf s6).toNat)
 case atStart=>exact⟨n,[],r,Tess.w0,c,rfl,rfl,qg _ _ _ _,Bd.out,qN _,by simpa using Aj,Ai,rfl,A7.out⟩
 case round=>
  clear Bd A7 A8;obtain⟨m,o,r',l,c',rfl,rfl,At,hR,hl,Bx,Bv,Am,hB⟩:=hrel;have HO:=Hd At;have HR:=Hd hR;have HF:=Hd Am;have HB:=Hd hB;clear At hR Am hB;have A6:dErr 0 = .nilIface:=rfl;by_cases hc:c'=0
  ·subst hc;rw[A6];by_cases hm:m=0
   ·subst hm;have HE:=Hd ((Tess.fe o 0 r' l 0 (.inr rfl)).symm.trans HF.out);clear HF;have Ab:=Tess.do4 s n c r r' o HD.out HE.out.symm;have A5:=SlOf.owned HO.out;have Af:=ea2 _ o wr A5;unfold EP at Af;have Ar:=Tess.eWs o;obtain⟨⟨E,x⟩,hg⟩:∃g,g=Tess.encW o:=⟨_,rfl⟩
    rw[<-hg]at Af Ab Ar;simp only at Af Ab Ar;have Ak:=Hd Af;clear A5 Af hg HE;by_cases hx:x=0
    ·subst hx;have Bp:¬9223372036854775807<E.size+r'.size:=by omega
     by_cases heq:E++r'=s
     ·have Ac:=Hd (show Tess.decW s=(o,r',0) by rw[Ab,qR ⟨rfl,heq⟩]);have Bl:((E++r').toList==s.toList)=true:=by rw[heq];simp
      clear heq Ab;go_wp2_with (go_at_call 70;refine Ak.out.mono ?_;rintro e w2 ⟨rfl,Ad⟩;have q0:=(HR.out.below Ad).c0;have Ae:=Hd Ad;clear Ad);go_quiet (fail);go_wp2;go_ret3;rw[Ac.out];exact⟨_,rfl,ob2 (ob2 (ol2 HO.out (qN _)) Ae.out) (zi (qJ _ _) _),zi (Bt HB.out Ae.out) _⟩
     ·have Ac:=Hd (show Tess.decW s=([],s,50) by rw[Ab,qH (fun h=>heq h.2)])
      have Bl:((E++r').toList==s.toList)=false:=by rw[qi];intro h;exact heq (Tess.toList_inj h)
      clear heq Ab;go_wp2_with (go_at_call 70;refine Ak.out.mono ?_;rintro e w2 ⟨rfl,Ad⟩;have q0:=(HR.out.below Ad).c0;have Ae:=Hd Ad;clear Ad);go_ret3;rw[Ac.out];exact⟨_,rfl,qg _ _ _ _,Bt HB.out Ae.out⟩
    ·have Ac:=Hd (show Tess.decW s=([],s,50) by rw[Ab,qH (fun h=>hx h.1)]);have Bw:((x:Int)==0)=false:=by rw[qi];omega
     have Bn:¬(x:Int)=0:=by omega
     clear Ab;go_wp2_with (go_at_call 70;refine Ak.out.mono ?_;rintro e w2 ⟨rfl,Ad⟩;have q0:=(HR.out.below Ad).c0;have Ae:=Hd Ad;clear Ad);go_ret3;rw[Ac.out];exact⟨_,rfl,qg _ _ _ _,Bt HB.out Ae.out⟩
   ·obtain⟨j,rfl⟩:∃j,m=j+1:=⟨m-1,by omega⟩
    have Bo:(0:Int)<(j:Int)+1:=by omega
    have Bi:decide ((0:Int)<(j:Int)+1)=true:=decide_eq_true Bo;have Br:(j:Int)+1-1=(j:Int):=by omega
    have Bz:IntKind.i64.wrap (j:Int)=(j:Int):=by go_bits;first|trivial|omega
    have Aa:=wa5 a0 a1 w w.heap.size r' l wr HV.out (qC _) HB.out HR.out hl;have Au:=Tess.wWs r' l hl;have Bb:=Tess.wWr r' l;have Ap:=Tess.fw o j r' l;have Ao:=Tess.fb2 o j r' l;obtain⟨⟨r2,l2,x⟩,hg⟩:∃g,g=Tess.wW2 r' l:=⟨_,rfl⟩
    rw[<-hg]at Aa Au Bb Ap Ao;simp only at Aa Au Bb Ap Ao;by_cases hx:x=0
    ·subst hx;rw[A6]at Aa;have A1:=Hd ((Ap rfl).symm.trans HF.out);have A4:=Hd Aa;clear Aa Ap Ao hg HF
     go_wp2_with (first
      |(go_at_call 174;refine A4.out.mono ?_;rintro e w2 ⟨rfl,Al,Ag⟩;have e1:=Al.c1;have Ax:=Hd Al;have Bh:=Hd Ag;have By:=Ag.size;have Ay:=Al.lt;have Ae:=Hd (Ag.from HB.out (qC _));have As:=Hd (Ag.owns HO.out (zQ _));clear Al Ag)
      |(at_builtin;refine qq _ rfl _ _ 22 rfl (w.heap.size+1) 9 i0 (.string ByteArray.empty) 1 16 Tryz.underlying22 hi Bf Bm Bk rfl (by decide) _ _ _ rfl (As.out.alloc _) ⟨w2.heap.size,0,none⟩ 1 1 [.string l2] rfl rfl (zh _ _ _) (by simp[Value.oneCell']) (by unfold maxLen;omega) (by omega) (by simp;omega) ?_;intro v' w3 Aq Ah _))
     go_roundw
     case rel=>
      have Bq:w.heap.size<(w2.alloc (.cells #[.string l2] 9)).heap.size:=by simp;omega
      have A2:Rd w.heap.size r2 l2 w3:=(Ah.block _ Bq (fun e=>by have:=(As.out.lt _ e.symm).1;omega)).trans ((zu _ _ _ Ay).trans Ax.out);have Bj:Below w.heap.size w w3:=(Ae.out.alloc Ae.out.size _).grown Ah (by simp;omega) (fun k e=>by have:=(As.out.lt k e).1;omega);exact⟨j,o++[l2],r2,l2,0,by go_num,rfl,by simpa using Aq,A2,Au,by simp;omega,by omega,A1.out,Bj⟩
     case measure=>simp[intOf]
    ·have An:dErr x = .iface 274 (.agg #[.int .i64 x]):=qH hx;rw[An]at Aa;have A1:=Hd ((Ao hx).symm.trans HF.out);have A4:=Hd Aa;clear Aa Ap Ao hg HF;go_wp2_with (go_at_call 174;refine A4.out.mono ?_;rintro e w2 ⟨rfl,Al,Ag⟩;have Ax:=Hd Al;have Bh:=Hd Ag;have Ae:=Hd (Ag.from HB.out (qC _));have As:=Hd (Ag.owns HO.out (zQ _));clear Al Ag);go_roundw
     case rel=>exact⟨j,o,r2,l2,x,by go_num,by rw[An],As.out,Ax.out,Au,by omega,by omega,A1.out,Ae.out⟩
     case measure=>simp[intOf]
  ·have An:dErr c' = .iface 274 (.agg #[.int .i64 c']):=qH hc;have HE:=Hd ((Tess.fe o m r' l c' (.inl hc)).symm.trans HF.out);rw[An];clear HF;have Ac:=Hd (Tess.db2 s n c c' r r' o HD.out HE.out.symm hc);have A0:=HT.out wr HB.out c';rw[An]at A0;have Bg:=Hd A0;clear A0;go_wp2_with (go_at_call 175;refine Bg.out.mono ?_;rintro e w2 ⟨rfl,Ad⟩;have Ae:=Hd Ad;clear Ad);go_ret3;rw[Ac.out]
   exact⟨_,rfl,qg _ _ _ _,Bt HB.out Ae.out⟩
end Go.Proofs.Q9
namespace Tess
def rW(s last:ByteArray):ByteArray×ByteArray×Nat:=if(wW2 s last).2.2=0 then((wW2 s last).2.1,(wW2 s last).1,0)else(w0,s,(wW2 s last).2.2)
theorem wb7(s last gr:ByteArray)(gn gc:Nat)(h:getW s=(gn,gr,gc))(hc:gc≠0):rW s last=(w0,s,gc):=by
 have h1:numW s last.size=(0,s,gc):=by unfold numW;simp only[h,qH hc]
 have:=wWo s last 0 _ s _ gc _ h1 rfl;rw[qH hc]at this;unfold rW;rw[this];simp only[qH hc]
theorem wb3(s last gr:ByteArray)(gn:Nat)(h:getW s=(gn,gr,0))(hn:last.size<gn):rW s last=(w0,s,50):=by
 have h1:numW s last.size=(0,s,50):=by unfold numW;simp only[h,jH,qR hn]
 have:=wWo s last 0 _ s _ 50 _ h1 rfl;rw[qH (by decide)]at this;unfold rW;rw[this];rfl
theorem wb9(s last gr hr:ByteArray)(gn hk hc:Nat)(h:getW s=(gn,gr,0))(hn:¬last.size<gn)(h':getW gr=(hk,hr,hc))(hc':hc≠0):rW s last=(w0,s,hc):=by
 have h1:numW s last.size=(gn,gr,0):=by unfold numW;simp only[h,jH,qH hn]
 have h2:numW gr (100-gn)=(0,gr,hc):=by unfold numW;simp only[h',qH hc']
 have:=wWo s last gn 0 gr gr 0 hc h1 h2;rw[qR rfl,qH hc']at this;unfold rW;rw[this];simp only[qH hc']
theorem wb2(s last gr hr:ByteArray)(gn hk:Nat)(h:getW s=(gn,gr,0))(hn:¬last.size<gn)(h':getW gr=(hk,hr,0))(hk':100-gn<hk):rW s last=(w0,s,50):=by
 have h1:numW s last.size=(gn,gr,0):=by unfold numW;simp only[h,jH,qH hn]
 have h2:numW gr (100-gn)=(0,gr,50):=by unfold numW;simp only[h',jH,qR hk']
 have:=wWo s last gn 0 gr gr 0 50 h1 h2;rw[qR rfl,qH (by decide)]at this;unfold rW;rw[this];rfl
theorem wb6(s last gr hr:ByteArray)(gn hk:Nat)(h:getW s=(gn,gr,0))(hn:¬last.size<gn)(h':getW gr=(hk,hr,0))(hk':¬100-gn<hk)(hs:hr.size<hk):rW s last=(w0,s,21):=by
 have h1:numW s last.size=(gn,gr,0):=by unfold numW;simp only[h,jH,qH hn]
 have h2:numW gr (100-gn)=(hk,hr,0):=by unfold numW;simp only[h',jH,qH hk']
 have:=wWo s last gn hk gr hr 0 0 h1 h2;rw[qR rfl,qR rfl,qR hs]at this;unfold rW;rw[this];rfl
theorem wg2(s last gr hr:ByteArray)(gn hk:Nat)(h:getW s=(gn,gr,0))(hn:¬last.size<gn)(h':getW gr=(hk,hr,0))(hk':¬100-gn<hk)(hs:¬hr.size<hk):rW s last=(last.extract 0 gn++hr.extract 0 hk,hr.extract hk hr.size,0):=by
 have h1:numW s last.size=(gn,gr,0):=by unfold numW;simp only[h,jH,qH hn]
 have h2:numW gr (100-gn)=(hk,hr,0):=by unfold numW;simp only[h',jH,qH hk']
 have:=wWo s last gn hk gr hr 0 0 h1 h2;rw[qR rfl,qR rfl,qH hs]at this;unfold rW;rw[this];rfl
end Tess
namespace Go.Proofs.Q9
open Go.RowKit Go.Sort Go.Shelf
def RP4(s last:ByteArray)(w:World)(e:Ending)(w':World):Prop:=e = .returned (.tuple #[.string (Tess.rW s last).1,.string (Tess.rW s last).2.1,.int .i64 ((Tess.rW s last).2.2:Nat)])/\Below w.heap.size w w'
theorem ra61(s last:ByteArray)(w:World)(hs:s.size<=maxLen)(hl:last.size<=100):Calls Tryz.prog 197 #[.string s,.string last] w (RP4 s last w):=by
 have Ah:=ra5 s w hs;have Ai:=Tess.gWl s;have Ak:=Tess.gWs s;unfold GP2 at Ah;unfold RP4;obtain⟨⟨gn,gr,gc⟩,hg⟩:∃g,g=Tess.getW s:=⟨_,rfl⟩
 rw[<-hg]at Ah Ai Ak;simp only at Ah Ai Ak;have Ae:=Hd Ah;have A0:IntKind.u64.wrap (last.size:Int)=(last.size:Int):=by go_bits;first|trivial|omega
 clear Ah;by_cases hgc:gc=0
 ·subst hgc;by_cases hn:last.size<gn
  ·have HE:=Hd (Tess.wb3 s last gr gn hg.symm hn);have Ap:(last.size:Int)<(gn:Int):=by omega
   have Aq:decide ((last.size:Int)<(gn:Int))=true:=decide_eq_true Ap;clear hg;rw[HE.out];go_enter Tryz.func197,Tryz.ntmps197;go_wp2_with (go_at_call 195;refine Ae.out.mono ?_;rintro e w1 ⟨rfl,Aa⟩;have HB:=Hd Aa;clear Aa);go_ret3;exact⟨rfl,HB.out⟩
  ·have Ap:¬(last.size:Int)<(gn:Int):=by omega
   have Aq:decide ((last.size:Int)<(gn:Int))=false:=qG Ap;have Ag:=fun W=>ra5 gr W (by omega);have Aj:=Tess.gWl gr;have Af:=Tess.gWs gr;unfold GP2 at Ag;obtain⟨⟨hk,hr,hc⟩,hh⟩:∃g,g=Tess.getW gr:=⟨_,rfl⟩
   rw[<-hh]at Ag Aj Af;simp only at Ag Aj Af;have Al:=Hd Ag;clear Ag;by_cases hhc:hc=0
   ·subst hhc;by_cases hk1:100<hk
    ·have Ab:(100:Int)<(hk:Int):=by omega
     have An:decide ((100:Int)<(hk:Int))=true:=decide_eq_true Ab;have HE:=Hd (Tess.wb2 s last gr hr gn hk hg.symm hn hh.symm (by omega));clear hg hh;rw[HE.out];go_enter Tryz.func197,Tryz.ntmps197
     go_wp2_with (first
      |(go_at_call 195;with_reducible refine Ae.out.mono ?_;rintro e w1 ⟨rfl,Aa⟩;have HB:=Hd Aa;clear Aa)
      |(go_at_call 195;refine(Al.out _).mono ?_;rintro e w1 ⟨rfl,Aa⟩;have HB:=Hd (Bt HB.out Aa);clear Aa))
     go_ret3;exact⟨rfl,HB.out⟩
    ·have Ab:¬(100:Int)<(hk:Int):=by omega
     have An:decide ((100:Int)<(hk:Int))=false:=qG Ab;have Av:IntKind.u64.wrap ((gn:Int)+(hk:Int))=(gn:Int)+(hk:Int):=by rw[wum];exact Int.emod_eq_of_lt (by omega) (by omega)
     by_cases hk2:100-gn<hk
     ·have Ad:(100:Int)<(gn:Int)+(hk:Int):=by omega
      have Ao:decide ((100:Int)<(gn:Int)+(hk:Int))=true:=decide_eq_true Ad;have HE:=Hd (Tess.wb2 s last gr hr gn hk hg.symm hn hh.symm hk2);clear hg hh;rw[HE.out];go_enter Tryz.func197,Tryz.ntmps197
      go_wp2_with (first
       |(go_at_call 195;with_reducible refine Ae.out.mono ?_;rintro e w1 ⟨rfl,Aa⟩;have HB:=Hd Aa;clear Aa)
       |(go_at_call 195;refine(Al.out _).mono ?_;rintro e w1 ⟨rfl,Aa⟩;have HB:=Hd (Bt HB.out Aa);clear Aa))
      go_ret3;exact⟨rfl,HB.out⟩
     ·have Ad:¬(100:Int)<(gn:Int)+(hk:Int):=by omega
      have Ao:decide ((100:Int)<(gn:Int)+(hk:Int))=false:=qG Ad;have Ay:IntKind.u64.wrap (hr.size:Int)=(hr.size:Int):=by rw[wum];unfold maxLen at hs;exact Int.emod_eq_of_lt (by omega) (by omega)
      by_cases hk3:hr.size<hk
      ·have Ac:(hr.size:Int)<(hk:Int):=by omega
       have Am:decide ((hr.size:Int)<(hk:Int))=true:=decide_eq_true Ac;have HE:=Hd (Tess.wb6 s last gr hr gn hk hg.symm hn hh.symm hk2 hk3);clear hg hh;rw[HE.out];go_enter Tryz.func197,Tryz.ntmps197
       go_wp2_with (first
        |(go_at_call 195;with_reducible refine Ae.out.mono ?_;rintro e w1 ⟨rfl,Aa⟩;have HB:=Hd Aa;clear Aa)
        |(go_at_call 195;refine(Al.out _).mono ?_;rintro e w1 ⟨rfl,Aa⟩;have HB:=Hd (Bt HB.out Aa);clear Aa))
       go_ret3;exact⟨rfl,HB.out⟩
      ·have Ac:¬(hr.size:Int)<(hk:Int):=by omega
       have Am:decide ((hr.size:Int)<(hk:Int))=false:=qG Ac;have Aw:(hk:Int)<=(hr.size:Int):=by omega
       have Az:(gn:Int)<=(last.size:Int):=by omega
       have At:¬9223372036854775807<(last.extract 0 gn).size+(hr.extract 0 hk).size:=by simp;omega
       have HE:=Hd (Tess.wg2 s last gr hr gn hk hg.symm hn hh.symm hk2 hk3);clear hg hh;rw[HE.out];go_enter Tryz.func197,Tryz.ntmps197
       go_wp2_with (first
        |(go_at_call 195;with_reducible refine Ae.out.mono ?_;rintro e w1 ⟨rfl,Aa⟩;have HB:=Hd Aa;clear Aa)
        |(go_at_call 195;refine(Al.out _).mono ?_;rintro e w1 ⟨rfl,Aa⟩;have HB:=Hd (Bt HB.out Aa);clear Aa))
       go_quiet (fail);go_wp2;go_ret3;exact⟨rfl,zi HB.out _⟩
   ·have Ax:((hc:Int)==0)=false:=by rw[qi];omega
    have As:¬(hc:Int)=0:=by omega
    have HE:=Hd (Tess.wb9 s last gr hr gn hk hc hg.symm hn hh.symm hhc);clear hg hh;rw[HE.out];go_enter Tryz.func197,Tryz.ntmps197
    go_wp2_with (first
     |(go_at_call 195;with_reducible refine Ae.out.mono ?_;rintro e w1 ⟨rfl,Aa⟩;have HB:=Hd Aa;clear Aa)
     |(go_at_call 195;refine(Al.out _).mono ?_;rintro e w1 ⟨rfl,Aa⟩;have HB:=Hd (Bt HB.out Aa);clear Aa))
    go_ret3;exact⟨rfl,HB.out⟩
 ·have HE:=Hd (Tess.wb7 s last gr gn gc hg.symm hgc);have Au:((gc:Int)==0)=false:=by rw[qi];omega
  have Ar:¬(gc:Int)=0:=by omega
  clear hg;rw[HE.out];go_enter Tryz.func197,Tryz.ntmps197;go_wp2_with (go_at_call 195;refine Ae.out.mono ?_;rintro e w1 ⟨rfl,Aa⟩;have HB:=Hd Aa;clear Aa);go_ret3;exact⟨rfl,HB.out⟩
end Go.Proofs.Q9
namespace Tess
def Suf(r s:ByteArray):Prop:=∃k,k<=s.size/\r=s.extract k s.size
theorem Suf.refl(s:ByteArray):Suf s s:=⟨0,qN _,by simp⟩
theorem Suf.step{r s:ByteArray}(h:Suf r s)(j:Nat)(hj:j<=r.size):Suf (r.extract j r.size) s:=by
 obtain⟨k,hk,rfl⟩:=h;have hs:(s.extract k s.size).size=s.size-k:=by simp
 rw[hs]at hj⊢;refine⟨k+j,by omega,?_⟩;apply yF;apply yG.1;simp only[yq,xG,yW];have hl:s.data.toList.length=s.size:=by simp
 rw[qh (by simp),qh (by simp),qh (by simp),List.drop_drop]
theorem gWs2{r s:ByteArray}(h:Suf r s):Suf (getW r).2.1 s:=by
 unfold getW;split
 ·split
  ·rename_i h1 _;exact h.step _ (by omega)
  ·exact h
 ·exact h
theorem nWs2{r s:ByteArray}(h:Suf r s)(m:Nat):Suf (numW r m).2.1 s:=by
 unfold numW;split
 ·split
  ·exact h
  ·exact gWs2 h
 ·exact h
theorem wWs2{r s:ByteArray}(h:Suf r s)(l:ByteArray):Suf (wW2 r l).1 s:=by
 have h1:=nWs2 h l.size;have h2:=nWs2 h1 (100-(numW r l.size).1);unfold wW2;split
 ·split
  ·split
   ·exact h2
   ·exact h2.step _ (by omega)
  ·exact h2
 ·exact h1
theorem sc7{r s:ByteArray}(h:Suf r s)(E:ByteArray):E++r=s↔E=s.extract 0 (s.size-r.size):=by
 obtain⟨k,hk,rfl⟩:=h;have hl:s.data.toList.length=s.size:=by simp
 have e1:(s.extract k s.size).size=s.size-k:=by simp
 have e2:(s.extract k s.size).data.toList=s.data.toList.drop k:=by simp only[yq,xG,yW];rw[qh (by simp)]
 have e3:(s.extract 0 (s.size-(s.extract k s.size).size)).data.toList=s.data.toList.take k:=by rw[e1];simp only[yq,xG,yW,qV,Nat.sub_zero];congr 1;omega
 constructor
 ·intro h;apply yF;apply yG.1;rw[e3];have:=zM (fun b=>b.data.toList) h;simp only[qAk,xq]at this;rw[e2]at this;have h4:E.data.toList++s.data.toList.drop k=s.data.toList.take k++s.data.toList.drop k:=by rw[this,jm]
  exact List.append_cancel_right h4
 ·intro h;apply yF;apply yG.1;rw[qAk,xq,e2,h,e3,jm]
