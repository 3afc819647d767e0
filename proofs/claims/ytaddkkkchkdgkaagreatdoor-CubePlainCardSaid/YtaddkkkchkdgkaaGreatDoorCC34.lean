/- Joined by mergeK.py: K5p, K55p, K55 -/
import Derived.Test.YtaddkkkchkdgkaaGreatDoorCC11
import Derived.Test.YtaddkkkchkdgkaaGreatDoorCC33
import Derived.Test.YtaddkkkchkdgkaaGreatDoorCC19
namespace Tess
open Go Kl
theorem count_same (s:Sch) (q:Que) (set set':Nat) (C:List (CK×Pay)):((gP s q set C).map (·.2.n)).sum=((gP s q set' C).map (·.2.n)).sum:=by
 have h1:=ts2 (s:=s) (q:=q) (set:=set) (C:=C)
 have h2:=ts2 (s:=s) (q:=q) (set:=set') (C:=C)
 cases hs:sum Pay.add (fun _=>true) (gP s q set C) with
 | none=>
   rw [hs] at h1
   rw [← h1] at h2
   rw [san hs,san h2]
 | some p=>
   rw [hs] at h1
   rw [← h1] at h2
   rw [← tn3 hs,← tn3 h2]
def runP (s:Sch) (q:Que) (C:List (CK×Pay)):List (Nat×CK×Pay):=(Que.sO q).flatMap fun set=>(gP s q set C).map fun x=>(set,x)
theorem run_count (s:Sch) (q:Que) (set:Nat) (C:List (CK×Pay)):((runP s q C).map (·.2.2.n)).sum=((gP s q set C).map (·.2.n)).sum * (Que.sO q).length:=by
 unfold runP
 induction Que.sO q with
 | nil=>simp
 | cons x l ih=>
   rw [List.flatMap_cons,List.map_append,List.sum_append_int,ih,List.length_cons,List.map_map,count_same s q set x C]
   have:(List.map ((fun x=>x.2.2.n) ∘ fun y=>(x,y)) (gP s q x C))=(gP s q x C).map (·.2.n):=rfl
   rw [this,Int.natCast_add,Int.mul_add]
   simp only [Int.natCast_one,Int.mul_one]
   omega
end Tess
namespace Go.Proofs.YtaddkkkchkdgkaaGreatDoor
open Go.RowKit Go.Sort
open Tess (CK Pay PO CO2 CO Que Kl.put ckLt gP gOf)
def inF (s:Tess.Sch) (q:Que) (x:CK×Pay):Bool:=Tess.Fil.holds s x.1.1 (x.1.2.map Tess.valOf) q.fil
def gO3 (s:Tess.Sch) (q:Que) (set:Nat) (x:CK×Pay):Grp:=((set:Nat),(Tess.cutE q.every x.1.1,Tess.kF2 s set x.1.2 0 q.names),x.2)
def pG (s:Tess.Sch) (q:Que) (set:Nat) (C:List (CK×Pay)):List Grp:=((C.filter (inF s q)).map (gO3 s q set)).foldl putG []
def oS2 (set:Int) (l:List (CK×Pay)):List Grp:=l.map fun x=>(set,x)
theorem pGo (set:Int) (x:CK×Pay):∀ m:List (CK×Pay),putG (oS2 set m) (set,x)=oS2 set (Kl.put ckLt Pay.add m x)
 | []=>rfl
 | y :: m=>by
   have e:oneB (set,y) (set,x)=Tess.Kl.at' ckLt x.1 y.1:=by
    rw [Bool.eq_iff_iff,oBi,Tess.Kl.ai Tess.cs3]
    simp
   have ih:=pGo set x m
   unfold oS2 at *
   rw [List.map_cons,putG,Kl.put,e]
   split
   ·rfl
   ·rw [ih];rfl
theorem foS (set:Int):∀ l m:List (CK×Pay),(oS2 set l).foldl putG (oS2 set m)=oS2 set (l.foldl (Kl.put ckLt Pay.add) m)
 | [],_=>rfl
 | x :: l,m=>by
   rw [List.foldl_cons,← foS set l,← pGo]
   rfl
theorem re_gOf (s:Tess.Sch) (q:Que) (set:Nat) (C:List (CK×Pay)):oS2 (set:Nat) (Tess.Kl.re (gOf s q set) C)=(C.filter (inF s q)).map (gO3 s q set):=by
 induction C with
 | nil=>rfl
 | cons x C ih=>
   unfold oS2 Tess.Kl.re at *
   rw [List.filterMap_cons,List.filter_cons]
   unfold inF gOf at *
   by_cases h:Tess.Fil.holds s x.1.1 (x.1.2.map Tess.valOf) q.fil=true
   ·simp only [h,if_true,Option.map_some,List.map_cons]
    rw [ih];rfl
   ·simp only [Bool.not_eq_true] at h
    simp only [h,Bool.false_eq_true,if_false,Option.map_none]
    rw [ih]
theorem putsG_eq (s:Tess.Sch) (q:Que) (set:Nat) (C:List (CK×Pay)):pG s q set C=oS2 (set:Nat) ((Tess.Kl.re (gOf s q set) C).foldl (Kl.put ckLt Pay.add) []):=by
 unfold pG
 rw [← re_gOf,← foS]
 rfl
theorem ofSet_snd (set:Int) (l:List (CK×Pay)):(oS2 set l).map (·.2)=l:=by unfold oS2;rw [List.map_map];exact (List.map_congr_left fun _ _=>rfl).trans (List.map_id l)
theorem sorted_groups {s:Tess.Sch} {q:Que} {set:Nat} {C:List (CK×Pay)} {L':List Grp} (hp:L'.Perm (pG s q set C)) (ha:L'.Pairwise fun a b=>ckLt b.2.1 a.2.1=false):L'=oS2 (set:Nat) (gP s q set C):=by
 rw [putsG_eq] at hp
 have h1:=hp.map (·.2)
 rw [ofSet_snd] at h1
 have h2:=Tess.Kl.sorted_puts Tess.cs3 Tess.pc2 h1 (List.pairwise_map.2 ha)
 have h3:L'=oS2 (set:Nat) (L'.map (·.2)):=by
  unfold oS2
  rw [List.map_map]
  refine ((List.map_congr_left fun x hx => ?_).trans (List.map_id L')).symm
  have:=hp.mem_iff.1 hx
  unfold oS2 at this
  obtain ⟨y,_,rfl⟩:=List.mem_map.1 this
  rfl
 rw [h3,h2];rfl
theorem oSl (set:Int) (l:List (CK×Pay)):(oS2 set l).length=l.length:=List.length_map _
def fE (s:Tess.Sch) (q:Que) (set:Int):Nat:=if Que.check s q≠0 then Que.check s q else if set < 0∨((2 ^ q.names.length:Nat):Int)≤set then 152 else 0
def fR2 (s:Tess.Sch) (q:Que) (set:Int) (C:List (CK×Pay)):List Grp:=if fE s q set=0 then oS2 set (gP s q set.toNat C) else []
theorem grpOf_ok {s:Tess.Sch} {q:Que} {set:Nat} {x:CK×Pay} (hx:CO2 s x) (hn:q.names.length≤60) (hset:set < 2 ^ q.names.length):GO2 s.mets.length (gO3 s q set x) where
 set:=by
  have h1:(2:Nat) ^ q.names.length≤2 ^ 60:=Nat.pow_le_pow_right (by decide) hn
  have e:(2:Nat) ^ 60=1152921504606846976:=by decide
  show -9223372036854775808≤((set:Nat):Int)∧((set:Nat):Int)≤9223372036854775807
  omega
 time:=by
  have:=hx.time
  show -9223372036854775808≤Tess.cutE q.every x.1.1∧Tess.cutE q.every x.1.1≤9223372036854775807
  unfold Tess.cutE
  split
  ·have:=Int.emod_nonneg x.1.1 (show q.every≠0 by omega)
   have h2:=Int.emod_def x.1.1 q.every
   have h3:=Int.mul_nonneg (show 0≤q.every by omega) (Int.ediv_nonneg (a:=x.1.1) (b:=q.every) (by omega) (by omega))
   omega
  ·omega
 len:=by show (Tess.kF2 s set x.1.2 0 q.names).length≤1000;rw [kFl];omega
 size:=kFs s set 1000000 x.1.2 (fun v hv=>by
  have:=List.all_eq_true.1 hx.dims.2 v hv
  unfold Tess.vO at this
  simp only [Bool.or_eq_true,Bool.and_eq_true,decide_eq_true_eq] at this
  rcases this with ⟨_,h⟩ | ⟨_,h⟩
  ·rw [h];exact Nat.zero_le _
  ·omega) q.names 0
 pay:=hx.pay
theorem totG_map (s:Tess.Sch) (q:Que) (set:Nat) (l:List (CK×Pay)):totG (l.map (gO3 s q set))=(l.map (·.2.n)).sum:=by
 unfold totG
 rw [List.map_map]
 rfl
theorem tf2 (f:CK×Pay→Bool):∀ (l:List (CK×Pay)),(∀ x ∈ l,1≤x.2.n)→((l.filter f).map (·.2.n)).sum≤(l.map (·.2.n)).sum
 | [],_=>Int.le_refl _
 | x :: l,h=>by
   have ih:=tf2 f l fun y hy=>h y (by simp [hy])
   have:=h x (by simp)
   rw [List.filter_cons]
   split
   ·simp only [List.map_cons,List.sum_cons];omega
   ·simp only [List.map_cons,List.sum_cons];omega
end Go.Proofs.YtaddkkkchkdgkaaGreatDoor
namespace Go.Proofs.YtaddkkkchkdgkaaGreatDoor
open Go.RowKit Go.Sort Go.Shelf
open Tess (CK Pay PO CO2 CO Que Fil)
attribute [local go_sem] Oper.semAt_some
def PartsAt (p:Nat→Prop):World→Value→List (List (CK×Pay))→Prop:=LA 1 (fun w cs C => ∃ u,cs=[u]∧CA3 p w u C) p
theorem PartsAt.ag {p:Nat→Prop} {w w':World} {v:Value} {l:List (List (CK×Pay))} (h:PartsAt p w v l) (hg:Ag p w w'):PartsAt p w' v l:=LA.ag h hg fun _ _ _ ⟨u,e,h⟩=>⟨u,e,h.ag hg⟩
theorem PartsAt.weak {p q:Nat→Prop} {w:World} {v:Value} {l:List (List (CK×Pay))} (h:PartsAt p w v l) (hpq:∀ b,p b→q b):PartsAt q w v l:=LA.weak h hpq fun _ _ _ ⟨u,e,h⟩=>⟨u,e,h.weak hpq⟩
theorem filt_get {α:Type} (h:α→Bool) (pts:List (List α)) (k j:Nat) (hk:k < pts.length) (hj:j < pts[k].length) (ht:h pts[k][j]=true) :
  (pts.flatten.filter h)[((pts.take k).flatten.filter h).length + ((pts[k].take j).filter h).length]? = some pts[k][j]:=by
 have e1:pts[k]=pts[k].take j ++ pts[k][j] :: pts[k].drop (j + 1):=by rw [← List.drop_eq_getElem_cons hj,List.take_append_drop]
 have e2:pts=pts.take k ++ pts[k] :: pts.drop (k + 1):=by rw [← List.drop_eq_getElem_cons hk,List.take_append_drop]
 have e3:pts.flatten=(pts.take k).flatten ++ (pts[k] ++ (pts.drop (k + 1)).flatten):=by
  have:=congrArg List.flatten e2
  rwa [List.flatten_append,List.flatten_cons] at this
 rw [e3,List.filter_append,List.getElem?_append_right (by omega),Nat.add_sub_cancel_left,List.filter_append]
 have e4:pts[k].filter h=(pts[k].take j).filter h ++ pts[k][j] :: (pts[k].drop (j + 1)).filter h:=by
  have:=congrArg (List.filter h) e1
  rwa [List.filter_append,List.filter_cons_of_pos ht] at this
 rw [e4,List.append_assoc,List.getElem?_append_right (Nat.le_refl _),Nat.sub_self]
 rfl
theorem filt_get' {α:Type} (h:α→Bool) (pts:List (List α)) (k:Nat) (hk:k < pts.length) (C:List α) (hC:pts[k]=C) (j:Nat) (hj:j < C.length) (ht:h C[j]=true) :
  (pts.flatten.filter h)[((pts.take k).flatten.filter h).length + ((C.take j).filter h).length]? = some C[j]:=by
 subst hC
 exact filt_get h pts k j hk hj ht
theorem filt_step {α:Type} (h:α→Bool) (C:List α) (j:Nat) (hj:j < C.length):((C.take (j + 1)).filter h).length=((C.take j).filter h).length + if h C[j] then 1 else 0:=by
 rw [List.take_succ_eq_append_getElem hj,List.filter_append,List.length_append,List.filter_cons,List.filter_nil]
 split <;> rfl
theorem filt_part {α:Type} (h:α→Bool) (pts:List (List α)) (k:Nat) (hk:k < pts.length):((pts.take (k + 1)).flatten.filter h).length=((pts.take k).flatten.filter h).length + (pts[k].filter h).length:=by
 rw [List.take_succ_eq_append_getElem hk,List.flatten_append,List.filter_append,List.length_append]
 simp
theorem cells_any (q0 q1 q2 q3 q4 q5 q6 q7 q8 q9 qa qb qc qd s0 s1 s2 e f:Value) (w:World) :
  Calls Tryz.prog 66 #[.agg #[q0,q1,q2,q3,q4,q5,q6,q7,q8,q9,qa,qb,qc,qd,s0,s1,s2,e,f]] w fun ev w'=>ev = .returned (.func (.func 102) #[] #[.pointer (some ⟨w.heap.size,0,none⟩)])∧w'=w.alloc (.cells #[q0,q1,q2,q3,q4,q5,q6,q7,q8,q9,qa,qb,qc,qd,s0,s1,s2,e,f] 92):=by
 go_enter Tryz.func66,Tryz.ntmps66
 go_wp2
 go_ret
 exact ⟨rfl,rfl⟩
def IterC (a0 a1:Addr) (gf:FuncId) (lb:Array Value) (xs:List (CK×Pay)) (p q:Nat→Prop) (W0:World):Prop:=
 ∀ (l:Nat) (fn0:FuncId) (T:Array Value→Array Value) (A B:Code) (Inv:Nat→World→Prop),
   (∀ k W W',Inv k W→Below W.heap.size W W'→Inv k W')→(∀ k W,Inv k W→Vars a0 a1 W∧Ag q W0 W) →
   (∀ k W,Inv k W→∀ z:Array Value,z.size=1→(Instr.yield l z).run Tryz.prog W = .ok (.round l fn0 (T z) A B) W) →
   (∀ k W cs (hk:k < xs.length),Inv k W→CA2 p W cs xs[k]→RoundIn Fence.wide 5 Tryz.prog l fn0 (T #[.agg cs.toArray]) A B W (fun e W'=>e = .returned (.bool true)∧Inv (k + 1) W')) →
   ∀ W,Inv 0 W→Calls Tryz.prog gf (#[.func (.yield l) #[] #[]] ++ lb) W fun e W'=>(∃ v,e = .returned v)∧Inv xs.length W'
set_option maxRecDepth 100000 in
set_option maxHeartbeats 8000000 in
theorem cells_iter (a0 a1:Addr) (p q:Nat→Prop) (hpq:∀ b,p b→q b) (n:Nat) (hn:n≤100) (s:Tess.Sch) (Q:Que) (pts:List (List (CK×Pay))) (B:Nat) (q0 q1 q2 q3 q4 f0 f1 f2 f3 f4 f5 qb qc qd s0 s1 e vp:Value) (W0:World)
  (h0:W0.heap[B]? = some (.cells #[q0,q1,q2,q3,q4,f0,f1,f2,f3,f4,f5,qb,qc,qd,s0,s1,.int .i64 s.grain,e,vp] 92 (0,0))) (hB:q B) (hs:SA p W0 (.agg #[s0,s1,.int .i64 s.grain]) s) (hf:FA2 p n W0 (.agg #[f0,f1,f2,f3,f4,f5]) Q.fil) (hK:kO2 Q.fil) (hp:PartsAt p W0 vp pts)
  (hck:Fil.cE2 s Q.fil=0) (hdl:∀ C ∈ pts,∀ x ∈ C,x.1.2.length=s.dims.length) :
  IterC a0 a1 102 #[.pointer (some ⟨B,0,none⟩)] (pts.flatten.filter (inF s Q)) p q W0:=by
 intro l Bq T A BB Af Bb A9 hy hr W hI
 have HI:=Hd hI
 have Av:=Hd Bb
 have Ad:=Hd A9
 have HY:=Hd hy
 have HR:=Hd hr
 have Bo:=Hd hdl
 obtain ⟨M,hM⟩:∃ M,(pts.flatten.filter (inF s Q)).length=M:=⟨_,rfl⟩
 rw [hM]
 have Bn:=Hd hM
 clear hM
 have Ak:=(Array.getElem?_eq_some_iff.1 h0).1
 have A3:=Hd (fun k X (h:Af k X)=>((Ad.out k X h).2.2 B Ak hB).trans h0)
 have HH:=Hd (fun k X (h:Af k X) vd (t:Int) (d:List Tess.DV) (hd:d.length=s.dims.length) (hv:VA p X vd (d.map Tess.valOf))=>by
  have ag:Ag p W0 X:=(Ad.out k X h).2.weak hpq
  have:=fHolds_any a0 a1 p n (.agg #[s0,s1,.int .i64 s.grain]) (.agg #[f0,f1,f2,f3,f4,f5]) vd s Q.fil t (d.map Tess.valOf) X (Ad.out k X h).1 (hs.ag ag) (hf.ag ag) hv hn hK
  rw [show Fil.hE3 s t (d.map Tess.valOf) Q.fil=(Fil.holds s t (d.map Tess.valOf) Q.fil,0) by unfold Fil.hE3;rw [hck];simp [hd]] at this
  exact this)
 obtain ⟨a,Br,rfl,_,hl,_,hc⟩:=LA.open hp
 have hl:pts.length≤9223372036854775807:=by unfold maxLen at hl;omega
 have HC:=Hd hc
 have Az:∃ u1 u2 u3 u4,s0 = .slice u1 s.dims.length u2∧s1 = .slice u3 s.mets.length u4:=by
  obtain ⟨vd,vm,e,h1,h2,_⟩:=hs
  obtain ⟨_,_,rfl,_⟩:=sl3 h1
  obtain ⟨_,_,rfl,_⟩:=sl3 h2
  simp only [Value.agg.injEq,Array.mk.injEq,List.cons.injEq,and_true] at e
  exact ⟨_,_,_,_,e.1,e.2⟩
 obtain ⟨u1,u2,u3,u4,rfl,rfl⟩:=Az
 obtain ⟨z0,z1,z2,z3,z4,ez⟩:=FA2.sh2 hf
 simp only [Value.agg.injEq,Array.mk.injEq,List.cons.injEq,and_true] at ez
 obtain ⟨rfl,rfl,rfl,rfl,rfl,rfl⟩:=ez
 clear hI Bb A9 hy hr h0 hs hf hp hc hdl hck Ak
 refine (callsIn_wide (n:=5)).1 ?_
 refine callsIn_of_wp Tryz.func102 rfl trivial ?_ rfl
 simp only [Tryz.ntmps102,List.size_toArray,List.length_cons,List.length_nil,Nat.reduceAdd,Nat.reduceSub,Array.replicate_succ,Array.replicate_zero,List.push_toArray,List.append_toArray,List.nil_append,List.cons_append]
 have yi:=(ca3 (A3.out 0 W HI.out)).2.2.2
 gi_wp2
 clear yi
 gi_loopw [12] (fun i wr => ∃ k:Nat,k≤pts.length∧i = .int .i64 k∧Af (((pts.take k).flatten.filter (inF s Q)).length) wr) (fun i _=>pts.length - (intOf i).toNat)
 case atStart=>exact ⟨0,Nat.zero_le _,rfl,HI.out⟩
 case round=>
  obtain ⟨k,hk,rfl,hI⟩:=hrel
  have HJ:=Hd hI
  clear hI
  by_cases hlt:k < pts.length
  ·have Bj:(k:Int) < (pts.length:Int):=by omega
   obtain ⟨b,Bi,rfl,hb,Ba,cs,_,⟨u,rfl,Ae⟩,Aa⟩:=HC.out k hlt
   have A4:=fun X (h:Af (((pts.take k).flatten.filter (inF s Q)).length) X)=>((Ad.out _ X h).2.cell (b:=b) (o:=Bi + k * 1 + 0) hb (hpq _ Ba)).trans (Aa 0 (by omega))
   have A2:=A4 wr HJ.out
   simp only [Nat.mul_one,Nat.add_zero,List.getElem?_cons_zero] at A2
   have Ao:=filt_part (inF s Q) pts k hlt
   obtain ⟨C,hC⟩:∃ C,pts[k]=C:=⟨_,rfl⟩
   rw [hC] at Ae Ao
   obtain ⟨ac,cc,rfl,_,A8,_,A7⟩:=LA.open Ae
   have A8:C.length≤9223372036854775807:=by unfold maxLen at A8;omega
   have Ar:=fun j (hj:j < C.length)=>filt_get' (inF s Q) pts k hlt C hC j hj
   have At:=Hd (Bo.out C (hC ▸ List.getElem_mem hlt))
   have Bk:=Hd A7
   clear A4 A7 Ae Aa hb Ba hC
   obtain ⟨m0,Ax⟩:∃ m0,((pts.take k).flatten.filter (inF s Q)).length=m0:=⟨_,rfl⟩
   rw [Ax] at Ao HJ
   simp only [Ax] at Ar
   have Ar:=Hd Ar
   have Ao:=Hd Ao
   clear Ax
   obtain ⟨wa,Bf⟩:∃ wa,wa=wr:=⟨_,rfl⟩
   subst Bf
   gi_wp2
   clear A2
   gi_loopw [18] (fun i wr => ∃ j:Nat,j≤C.length∧i = .int .i64 j∧Af (m0 + ((C.take j).filter (inF s Q)).length) wr) (fun i _=>C.length - (intOf i).toNat)
   case atStart=>exact ⟨0,Nat.zero_le _,rfl,HJ.out⟩
   case round=>
    obtain ⟨j,hj,rfl,hI⟩:=hrel
    have Am:=Hd hI
    clear hI
    by_cases hlj:j < C.length
    ·have Bg:(j:Int) < (C.length:Int):=by omega
     have A1:RowKit.Hid (IntKind.i64.wrap ((j:Int) + 1)=((j + 1:Nat):Int)):=Hd (by simp [IntKind.wrap,IntKind.bits,IntKind.signed];omega)
     obtain ⟨b2,Ap,rfl,A5,Ai,cs,_,hR,Aa⟩:=Bk.out j hlj
     have hx:=At.out _ (List.getElem_mem hlj)
     have HG:=Hd (Ar.out j hlj)
     have Aq:=Hd (filt_step (inF s Q) C j hlj)
     have hck:∀ i,i < 6→wr.cell? ⟨b2,Ap + j * 6 + i,none⟩=cs[i]? := fun i hi=>((Ad.out _ wr Am.out).2.cell (b:=b2) (o:=Ap + j * 6 + i) A5 (hpq _ Ai)).trans (Aa i hi)
     have An:=Hd (fun X k (h:Af k X)=>CA2.ag hR ((Ad.out k X h).2.weak hpq))
     obtain ⟨ad,cd,a3,c3,a4,c4,a5,c5,rfl,_⟩:=hR.shapes
     have e0:=hck 0 (by omega)
     have e1:=hck 1 (by omega)
     have e2:=hck 2 (by omega)
     have e3:=hck 3 (by omega)
     have e4:=hck 4 (by omega)
     have e5:=hck 5 (by omega)
     simp only [Nat.add_zero,List.getElem?_cons_zero,List.getElem?_cons_succ] at e0 e1 e2 e3 e4 e5
     clear hR hck Aa Ai
     generalize C[j]=x at *
     obtain ⟨m,hm⟩:∃ m,m0 + ((C.take j).filter (inF s Q)).length=m:=⟨_,rfl⟩
     have HM:=Hd hm
     simp only [hm] at HG Am
     obtain ⟨X1,Ay⟩:∃ X1,wr.alloc (.cells #[.int .i64 x.1.1,.slice ad x.1.2.length cd,.int .i64 x.2.n,.slice a3 x.2.sums.length c3,.slice a4 x.2.mins.length c4,.slice a5 x.2.maxs.length c5] 83)=X1:=⟨_,rfl⟩
     obtain ⟨k1,kS,kB⟩:=la2 wr (.cells #[.int .i64 x.1.1,.slice ad x.1.2.length cd,.int .i64 x.2.n,.slice a3 x.2.sums.length c3,.slice a4 x.2.mins.length c4,.slice a5 x.2.maxs.length c5] 83)
     rw [Ay] at k1 kS kB
     have Aj:=Av.out _ _ _ Am.out kB
     have Bs:b2 < wr.heap.size:=Nat.lt_of_lt_of_le A5 (Ad.out _ wr Am.out).2.1
     obtain ⟨⟨y0,y1,y2,y3,y4,y5,y6,y7,y8,y9,ya,yb,yc,yd⟩,⟨ye,yf,yg⟩,yh,yi⟩:=ca3 (A3.out _ X1 Aj)
     obtain ⟨⟨x0,x1,x2,x3,x4,x5⟩,_⟩:=can6 k1
     have Ab:VA p X1 (.slice ad x.1.2.length cd) (x.1.2.map Tess.valOf):=by
      obtain ⟨vd,vs,vm,vx,e,h1,_⟩:=An.out X1 m Aj
      simp only [List.cons.injEq] at e
      rw [e.2.1];exact h1
     have As:=Hd (HH.out m X1 Aj _ x.1.1 x.1.2 hx Ab)
     have A6:=Hd Aj
     have Be:=Hd k1
     have Bh:=Hd kS
     have Al:RowKit.Hid (inF s Q x=Fil.holds s x.1.1 (x.1.2.map Tess.valOf) Q.fil):=Hd rfl
     clear Aj Ab k1 kS kB hm hx
     cases hh:Fil.holds s x.1.1 (x.1.2.map Tess.valOf) Q.fil
     ·rw [hh] at As Al
      rw [Al.out] at Aq
      clear hh
      gi_wp2_with (fail)
      (refine ⟨trivial,?_⟩;gi_at_call 103;refine (callsIn_wide.2 As.out).mono ?_;rintro e w2 ⟨rfl,Ah⟩;have Au:=Hd (Av.out _ _ _ A6.out Ah);clear Ah)
      gi_wp2_with (refine ⟨(fun _ h=>by cases h),?_⟩)
      clear e0 e1 e2 e3 e4 e5 x0 x1 x2 x3 x4 x5 y0 y1 y2 y3 y4 y5 y6 y7 y8 y9 ya yb yc yd ye yf yg yh yi Ay
      go_roundw
      case rel=>exact ⟨j + 1,by omega,by rw [A1.out],by rw [Aq.out,← Nat.add_assoc,HM.out];exact Au.out⟩
      case measure=>rw [A1.out];simp [intOf];omega
     ·rw [hh] at As Al
      rw [Al.out] at Aq
      obtain ⟨Bp,Bd⟩:=List.getElem?_eq_some_iff.1 (HG.out Al.out)
      have Bm:=Hd (fun X (h:Af m X)=>HR.out m X [.int .i64 x.1.1,.slice ad x.1.2.length cd,.int .i64 x.2.n,.slice a3 x.2.sums.length c3,.slice a4 x.2.mins.length c4,.slice a5 x.2.maxs.length c5] Bp h (by rw [Bd];exact An.out X m h))
      clear hh
      gi_wp2_with (fail)
      refine ⟨trivial,?_⟩
      gi_at_call 103
      refine (callsIn_wide.2 As.out).mono ?_
      rintro e w2 ⟨rfl,Ah⟩
      have Aw:=Av.out _ _ _ A6.out Ah
      have Au:=Hd Aw
      have Bc:=HY.out m w2 Aw #[.agg #[.int .i64 x.1.1,.slice ad x.1.2.length cd,.int .i64 x.2.n,.slice a3 x.2.sums.length c3,.slice a4 x.2.mins.length c4,.slice a5 x.2.maxs.length c5]] rfl
      obtain ⟨⟨v0,v1,v2,v3,v4,v5⟩,_⟩:=can6 ((Ah.block _ (by rw [Bh.out];omega)).trans Be.out)
      clear Ah Aw
      gi_wp2
      refine rIa ((Bm.out w2 Au.out).mono ?_)
      clear Bc v0 v1 v2 v3 v4 v5 e0 e1 e2 e3 e4 e5 x0 x1 x2 x3 x4 x5 y0 y1 y2 y3 y4 y5 y6 y7 y8 y9 ya yb yc yd ye yf yg yh yi Ay
      rintro e w3 ⟨rfl,hinv⟩
      have HV:=Hd hinv
      clear hinv
      gi_wp2
      go_roundw
      case rel=>exact ⟨j + 1,by omega,by go_num,by rw [Aq.out,← Nat.add_assoc,HM.out];exact HV.out⟩
      case measure=>simp [intOf];omega
    ·have Bg:¬ (j:Int) < (C.length:Int):=by omega
     obtain rfl:j=C.length:=by omega
     have Ac:=Am.out
     rw [List.take_length,← Ao.out] at Ac
     have A0:=Hd Ac
     clear Ac
     gi_wp2
     go_roundw
     case rel=>exact ⟨k + 1,by omega,by go_num,A0.out⟩
     case measure=>simp [intOf];omega
  ·have Bj:¬ (k:Int) < (pts.length:Int):=by omega
   have Bl:k=pts.length:=by omega
   subst Bl
   have Ac:=HJ.out
   rw [List.take_length,Bn.out] at Ac
   have A0:=Hd Ac
   clear Ac
   gi_wp2
   go_end0
   exact ⟨⟨_,rfl⟩,A0.out⟩
end Go.Proofs.YtaddkkkchkdgkaaGreatDoor
