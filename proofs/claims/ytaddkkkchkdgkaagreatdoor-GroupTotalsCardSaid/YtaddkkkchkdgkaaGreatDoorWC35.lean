/- Joined by mergeK.py: K5p, K55p, K55 -/
import Derived.Test.YtaddkkkchkdgkaaGreatDoorWC12
import Derived.Test.YtaddkkkchkdgkaaGreatDoorWC34
import Derived.Test.YtaddkkkchkdgkaaGreatDoorWC20
namespace Go.Proofs.YtaddkkkchkdgkaaGreatDoor
open Go.RowKit Go.Sort
open Tess (CK Pay PayOk CelOk CelsOk Que Kl.put ckLt groupsP gOf)
def inF (s:Tess.Sch) (q:Que) (x:CK×Pay):Bool:=Tess.Fil.holds s x.1.1 (x.1.2.map Tess.valOf) q.fil
def grpOf (s:Tess.Sch) (q:Que) (set:Nat) (x:CK×Pay):Grp:=((set:Nat),(Tess.cutE q.every x.1.1,Tess.keyFrom s set x.1.2 0 q.names),x.2)
def putsG (s:Tess.Sch) (q:Que) (set:Nat) (C:List (CK×Pay)):List Grp:=((C.filter (inF s q)).map (grpOf s q set)).foldl putG []
def ofSet (set:Int) (l:List (CK×Pay)):List Grp:=l.map fun x=>(set,x)
theorem putG_ofSet (set:Int) (x:CK×Pay):∀ m:List (CK×Pay),putG (ofSet set m) (set,x)=ofSet set (Kl.put ckLt Pay.add m x)
 | []=>rfl
 | y :: m=>by
   have e:oneB (set,y) (set,x)=Tess.Kl.at' ckLt x.1 y.1:=by
    rw [Bool.eq_iff_iff,oneB_iff,Tess.Kl.at_iff Tess.ck_sto]
    simp
   have ih:=putG_ofSet set x m
   unfold ofSet at *
   rw [List.map_cons,putG,Kl.put,e]
   split
   ·rfl
   ·rw [ih];rfl
theorem foldl_ofSet (set:Int):∀ l m:List (CK×Pay),(ofSet set l).foldl putG (ofSet set m)=ofSet set (l.foldl (Kl.put ckLt Pay.add) m)
 | [],_=>rfl
 | x :: l,m=>by
   rw [List.foldl_cons,← foldl_ofSet set l,← putG_ofSet]
   rfl
theorem re_gOf (s:Tess.Sch) (q:Que) (set:Nat) (C:List (CK×Pay)):ofSet (set:Nat) (Tess.Kl.re (gOf s q set) C)=(C.filter (inF s q)).map (grpOf s q set):=by
 induction C with
 | nil=>rfl
 | cons x C ih=>
   unfold ofSet Tess.Kl.re at *
   rw [List.filterMap_cons,List.filter_cons]
   unfold inF gOf at *
   by_cases h:Tess.Fil.holds s x.1.1 (x.1.2.map Tess.valOf) q.fil=true
   ·simp only [h,if_true,Option.map_some,List.map_cons]
    rw [ih];rfl
   ·simp only [Bool.not_eq_true] at h
    simp only [h,Bool.false_eq_true,if_false,Option.map_none]
    rw [ih]
theorem putsG_eq (s:Tess.Sch) (q:Que) (set:Nat) (C:List (CK×Pay)):putsG s q set C=ofSet (set:Nat) ((Tess.Kl.re (gOf s q set) C).foldl (Kl.put ckLt Pay.add) []):=by
 unfold putsG
 rw [← re_gOf,← foldl_ofSet]
 rfl
theorem ofSet_snd (set:Int) (l:List (CK×Pay)):(ofSet set l).map (·.2)=l:=by unfold ofSet;rw [List.map_map];exact (List.map_congr_left fun _ _=>rfl).trans (List.map_id l)
theorem sorted_groups {s:Tess.Sch} {q:Que} {set:Nat} {C:List (CK×Pay)} {L':List Grp} (hp:L'.Perm (putsG s q set C)) (ha:L'.Pairwise fun a b=>ckLt b.2.1 a.2.1=false):L'=ofSet (set:Nat) (groupsP s q set C):=by
 rw [putsG_eq] at hp
 have h1:=hp.map (·.2)
 rw [ofSet_snd] at h1
 have h2:=Tess.Kl.sorted_puts Tess.ck_sto Tess.pay_com h1 (List.pairwise_map.2 ha)
 have h3:L'=ofSet (set:Nat) (L'.map (·.2)):=by
  unfold ofSet
  rw [List.map_map]
  refine ((List.map_congr_left fun x hx => ?_).trans (List.map_id L')).symm
  have:=hp.mem_iff.1 hx
  unfold ofSet at this
  obtain ⟨y,_,rfl⟩:=List.mem_map.1 this
  rfl
 rw [h3,h2];rfl
def foldE (s:Tess.Sch) (q:Que) (set:Int):Nat:=if Que.check s q≠0 then Que.check s q else if set < 0∨((2 ^ q.names.length:Nat):Int)≤set then 152 else 0
def foldR (s:Tess.Sch) (q:Que) (set:Int) (C:List (CK×Pay)):List Grp:=if foldE s q set=0 then ofSet set (groupsP s q set.toNat C) else []
theorem grpOf_ok {s:Tess.Sch} {q:Que} {set:Nat} {x:CK×Pay} (hx:CelOk s x) (hn:q.names.length≤60) (hset:set < 2 ^ q.names.length):GrpOk s.mets.length (grpOf s q set x) where
 set:=by
  have h1:(2:Nat) ^ q.names.length≤2 ^ 60:=Nat.pow_le_pow_right (by decide) hn
  have e:(2:Nat) ^ 60=1152921504606846976:=by decide
  show -9223372036854775808≤((set:Nat):Int)∧((set:Nat):Int)≤9223372036854775807
  omega
 time:=by
  have:=hx.time
  show -9223372036854775808≤Tess.cutE q.every x.1.1∧Tess.cutE q.every x.1.1≤9223372036854775807
  unfold Tess.cutE
  split
  ·have:=Int.emod_nonneg x.1.1 (show q.every≠0 by omega)
   have h2:=Int.emod_def x.1.1 q.every
   have h3:=Int.mul_nonneg (show 0≤q.every by omega) (Int.ediv_nonneg (a:=x.1.1) (b:=q.every) (by omega) (by omega))
   omega
  ·omega
 len:=by show (Tess.keyFrom s set x.1.2 0 q.names).length≤1000;rw [keyFrom_len];omega
 size:=keyFrom_size s set 1000000 x.1.2 (fun v hv=>by
  have:=List.all_eq_true.1 hx.dims.2 v hv
  unfold Tess.valOk at this
  simp only [Bool.or_eq_true,Bool.and_eq_true,decide_eq_true_eq] at this
  rcases this with ⟨_,h⟩ | ⟨_,h⟩
  ·rw [h];exact Nat.zero_le _
  ·omega) q.names 0
 pay:=hx.pay
theorem totG_map (s:Tess.Sch) (q:Que) (set:Nat) (l:List (CK×Pay)):totG (l.map (grpOf s q set))=(l.map (·.2.n)).sum:=by
 unfold totG
 rw [List.map_map]
 rfl
theorem tot_filter (f:CK×Pay→Bool):∀ (l:List (CK×Pay)),(∀ x ∈ l,1≤x.2.n)→((l.filter f).map (·.2.n)).sum≤(l.map (·.2.n)).sum
 | [],_=>Int.le_refl _
 | x :: l,h=>by
   have ih:=tot_filter f l fun y hy=>h y (by simp [hy])
   have:=h x (by simp)
   rw [List.filter_cons]
   split
   ·simp only [List.map_cons,List.sum_cons];omega
   ·simp only [List.map_cons,List.sum_cons];omega
end Go.Proofs.YtaddkkkchkdgkaaGreatDoor
namespace Go.Proofs.YtaddkkkchkdgkaaGreatDoor
open Go.RowKit Go.Sort Go.Shelf
open Tess (CK Pay PayOk CelOk CelsOk Que Fil)
attribute [local go_sem] Oper.semAt_some
def PartsAt (p:Nat→Prop):World→Value→List (List (CK×Pay))→Prop:=ListAt 1 (fun w cs C => ∃ u,cs=[u]∧CelsAt p w u C) p
theorem PartsAt.ag {p:Nat→Prop} {w w':World} {v:Value} {l:List (List (CK×Pay))} (h:PartsAt p w v l) (hg:Ag p w w'):PartsAt p w' v l:=ListAt.ag h hg fun _ _ _ ⟨u,e,h⟩=>⟨u,e,h.ag hg⟩
theorem PartsAt.weak {p q:Nat→Prop} {w:World} {v:Value} {l:List (List (CK×Pay))} (h:PartsAt p w v l) (hpq:∀ b,p b→q b):PartsAt q w v l:=ListAt.weak h hpq fun _ _ _ ⟨u,e,h⟩=>⟨u,e,h.weak hpq⟩
theorem filt_get {α:Type} (h:α→Bool) (pts:List (List α)) (k j:Nat) (hk:k < pts.length) (hj:j < pts[k].length) (ht:h pts[k][j]=true) :
  (pts.flatten.filter h)[((pts.take k).flatten.filter h).length + ((pts[k].take j).filter h).length]? = some pts[k][j]:=by
 have e1:pts[k]=pts[k].take j ++ pts[k][j] :: pts[k].drop (j + 1):=by rw [← List.drop_eq_getElem_cons hj,List.take_append_drop]
 have e2:pts=pts.take k ++ pts[k] :: pts.drop (k + 1):=by rw [← List.drop_eq_getElem_cons hk,List.take_append_drop]
 have e3:pts.flatten=(pts.take k).flatten ++ (pts[k] ++ (pts.drop (k + 1)).flatten):=by
  have:=congrArg List.flatten e2
  rwa [List.flatten_append,List.flatten_cons] at this
 rw [e3,List.filter_append,List.getElem?_append_right (by omega),Nat.add_sub_cancel_left,List.filter_append]
 have e4:pts[k].filter h=(pts[k].take j).filter h ++ pts[k][j] :: (pts[k].drop (j + 1)).filter h:=by
  have:=congrArg (List.filter h) e1
  rwa [List.filter_append,List.filter_cons_of_pos ht] at this
 rw [e4,List.append_assoc,List.getElem?_append_right (Nat.le_refl _),Nat.sub_self]
 rfl
theorem filt_get' {α:Type} (h:α→Bool) (pts:List (List α)) (k:Nat) (hk:k < pts.length) (C:List α) (hC:pts[k]=C) (j:Nat) (hj:j < C.length) (ht:h C[j]=true) :
  (pts.flatten.filter h)[((pts.take k).flatten.filter h).length + ((C.take j).filter h).length]? = some C[j]:=by
 subst hC
 exact filt_get h pts k j hk hj ht
theorem filt_step {α:Type} (h:α→Bool) (C:List α) (j:Nat) (hj:j < C.length):((C.take (j + 1)).filter h).length=((C.take j).filter h).length + if h C[j] then 1 else 0:=by
 rw [List.take_succ_eq_append_getElem hj,List.filter_append,List.length_append,List.filter_cons,List.filter_nil]
 split <;> rfl
theorem filt_part {α:Type} (h:α→Bool) (pts:List (List α)) (k:Nat) (hk:k < pts.length):((pts.take (k + 1)).flatten.filter h).length=((pts.take k).flatten.filter h).length + (pts[k].filter h).length:=by
 rw [List.take_succ_eq_append_getElem hk,List.flatten_append,List.filter_append,List.length_append]
 simp
theorem cells_any (q0 q1 q2 q3 q4 q5 q6 q7 q8 q9 qa qb qc qd s0 s1 s2 e f:Value) (w:World) :
  Calls Tryz.prog 66 #[.agg #[q0,q1,q2,q3,q4,q5,q6,q7,q8,q9,qa,qb,qc,qd,s0,s1,s2,e,f]] w fun ev w'=>ev = .returned (.func (.func 102) #[] #[.pointer (some ⟨w.heap.size,0,none⟩)])∧w'=w.alloc (.cells #[q0,q1,q2,q3,q4,q5,q6,q7,q8,q9,qa,qb,qc,qd,s0,s1,s2,e,f] 92):=by
 go_enter Tryz.func66,Tryz.ntmps66
 go_wp2
 go_ret
 exact ⟨rfl,rfl⟩
def IterC (a0 a1:Addr) (gf:FuncId) (lb:Array Value) (xs:List (CK×Pay)) (p q:Nat→Prop) (W0:World):Prop:=
 ∀ (l:Nat) (fn0:FuncId) (T:Array Value→Array Value) (A B:Code) (Inv:Nat→World→Prop),
   (∀ k W W',Inv k W→Below W.heap.size W W'→Inv k W')→(∀ k W,Inv k W→Vars a0 a1 W∧Ag q W0 W) →
   (∀ k W,Inv k W→∀ z:Array Value,z.size=1→(Instr.yield l z).run Tryz.prog W = .ok (.round l fn0 (T z) A B) W) →
   (∀ k W cs (hk:k < xs.length),Inv k W→CelAt p W cs xs[k]→RoundIn Fence.wide 5 Tryz.prog l fn0 (T #[.agg cs.toArray]) A B W (fun e W'=>e = .returned (.bool true)∧Inv (k + 1) W')) →
   ∀ W,Inv 0 W→Calls Tryz.prog gf (#[.func (.yield l) #[] #[]] ++ lb) W fun e W'=>(∃ v,e = .returned v)∧Inv xs.length W'
set_option maxRecDepth 100000 in
set_option maxHeartbeats 8000000 in
theorem cells_iter (a0 a1:Addr) (p q:Nat→Prop) (hpq:∀ b,p b→q b) (n:Nat) (hn:n≤100) (s:Tess.Sch) (Q:Que) (pts:List (List (CK×Pay))) (B:Nat) (q0 q1 q2 q3 q4 f0 f1 f2 f3 f4 f5 qb qc qd s0 s1 e vp:Value) (W0:World)
  (h0:W0.heap[B]? = some (.cells #[q0,q1,q2,q3,q4,f0,f1,f2,f3,f4,f5,qb,qc,qd,s0,s1,.int .i64 s.grain,e,vp] 92 (0,0))) (hB:q B) (hs:SchAt p W0 (.agg #[s0,s1,.int .i64 s.grain]) s) (hf:FilAt p n W0 (.agg #[f0,f1,f2,f3,f4,f5]) Q.fil) (hK:kindsOk Q.fil) (hp:PartsAt p W0 vp pts)
  (hck:Fil.checkE s Q.fil=0) (hdl:∀ C ∈ pts,∀ x ∈ C,x.1.2.length=s.dims.length) :
  IterC a0 a1 102 #[.pointer (some ⟨B,0,none⟩)] (pts.flatten.filter (inF s Q)) p q W0:=by
 intro l fn0 T A BB Inv hIB hIA hy hr W hI
 have HI:=Lib.hid hI
 have HIB:=Lib.hid hIB
 have HIA:=Lib.hid hIA
 have HY:=Lib.hid hy
 have HR:=Lib.hid hr
 have HDL:=Lib.hid hdl
 obtain ⟨M,hM⟩:∃ M,(pts.flatten.filter (inF s Q)).length=M:=⟨_,rfl⟩
 rw [hM]
 have HMM:=Lib.hid hM
 clear hM
 have hblt:=(Array.getElem?_eq_some_iff.1 h0).1
 have HBX:=Lib.hid (fun k X (h:Inv k X)=>((HIA.out k X h).2.2 B hblt hB).trans h0)
 have HH:=Lib.hid (fun k X (h:Inv k X) vd (t:Int) (d:List Tess.DV) (hd:d.length=s.dims.length) (hv:ValsAt p X vd (d.map Tess.valOf))=>by
  have ag:Ag p W0 X:=(HIA.out k X h).2.weak hpq
  have:=fHolds_any a0 a1 p n (.agg #[s0,s1,.int .i64 s.grain]) (.agg #[f0,f1,f2,f3,f4,f5]) vd s Q.fil t (d.map Tess.valOf) X (HIA.out k X h).1 (hs.ag ag) (hf.ag ag) hv hn hK
  rw [show Fil.holdsE s t (d.map Tess.valOf) Q.fil=(Fil.holds s t (d.map Tess.valOf) Q.fil,0) by unfold Fil.holdsE;rw [hck];simp [hd]] at this
  exact this)
 obtain ⟨a,cap,rfl,_,hl,_,hc⟩:=ListAt.open hp
 have hl:pts.length≤9223372036854775807:=by unfold maxLen at hl;omega
 have HC:=Lib.hid hc
 have hsh0:∃ u1 u2 u3 u4,s0 = .slice u1 s.dims.length u2∧s1 = .slice u3 s.mets.length u4:=by
  obtain ⟨vd,vm,e,h1,h2,_⟩:=hs
  obtain ⟨_,_,rfl,_⟩:=slp_len h1
  obtain ⟨_,_,rfl,_⟩:=slp_len h2
  simp only [Value.agg.injEq,Array.mk.injEq,List.cons.injEq,and_true] at e
  exact ⟨_,_,_,_,e.1,e.2⟩
 obtain ⟨u1,u2,u3,u4,rfl,rfl⟩:=hsh0
 obtain ⟨z0,z1,z2,z3,z4,ez⟩:=FilAt.shape6 hf
 simp only [Value.agg.injEq,Array.mk.injEq,List.cons.injEq,and_true] at ez
 obtain ⟨rfl,rfl,rfl,rfl,rfl,rfl⟩:=ez
 clear hI hIB hIA hy hr h0 hs hf hp hc hdl hck hblt
 refine (callsIn_wide (n:=5)).1 ?_
 refine callsIn_of_wp Tryz.func102 rfl trivial ?_ rfl
 simp only [Tryz.ntmps102,List.size_toArray,List.length_cons,List.length_nil,Nat.reduceAdd,Nat.reduceSub,Array.replicate_succ,Array.replicate_zero,List.push_toArray,List.append_toArray,List.nil_append,List.cons_append]
 have yi:=(can19 (HBX.out 0 W HI.out)).2.2.2
 gi_wp2
 clear yi
 gi_loopw [12] (fun i wr => ∃ k:Nat,k≤pts.length∧i = .int .i64 k∧Inv (((pts.take k).flatten.filter (inF s Q)).length) wr) (fun i _=>pts.length - (intOf i).toNat)
 case atStart=>exact ⟨0,Nat.zero_le _,rfl,HI.out⟩
 case round=>
  obtain ⟨k,hk,rfl,hI⟩:=hrel
  have HJ:=Lib.hid hI
  clear hI
  by_cases hlt:k < pts.length
  ·have hki:(k:Int) < (pts.length:Int):=by omega
   obtain ⟨b,off,rfl,hb,hpb,cs,_,⟨u,rfl,hcel⟩,hcell⟩:=HC.out k hlt
   have hcl:=fun X (h:Inv (((pts.take k).flatten.filter (inF s Q)).length) X)=>((HIA.out _ X h).2.cell (b:=b) (o:=off + k * 1 + 0) hb (hpq _ hpb)).trans (hcell 0 (by omega))
   have hc0:=hcl wr HJ.out
   simp only [Nat.mul_one,Nat.add_zero,List.getElem?_cons_zero] at hc0
   have HFP:=filt_part (inF s Q) pts k hlt
   obtain ⟨C,hC⟩:∃ C,pts[k]=C:=⟨_,rfl⟩
   rw [hC] at hcel HFP
   obtain ⟨ac,cc,rfl,_,hlc,_,hcc⟩:=ListAt.open hcel
   have hlc:C.length≤9223372036854775807:=by unfold maxLen at hlc;omega
   have HFG:=fun j (hj:j < C.length)=>filt_get' (inF s Q) pts k hlt C hC j hj
   have HDL2:=Lib.hid (HDL.out C (hC ▸ List.getElem_mem hlt))
   have HCC:=Lib.hid hcc
   clear hcl hcc hcel hcell hb hpb hC
   obtain ⟨m0,hm0⟩:∃ m0,((pts.take k).flatten.filter (inF s Q)).length=m0:=⟨_,rfl⟩
   rw [hm0] at HFP HJ
   simp only [hm0] at HFG
   have HFG:=Lib.hid HFG
   have HFP:=Lib.hid HFP
   clear hm0
   obtain ⟨wa,hwa⟩:∃ wa,wa=wr:=⟨_,rfl⟩
   subst hwa
   gi_wp2
   clear hc0
   gi_loopw [18] (fun i wr => ∃ j:Nat,j≤C.length∧i = .int .i64 j∧Inv (m0 + ((C.take j).filter (inF s Q)).length) wr) (fun i _=>C.length - (intOf i).toNat)
   case atStart=>exact ⟨0,Nat.zero_le _,rfl,HJ.out⟩
   case round=>
    obtain ⟨j,hj,rfl,hI⟩:=hrel
    have HJ2:=Lib.hid hI
    clear hI
    by_cases hlj:j < C.length
    ·have hkj:(j:Int) < (C.length:Int):=by omega
     have HWR:RowKit.Hid (IntKind.i64.wrap ((j:Int) + 1)=((j + 1:Nat):Int)):=Lib.hid (by simp [IntKind.wrap,IntKind.bits,IntKind.signed];omega)
     obtain ⟨b2,off2,rfl,hb2,hpb2,cs,_,hR,hcell⟩:=HCC.out j hlj
     have hx:=HDL2.out _ (List.getElem_mem hlj)
     have HG:=Lib.hid (HFG.out j hlj)
     have HST:=Lib.hid (filt_step (inF s Q) C j hlj)
     have hck:∀ i,i < 6→wr.cell? ⟨b2,off2 + j * 6 + i,none⟩=cs[i]? := fun i hi=>((HIA.out _ wr HJ2.out).2.cell (b:=b2) (o:=off2 + j * 6 + i) hb2 (hpq _ hpb2)).trans (hcell i hi)
     have HCEL:=Lib.hid (fun X k (h:Inv k X)=>CelAt.ag hR ((HIA.out k X h).2.weak hpq))
     obtain ⟨ad,cd,a3,c3,a4,c4,a5,c5,rfl,_⟩:=hR.shapes
     have e0:=hck 0 (by omega)
     have e1:=hck 1 (by omega)
     have e2:=hck 2 (by omega)
     have e3:=hck 3 (by omega)
     have e4:=hck 4 (by omega)
     have e5:=hck 5 (by omega)
     simp only [Nat.add_zero,List.getElem?_cons_zero,List.getElem?_cons_succ] at e0 e1 e2 e3 e4 e5
     clear hR hck hcell hpb2
     generalize C[j]=x at *
     obtain ⟨m,hm⟩:∃ m,m0 + ((C.take j).filter (inF s Q)).length=m:=⟨_,rfl⟩
     have HM:=Lib.hid hm
     simp only [hm] at HG HJ2
     obtain ⟨X1,hX1⟩:∃ X1,wr.alloc (.cells #[.int .i64 x.1.1,.slice ad x.1.2.length cd,.int .i64 x.2.n,.slice a3 x.2.sums.length c3,.slice a4 x.2.mins.length c4,.slice a5 x.2.maxs.length c5] 83)=X1:=⟨_,rfl⟩
     obtain ⟨k1,kS,kB⟩:=laid1 wr (.cells #[.int .i64 x.1.1,.slice ad x.1.2.length cd,.int .i64 x.2.n,.slice a3 x.2.sums.length c3,.slice a4 x.2.mins.length c4,.slice a5 x.2.maxs.length c5] 83)
     rw [hX1] at k1 kS kB
     have hI1:=HIB.out _ _ _ HJ2.out kB
     have hbw:b2 < wr.heap.size:=Nat.lt_of_lt_of_le hb2 (HIA.out _ wr HJ2.out).2.1
     obtain ⟨⟨y0,y1,y2,y3,y4,y5,y6,y7,y8,y9,ya,yb,yc,yd⟩,⟨ye,yf,yg⟩,yh,yi⟩:=can19 (HBX.out _ X1 hI1)
     obtain ⟨⟨x0,x1,x2,x3,x4,x5⟩,_⟩:=can6 k1
     have hvals:ValsAt p X1 (.slice ad x.1.2.length cd) (x.1.2.map Tess.valOf):=by
      obtain ⟨vd,vs,vm,vx,e,h1,_⟩:=HCEL.out X1 m hI1
      simp only [List.cons.injEq] at e
      rw [e.2.1];exact h1
     have HHX:=Lib.hid (HH.out m X1 hI1 _ x.1.1 x.1.2 hx hvals)
     have HI1:=Lib.hid hI1
     have HK1:=Lib.hid k1
     have HKS:=Lib.hid kS
     have HHE:RowKit.Hid (inF s Q x=Fil.holds s x.1.1 (x.1.2.map Tess.valOf) Q.fil):=Lib.hid rfl
     clear hI1 hvals k1 kS kB hm hx
     cases hh:Fil.holds s x.1.1 (x.1.2.map Tess.valOf) Q.fil
     ·rw [hh] at HHX HHE
      rw [HHE.out] at HST
      clear hh
      gi_wp2_with (fail)
      (refine ⟨trivial,?_⟩;gi_at_call 103;refine (callsIn_wide.2 HHX.out).mono ?_;rintro e w2 ⟨rfl,hB2⟩;have HI2:=Lib.hid (HIB.out _ _ _ HI1.out hB2);clear hB2)
      gi_wp2_with (refine ⟨(fun _ h=>by cases h),?_⟩)
      clear e0 e1 e2 e3 e4 e5 x0 x1 x2 x3 x4 x5 y0 y1 y2 y3 y4 y5 y6 y7 y8 y9 ya yb yc yd ye yf yg yh yi hX1
      go_roundw
      case rel=>exact ⟨j + 1,by omega,by rw [HWR.out],by rw [HST.out,← Nat.add_assoc,HM.out];exact HI2.out⟩
      case measure=>rw [HWR.out];simp [intOf];omega
     ·rw [hh] at HHX HHE
      rw [HHE.out] at HST
      obtain ⟨hml,hmx⟩:=List.getElem?_eq_some_iff.1 (HG.out HHE.out)
      have HRR:=Lib.hid (fun X (h:Inv m X)=>HR.out m X [.int .i64 x.1.1,.slice ad x.1.2.length cd,.int .i64 x.2.n,.slice a3 x.2.sums.length c3,.slice a4 x.2.mins.length c4,.slice a5 x.2.maxs.length c5] hml h (by rw [hmx];exact HCEL.out X m h))
      clear hh
      gi_wp2_with (fail)
      refine ⟨trivial,?_⟩
      gi_at_call 103
      refine (callsIn_wide.2 HHX.out).mono ?_
      rintro e w2 ⟨rfl,hB2⟩
      have hi2:=HIB.out _ _ _ HI1.out hB2
      have HI2:=Lib.hid hi2
      have hyl:=HY.out m w2 hi2 #[.agg #[.int .i64 x.1.1,.slice ad x.1.2.length cd,.int .i64 x.2.n,.slice a3 x.2.sums.length c3,.slice a4 x.2.mins.length c4,.slice a5 x.2.maxs.length c5]] rfl
      obtain ⟨⟨v0,v1,v2,v3,v4,v5⟩,_⟩:=can6 ((hB2.block _ (by rw [HKS.out];omega)).trans HK1.out)
      clear hB2 hi2
      gi_wp2
      refine roundIn_any ((HRR.out w2 HI2.out).mono ?_)
      clear hyl v0 v1 v2 v3 v4 v5 e0 e1 e2 e3 e4 e5 x0 x1 x2 x3 x4 x5 y0 y1 y2 y3 y4 y5 y6 y7 y8 y9 ya yb yc yd ye yf yg yh yi hX1
      rintro e w3 ⟨rfl,hinv⟩
      have HV:=Lib.hid hinv
      clear hinv
      gi_wp2
      go_roundw
      case rel=>exact ⟨j + 1,by omega,by go_num,by rw [HST.out,← Nat.add_assoc,HM.out];exact HV.out⟩
      case measure=>simp [intOf];omega
    ·have hkj:¬ (j:Int) < (C.length:Int):=by omega
     obtain rfl:j=C.length:=by omega
     have hj2:=HJ2.out
     rw [List.take_length,← HFP.out] at hj2
     have HJ3:=Lib.hid hj2
     clear hj2
     gi_wp2
     go_roundw
     case rel=>exact ⟨k + 1,by omega,by go_num,HJ3.out⟩
     case measure=>simp [intOf];omega
  ·have hki:¬ (k:Int) < (pts.length:Int):=by omega
   have hkm:k=pts.length:=by omega
   subst hkm
   have hj2:=HJ.out
   rw [List.take_length,HMM.out] at hj2
   have HJ3:=Lib.hid hj2
   clear hj2
   gi_wp2
   go_end0
   exact ⟨⟨_,rfl⟩,HJ3.out⟩
end Go.Proofs.YtaddkkkchkdgkaaGreatDoor
