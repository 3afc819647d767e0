/- Joined by mergeK.py: K59, H13, H15, H11p -/
import Derived.Test.YtaddkkkchkdgkaaGreatDoorCC41
import Derived.Test.YtaddkkkchkdgkaaGreatDoorCC40
import Derived.Test.YtaddkkkchkdgkaaGreatDoorCC19
import Derived.Test.YtaddkkkchkdgkaaGreatDoorCC06
import Derived.Test.YtaddkkkchkdgkaaGreatDoorCC03
namespace Go.Proofs.YtaddkkkchkdgkaaGreatDoor
open Go.RowKit Go.Sort Go.Shelf
open Tess (CK Pay PO CO2 CO Que Fil gP)
theorem fEz {s:Tess.Sch} {q:Que} {set:Int} (h:fE s q set=0):Que.check s q=0∧∃ k:Nat,set=(k:Int)∧k < 2 ^ q.names.length:=by
 unfold fE at h
 split at h
 ·rename_i hc;exact absurd h hc
 ·rename_i hc
  split at h
  ·cases h
  ·rename_i h2
   refine ⟨by simpa using hc,set.toNat,?_,?_⟩
   ·omega
   ·have:((2 ^ q.names.length:Nat):Int) > set:=by omega
    omega
set_option maxRecDepth 100000 in
set_option maxHeartbeats 8000000 in
theorem fold_any {T:Lib.PrintTabs} (a0 a1:Addr) (p:Nat→Prop) (n:Nat) (vs v vp:Value) (s:Tess.Sch) (q:Que) (set:Int) (pts:List (List (CK×Pay))) (va vb vS f0 f1 f2 f3 f4 f5 vh vo:Value) (w:World) (hV:Vars a0 a1 w) (hVn:∀ w',Below w.heap.size w w'→Vn T w') (hE:w.cell? ⟨0,0,none⟩=some (.iface 229 (.agg #[.pointer (some ⟨14,89,none⟩)]))) (hs:SA p w vs s) (hq:QA p n w v q va vb vS f0 f1 f2 f3 f4 f5 vh vo) (hn:n≤100) (hK:kO2 q.fil) (hnm:q.names.length≤10) (hp:PartsAt p w vp pts) (hpl:pts.length≤13)
  (hok:Que.check s q=0→∀ C ∈ pts,CO s C) (htot:(pts.flatten.map (·.2.n)).sum≤1000) :
  Calls Tryz.prog 15 #[vs,v,.int .i64 set,vp] w fun e w' => ∃ v',e = .returned (.tuple #[v',.int .i64 (fE s q set:Nat)])∧GA3 (fun b=>w.heap.size≤b) w' v' (fR2 s q set pts.flatten)∧Below w.heap.size w w':=by
 obtain ⟨s0,s1,rfl,_⟩:=id hs
 have hv:=hq.e
 subst hv
 obtain ⟨W0,Af⟩:∃ W0,(w.alloc (.cells #[s0,s1,.int .i64 s.grain] 24)).alloc (.cells #[va,vb,.int .i64 q.mode,vS,.int .i64 q.every,f0,f1,f2,f3,f4,f5,vh,vo,.int .i64 q.limit] 35)=W0:=⟨_,rfl⟩
 obtain ⟨k0,k1,kS,kB⟩:=la3 w (.cells #[s0,s1,.int .i64 s.grain] 24) (.cells #[va,vb,.int .i64 q.mode,vS,.int .i64 q.every,f0,f1,f2,f3,f4,f5,vh,vo,.int .i64 q.limit] 35)
 rw [Af] at k0 k1 kS kB
 obtain ⟨⟨x0,x1,x2⟩,_⟩:=can3 k0
 obtain ⟨y0,y1,y2,y3,y4,y5,y6,y7,y8,y9,ya,yb,yc,yd⟩:=(ca2 k1).1
 have Aa:0 < w.heap.size:=World.block_lt_of_cell? _ _ hE
 have HE:=Hd (fun W (hB:Below w.heap.size w W)=>(hB.cell (p:=⟨0,0,none⟩) Aa).trans hE)
 have HB:=Hd kB
 have ag:=Ag.new p kB
 by_cases h0:fE s q set=0
 ·obtain ⟨hc,k,rfl,hk⟩:=fEz h0
  have HF:=Hd (foldGood_any (T:=T) a0 a1 p n s q k pts va vb vS f0 f1 f2 f3 f4 f5 vh vo s0 s1 vp W0 (hV.below kB) (fun w' hB=>hVn w' (Bt kB hB)) (hs.ag ag) (hq.ag ag) hn hK hnm (hp.ag ag) hpl hc hk (hok hc) htot)
  have hR:fR2 s q (k:Int) pts.flatten=oS2 (k:Nat) (gP s q k pts.flatten):=by unfold fR2;rw [if_pos h0];rfl
  rw [hR,h0]
  obtain ⟨ap,cp,rfl,_⟩:=LA.open hp
  clear hs hq hp hV hVn hE Aa hok hK k0 k1 kB hR h0 ag
  go_enter Tryz.func15,Tryz.ntmps15
  go_wp2_with (fail)
  go_at_call 34
  refine HF.out.mono ?_
  rintro e w1 ⟨v,rfl,hG,Ab⟩
  have HG:=Hd hG
  have Ad:=Hd (Bt HB.out Ab)
  obtain ⟨ag,cg,rfl,_⟩:=LA.open hG
  clear hG Ab x0 x1 x2 y0 y1 y2 y3 y4 y5 y6 y7 y8 y9 ya yb yc yd Af
  go_wp2_with (fail)
  go_at_call 35
  refine (toldG_nil _).mono ?_
  rintro e w2 ⟨rfl,Ac⟩
  have Ae:=Hd Ac
  clear Ac
  go_wp2_with (fail)
  go_ret2
  exact ⟨_,rfl,((HG.out.ag (Ag.new _ Ae.out)).weak fun b hb=>Nat.le_trans HB.out.size hb),Bt Ad.out Ae.out⟩
 ·have HF:=Hd (foldBad_any a0 a1 p n s q set va vb vS f0 f1 f2 f3 f4 f5 vh vo s0 s1 vp W0 (hV.below kB) (hs.ag ag) (hq.ag ag) hn hK hnm h0)
  have hR:fR2 s q set pts.flatten=[]:=by unfold fR2;rw [if_neg h0]
  rw [hR]
  obtain ⟨ap,cp,rfl,_⟩:=LA.open hp
  generalize fE s q set=E at *
  clear hs hq hp hV hVn hE Aa hok hK k0 k1 kB hR h0 ag
  go_enter Tryz.func15,Tryz.ntmps15
  go_wp2_with (fail)
  go_at_call 34
  refine HF.out.mono ?_
  rintro e w1 ⟨rfl,Ab⟩
  have Ad:=Hd (Bt HB.out Ab)
  have HT:=Hd (toldG_any (E:Nat) w1 (HE.out w1 Ad.out))
  clear Ab x0 x1 x2 y0 y1 y2 y3 y4 y5 y6 y7 y8 y9 ya yb yc yd Af
  go_wp2_with (fail)
  go_at_call 35
  refine HT.out.mono ?_
  rintro e w2 ⟨rfl,Ac⟩
  have Ae:=Hd (Bt Ad.out Ac)
  clear Ac
  go_wp2_with (fail)
  go_ret2
  exact ⟨_,rfl,LA.nil _ _ _ _,Ae.out⟩
end Go.Proofs.YtaddkkkchkdgkaaGreatDoor
namespace Go.Proofs.YtaddkkkchkdgkaaGreatDoor
open Go.RowKit Go.Sort Go.Shelf
open Tess (Fil Que)
attribute [local go_sem] Oper.semAt_some
def Counts (gf:FuncId) (lb:Array Value) (ns:List Nat) (q:Nat→Prop) (W0:World):Prop:=
 ∀ (l:Nat) (fn0:FuncId) (T:Value→Array Value) (A B:Code) (Inv:Nat→World→Prop),
   (∀ k W W',Inv k W→Below W.heap.size W W'→Inv k W')→(∀ k W,Inv k W→Ag q W0 W) →
   (∀ k W,Inv k W→∀ z:Int,(Instr.yield l #[.int .i64 z]).run Tryz.prog W = .ok (.round l fn0 (T (.int .i64 z)) A B) W) →
   (∀ k W (hk:k < ns.length),Inv k W→RoundIn Fence.wide 5 Tryz.prog l fn0 (T (.int .i64 ((ns[k]:Nat):Int))) A B W (fun e W'=>e = .returned (.bool true)∧Inv (k + 1) W')) →
   ∀ W,Inv 0 W→Calls Tryz.prog gf (#[.func (.yield l) #[] #[]] ++ lb) W fun e W'=>(∃ v,e = .returned v)∧Inv ns.length W'
set_option maxRecDepth 100000 in
set_option maxHeartbeats 2000000 in
theorem counted_iter (m:Nat) (hm:m≤1000000) (b1 b2:Nat) (q:Nat→Prop) (W0:World) (h1:W0.cell? ⟨b1,0,none⟩=some (.int .i64 0)) (h2:W0.cell? ⟨b2,0,none⟩=some (.int .i64 (m:Nat))) (q1:q b1) (q2:q b2) (l1:b1 < W0.heap.size) (l2:b2 < W0.heap.size) :
  Counts 178 #[.pointer (some ⟨b1,0,none⟩),.pointer (some ⟨b2,0,none⟩)] (List.range (m + 1)) q W0:=by
 intro l Aj T A B Ad Ac Aa hy hr W hI
 have HI:=Hd hI
 have Ai:=Hd Ac
 have Ah:=Hd Aa
 have HY:=Hd hy
 have HR:=Hd hr
 have c1:=((Aa 0 W hI).cell l1 q1).trans h1
 clear hI Ac Aa hy hr
 refine (callsIn_wide (n:=5)).1 ?_
 refine callsIn_of_wp Tryz.func178 rfl trivial ?_ rfl
 simp only [Tryz.ntmps178,List.size_toArray,List.length_cons,List.length_nil,Nat.reduceAdd,Nat.reduceSub,Array.replicate_succ,Array.replicate_zero,List.push_toArray,List.append_toArray,List.nil_append,List.cons_append]
 gi_wp2
 gi_loopw [4] (fun i wr => ∃ k:Nat,k≤m + 1∧i = .int .i64 k∧Ad k wr) (fun i _=>m + 1 - (intOf i).toNat)
 case atStart=>exact ⟨0,Nat.zero_le _,rfl,HI.out⟩
 case round=>
  clear c1
  obtain ⟨k,hk,rfl,hI⟩:=hrel
  have HJ:=Hd hI
  clear hI
  have c2:=((Ah.out k wr HJ.out).cell l2 q2).trans h2
  by_cases hlt:k≤m
  ·have Ag:(k:Int)≤(m:Int):=by omega
   have Ae:=HY.out k wr HJ.out k
   gi_wp2
   have Ab:=HR.out k wr (by simp;omega) HJ.out
   simp only [List.getElem_range] at Ab
   refine rIa (Ab.mono ?_)
   clear Ae c2 Ab
   rintro e w1 ⟨rfl,hinv⟩
   have HV:=Hd hinv
   clear hinv
   gi_wp2
   go_roundw
   case rel=>exact ⟨k + 1,by omega,by go_num,HV.out⟩
   case measure=>simp [intOf];omega
  ·have Ag:¬ (k:Int)≤(m:Int):=by omega
   have Af:k=m + 1:=by omega
   gi_wp2
   go_end0
   refine ⟨⟨_,rfl⟩,?_⟩
   exact Af ▸ HJ.out
set_option maxRecDepth 100000 in
set_option maxHeartbeats 2000000 in
theorem sets_iter (names:List ByteArray) (ls:List (List ByteArray)) (hn:names.length≤6) (b:Nat) (x0 x2 x4 x5 x6 x7 x8 x9 xa xb xc xd vb vS:Value) (t:TypeId) (q p:Nat→Prop) (hpq:∀ c,p c→q c) (W0:World)
  (h1:W0.heap[b]? = some (.cells #[x0,vb,x2,vS,x4,x5,x6,x7,x8,x9,xa,xb,xc,xd] t (0,0))) (q1:q b) (hb:SlP p W0 vb (names.map .string)) (hS:SA2 p W0 vS ls) :
  Counts 134 #[.pointer (some ⟨b,0,none⟩)] (ls.map (Que.setOf names)) q W0:=by
 intro l Aw T A B Ac Al Ai hy hr W hI
 have HI:=Hd hI
 have Aj:=Hd Al
 have Ag:=Hd Ai
 have HY:=Hd hy
 have HR:=Hd hr
 have An:=(Array.getElem?_eq_some_iff.1 h1).1
 have Aa:=Hd (fun k X (h:Ac k X)=>(ca2 (((Ag.out k X h).2 b An q1).trans h1)).1)
 have Ao:=Hd (fun k X (h:Ac k X)=>(hb.ag ((Ag.out k X h).weak hpq)).1)
 have Ar:=Hd (fun k X (h:Ac k X)=>hS.ag ((Ag.out k X h).weak hpq))
 have Av:=hS.len
 obtain ⟨aS,cS,rfl⟩:=hS.shape
 obtain ⟨ab,cb,rfl,_,_⟩:=so2 hb.1
 clear hI Al Ai hy hr h1 hb hS
 refine (callsIn_wide (n:=5)).1 ?_
 refine callsIn_of_wp Tryz.func134 rfl trivial ?_ rfl
 simp only [Tryz.ntmps134,List.size_toArray,List.length_cons,List.length_nil,Nat.reduceAdd,Nat.reduceSub,Array.replicate_succ,Array.replicate_zero,List.push_toArray,List.append_toArray,List.nil_append,List.cons_append]
 obtain ⟨c0,c1,c2,c3,c4,c5,c6,c7,c8,c9,ca,Ae,cc,cd⟩:=Aa.out 0 W HI.out
 gi_wp2
 gi_loopw [9] (fun i wr => ∃ k:Nat,k≤ls.length∧i = .int .i64 k∧Ac k wr) (fun i _=>ls.length - (intOf i).toNat)
 case atStart=>exact ⟨0,Nat.zero_le _,rfl,HI.out⟩
 case round=>
  clear c0 c1 c2 c3 c4 c5 c6 c7 c8 c9 ca Ae cc cd
  obtain ⟨k,hk,rfl,hI⟩:=hrel
  have HJ:=Hd hI
  clear hI
  by_cases hlk:k < ls.length
  ·have As:(k:Int) < (ls.length:Int):=by omega
   obtain ⟨_,_,eS,_,_,_,hc⟩:=Ar.out k wr HJ.out
   simp only [Value.slice.injEq] at eS
   obtain ⟨rfl,_,rfl⟩:=eS
   obtain ⟨bs,Aq,rfl,Au,_,Ab⟩:=hc (by omega)
   obtain ⟨cv,Am,Ad,_⟩:=Ab k hlk
   obtain ⟨s0,s1,s2,rfl⟩:=Ad.shape
   have Af:=Hd (fun (X:World) (hX:Below wr.heap.size wr X)=>set_any x0 x2 (.slice (some ⟨bs,Aq,none⟩) ls.length cS) x4 x5 x6 x7 x8 x9 xa xb xc xd (.slice ab names.length cb) _ names ls[k] hn X ((Ao.out k wr HJ.out).below hX) (Ad.1.below hX))
   have Ak:=Hd (fun X (hX:Below wr.heap.size wr X)=>HR.out k X (by simp;omega) (Aj.out k wr X HJ.out hX))
   have At:=Hd (fun X (hX:Below wr.heap.size wr X)=>HY.out k X (Aj.out k wr X HJ.out hX))
   obtain ⟨c0,c1,c2,c3,c4,c5,c6,c7,c8,c9,ca,Ae,cc,cd⟩:=Aa.out k wr HJ.out
   clear hc Ab Ad
   simp only [List.getElem_map] at Ak
   generalize Que.setOf names ls[k]=z at *
   gi_wp2_with (refine ⟨trivial,?_⟩;gi_at_call 135;refine (callsIn_wide.2 (Af.out _ (Below.refl _ _))).mono ?_;rintro e w2 ⟨rfl,Ah⟩;have Ap:=At.out w2 Ah (z:Nat))
   refine rIa ((Ak.out _ Ah).mono ?_)
   clear Ap
   rintro e w3 ⟨rfl,hinv⟩
   have HV:=Hd hinv
   clear hinv Ah c0 c1 c2 c3 c4 c5 c6 c7 c8 c9 ca Ae cc cd Am
   gi_wp2
   go_roundw
   case rel=>exact ⟨k + 1,by omega,by go_num,HV.out⟩
   case measure=>simp [intOf];omega
  ·have As:¬ (k:Int) < (ls.length:Int):=by omega
   gi_wp2
   go_end0
   refine ⟨⟨_,rfl⟩,?_⟩
   have e:k=ls.length:=by omega
   exact e ▸ HJ.out
set_option maxRecDepth 100000 in
set_option maxHeartbeats 2000000 in
theorem rollup_iter (nb:Nat) (hn:nb≤6) (b:Nat) (ab:Option Addr) (cb:Nat) (x0 x2 x3 x4 x5 x6 x7 x8 x9 xa xb xc xd:Value) (t:TypeId) (q:Nat→Prop) (W0:World)
  (h1:W0.heap[b]? = some (.cells #[x0,.slice ab nb cb,x2,x3,x4,x5,x6,x7,x8,x9,xa,xb,xc,xd] t (0,0))) (q1:q b) :
  Counts 133 #[.pointer (some ⟨b,0,none⟩)] ((List.range (nb + 1)).map fun k=>2 ^ nb - 2 ^ (nb - k)) q W0:=by
 intro l Ar T A B Aj Al Ag hy hr W hI
 have HI:=Hd hI
 have Ai:=Hd Al
 have Ap:=Hd Ag
 have HY:=Hd hy
 have HR:=Hd hr
 have Am:=(Array.getElem?_eq_some_iff.1 h1).1
 have Aa:=Hd (fun k X (h:Aj k X)=>(ca2 (((Ap.out k X h).2 b Am q1).trans h1)).1)
 clear hI Al Ag hy hr h1
 refine (callsIn_wide (n:=5)).1 ?_
 refine callsIn_of_wp Tryz.func133 rfl trivial ?_ rfl
 simp only [Tryz.ntmps133,List.size_toArray,List.length_cons,List.length_nil,Nat.reduceAdd,Nat.reduceSub,Array.replicate_succ,Array.replicate_zero,List.push_toArray,List.append_toArray,List.nil_append,List.cons_append]
 obtain ⟨c0,c1,c2,c3,c4,c5,c6,c7,c8,c9,ca,Af,cc,cd⟩:=Aa.out 0 W HI.out
 gi_wp2
 refine Rf.wIs ?_
 gi_wp2
 refine wpIn_label ?_
 gi_wp2
 gi_loopw [9] (fun i wr => ∃ k:Nat,k≤nb + 1∧i = .int .i64 k∧Aj k wr) (fun i _=>nb + 1 - (intOf i).toNat)
 case atStart=>exact ⟨0,Nat.zero_le _,rfl,HI.out⟩
 case round=>
  clear c0 c1 c2 c3 c4 c5 c6 c7 c8 c9 ca Af cc cd
  obtain ⟨k,hk,rfl,hI⟩:=hrel
  have HJ:=Hd hI
  clear hI
  by_cases hlk:k < nb + 1
  ·have Ao:(k:Int) < (nb:Int) + 1:=by omega
   obtain ⟨c0,c1,c2,c3,c4,c5,c6,c7,c8,c9,ca,Af,cc,cd⟩:=Aa.out k wr HJ.out
   have As:b < wr.heap.size:=World.block_lt_of_cell? wr _ c0
   have Ak:=Hd (fun X (hX:Below wr.heap.size wr X)=>HR.out k X (by simp;omega) (Ai.out k wr X HJ.out hX))
   have Aq:=Hd (fun X (hX:Below wr.heap.size wr X)=>HY.out k X (Ai.out k wr X HJ.out hX))
   have Ac:=Hd (fun X=>allL_any x0 x2 x3 x4 x5 x6 x7 x8 x9 xa xb xc xd ab nb cb (by omega) X)
   simp only [List.getElem_map,List.getElem_range] at Ak
   have Ad:=andNot_all nb hn k (by omega)
   obtain ⟨p1,p2,p3⟩:=ps3 k (by omega)
   obtain ⟨_,q2,q3⟩:=ps3 nb (by omega)
   have hA:2 ^ nb - 1≤1024:=by omega
   generalize 2 ^ nb - 2 ^ (nb - k)=z at *
   generalize 2 ^ nb - 1=A at *
   obtain ⟨P,hP⟩:∃ P,P=2 ^ k:=⟨_,rfl⟩
   rw [← hP] at p1 p2 p3 Ad
   have Ab:((A / P:Nat):Int)=(A:Int) / (P:Int):=by simp
   rw [Ab] at Ad
   clear hP Ab q2 q3
   gi_wp2
   refine Flow.wIr 8 (Flow.sp3 [.inl ?_,.inl ?_,.inl ?_,.inl ?_,.inl ?_,.inl ?_,.inl ?_,.inl ?_]) (by kernel_rfl) (by kernel_rfl) ?_ ?_
   rotate_left 8
   ·refine Flow.sm2 ?_
    repeat (first | exact Flow.ln2 | refine Flow.li2 ?_)
   all_goals try simp only [List.take_succ_cons,List.take_zero,List.drop_succ_cons,List.drop_zero]
   iterate 2 (refine Flow.tvK rfl (fun K hK=>⟨fun w hw hG => ?_,?_⟩);(have Ah:=Flow.bc4 hw;clear hG hw;unfold Flow.Runs Flow.yields;go_simp;try rfl);go_simp;refine hK _ ?_;clear hK K)
   (refine Flow.tvK rfl (fun K hK=>⟨fun w hw hG => ?_,?_⟩);(clear hG hw;unfold Flow.Runs Flow.yields;go_simp;refine (Ac.out _).mono ?_;rintro e w3 ⟨rfl,Ae⟩;first | exact ⟨_,rfl,Ae,rfl⟩ | (refine ⟨?_,Ae⟩;rfl));go_simp;refine hK _ ?_;clear hK K)
   iterate 1 (refine Flow.tvK rfl (fun K hK=>⟨fun w hw hG => ?_,?_⟩);(have Ah:=Flow.bc4 hw;clear hG hw;unfold Flow.Runs Flow.yields;go_simp;try rfl);go_simp;refine hK _ ?_;clear hK K)
   (refine Flow.tvK rfl (fun K hK=>⟨fun w hw hG => ?_,?_⟩);(clear hG hw;unfold Flow.Runs Flow.yields;go_simp;refine (Ac.out _).mono ?_;rintro e w3 ⟨rfl,Ae⟩;first | exact ⟨_,rfl,Ae,rfl⟩ | (refine ⟨?_,Ae⟩;rfl));go_simp;refine hK _ ?_;clear hK K)
   iterate 3 (refine Flow.tvK rfl (fun K hK=>⟨fun w hw hG => ?_,?_⟩);(have Ah:=Flow.bc4 hw;clear hG hw;unfold Flow.Runs Flow.yields;go_simp;try rfl);go_simp;refine hK _ ?_;clear hK K)
   refine Flow.tn2 fun w2 hw2 hG => ?_
   clear hG
   have An:=Aq.out w2 hw2 (z:Nat)
   gi_wp2
   refine rIa ((Ak.out _ hw2).mono ?_)
   clear An
   rintro e w3 ⟨rfl,hinv⟩
   have HV:=Hd hinv
   clear hinv hw2 c0 c1 c2 c3 c4 c5 c6 c7 c8 c9 ca Af cc cd
   gi_wp2
   go_roundw
   case rel=>exact ⟨k + 1,by omega,by go_num,HV.out⟩
   case measure=>simp [intOf];omega
  ·have Ao:¬ (k:Int) < (nb:Int) + 1:=by omega
   have e:k=nb + 1:=by omega
   gi_wp2
   go_end0
   refine ⟨⟨_,rfl⟩,?_⟩
   simpa using e ▸ HJ.out
end Go.Proofs.YtaddkkkchkdgkaaGreatDoor
namespace Go.Proofs.YtaddkkkchkdgkaaGreatDoor
open Go.RowKit Go.Sort Go.Maps
open Tess (Fil Que)
structure IterAt (gf:FuncId) (lb:Array Value) (ns:List Nat) (q:Nat→Prop) (W:World):Prop where
 ent:∀ args w,(callFunc gf args).run Tryz.prog w = .ok (.enter gf args) w
 counts:Counts gf lb ns q W
def Gives (F:FuncId) (L:Array Value) (ns:List Nat) (p:Nat→Prop) (W:World):Prop:=
 Calls Tryz.prog F #[.agg L] W fun e W' => ∃ gf lb,e = .returned (.func (.func gf) #[] lb)∧Below W.heap.size W W'∧IterAt gf lb ns (fun b=>p b∨(W.heap.size≤b∧b < W'.heap.size)) W'
theorem ca5 (a b:Int) (w:World) :
  Calls Tryz.prog 131 #[.int .i64 a,.int .i64 b] w fun e w'=>e = .returned (.func (.func 178) #[] #[.pointer (some ⟨w.heap.size,0,none⟩),.pointer (some ⟨w.heap.size + 1,0,none⟩)])∧(w.alloc (.cells #[.int .i64 a] 3)).alloc (.cells #[.int .i64 b] 3)=w':=by
 go_enter Tryz.func131,Tryz.ntmps131
 go_wp2
 go_ret
 exact ⟨rfl,rfl⟩
theorem ca6 (m:Nat) (hm:m≤1000000) (p:Nat→Prop) (W X:World) (hWX:W.heap.size≤X.heap.size):IterAt 178 #[.pointer (some ⟨X.heap.size,0,none⟩),.pointer (some ⟨X.heap.size + 1,0,none⟩)] (List.range (m + 1))
  (fun b=>p b∨(W.heap.size≤b∧b < ((X.alloc (.cells #[.int .i64 0] 3)).alloc (.cells #[.int .i64 (m:Nat)] 3)).heap.size)) ((X.alloc (.cells #[.int .i64 0] 3)).alloc (.cells #[.int .i64 (m:Nat)] 3)):=by
 obtain ⟨h1,h2,hS,_⟩:=la3 X (.cells #[.int .i64 0] 3) (.cells #[.int .i64 (m:Nat)] 3)
 exact ⟨enters_of Tryz.func178 (by kernel_rfl) rfl,counted_iter m hm _ _ _ _ (cell_of_row _ _ 0 _ _ _ h1) (cell_of_row _ _ 0 _ _ _ h2) (.inr ⟨by omega,by omega⟩) (.inr ⟨by omega,by omega⟩) (by omega) (by omega)⟩
section
variable (x0 x2 x3 x4 x5 x6 x7 x8 x9 xa xb xc xd vb:Value)
set_option maxRecDepth 100000 in
theorem plain_any (p:Nat→Prop) (W:World):Gives 81 #[x0,vb,x2,x3,x4,x5,x6,x7,x8,x9,xa,xb,xc,xd] [0] p W:=by
 unfold Gives
 obtain ⟨h0,hS,hB⟩:=la2 W (.cells #[x0,vb,x2,x3,x4,x5,x6,x7,x8,x9,xa,xb,xc,xd] 108)
 have hI:=ca6 0 (by omega) p W (W.alloc (.cells #[x0,vb,x2,x3,x4,x5,x6,x7,x8,x9,xa,xb,xc,xd] 108)) hB.size
 rw [hS] at hI
 have HI:=Hd hI
 have HB:=Hd hB
 clear h0 hS hB hI
 go_enter Tryz.func81,Tryz.ntmps81
 go_wp2_with (go_at_call 131;refine (ca5 _ _ _).mono ?_;rintro e w2 ⟨rfl,rfl⟩)
 go_ret
 exact ⟨_,_,rfl,(HB.out.alloc HB.out.size _).alloc (HB.out.alloc HB.out.size _).size _,HI.out⟩
set_option maxRecDepth 100000 in
theorem cube_any (p:Nat→Prop) (W:World) (ab:Option Addr) (nb cb:Nat) (hn:nb≤6):Gives 82 #[x0,.slice ab nb cb,x2,x3,x4,x5,x6,x7,x8,x9,xa,xb,xc,xd] (List.range (2 ^ nb)) p W:=by
 unfold Gives
 obtain ⟨h0,hS,hB⟩:=la2 W (.cells #[x0,.slice ab nb cb,x2,x3,x4,x5,x6,x7,x8,x9,xa,xb,xc,xd] 108)
 obtain ⟨p1,p2,p3⟩:=ps3 nb (by omega)
 have Ab:=Hd (fun X=>allL_any x0 x2 x3 x4 x5 x6 x7 x8 x9 xa xb xc xd ab nb cb (by omega) X)
 have HI:=Hd (fun X (hX:W.heap.size≤X.heap.size)=>ca6 (2 ^ nb - 1) (by omega) p W X hX)
 rw [show 2 ^ nb - 1 + 1=2 ^ nb by omega] at HI
 obtain ⟨⟨c0,c1,c2,c3,c4,c5,c6,c7,c8,c9,ca,Ad,cc,cd⟩,_⟩:=ca2 h0
 have HB:=Hd hB
 generalize 2 ^ nb - 1=A at *
 clear h0 hS hB p1 p2 p3
 go_enter Tryz.func82,Tryz.ntmps82
 go_wp2_with (first | (go_at_call 132;refine (Ab.out _).mono ?_;rintro e w2 ⟨rfl,Ac⟩;have Aa:=Hd (Bt HB.out Ac);clear Ac) | (go_at_call 131;refine (ca5 _ _ _).mono ?_;rintro e w3 ⟨rfl,rfl⟩))
 go_ret
 exact ⟨_,_,rfl,(Aa.out.alloc Aa.out.size _).alloc (Aa.out.alloc Aa.out.size _).size _,HI.out _ Aa.out.size⟩
set_option maxRecDepth 100000 in
theorem rollup_any (p:Nat→Prop) (W:World) (ab:Option Addr) (nb cb:Nat) (hn:nb≤6):Gives 83 #[x0,.slice ab nb cb,x2,x3,x4,x5,x6,x7,x8,x9,xa,xb,xc,xd] ((List.range (nb + 1)).map fun k=>2 ^ nb - 2 ^ (nb - k)) p W:=by
 unfold Gives
 obtain ⟨h0,hS,hB⟩:=la2 W (.cells #[x0,.slice ab nb cb,x2,x3,x4,x5,x6,x7,x8,x9,xa,xb,xc,xd] 108)
 have HI:=Hd (rollup_iter nb hn W.heap.size ab cb x0 x2 x3 x4 x5 x6 x7 x8 x9 xa xb xc xd _ (fun b=>p b∨(W.heap.size≤b∧b < (W.alloc (.cells #[x0,.slice ab nb cb,x2,x3,x4,x5,x6,x7,x8,x9,xa,xb,xc,xd] 108)).heap.size)) _ h0 (.inr ⟨Nat.le_refl _,by omega⟩))
 have HB:=Hd hB
 clear h0 hS hB
 go_enter Tryz.func83,Tryz.ntmps83
 go_wp2
 go_ret
 exact ⟨_,_,rfl,HB.out,enters_of Tryz.func133 (by kernel_rfl) rfl,HI.out⟩
set_option maxRecDepth 100000 in
theorem sets_any (p:Nat→Prop) (W:World) (vS:Value) (names:List ByteArray) (ls:List (List ByteArray)) (hn:names.length≤6) (hb:SlP p W vb (names.map .string)) (hs:SA2 p W vS ls):Gives 84 #[x0,vb,x2,vS,x4,x5,x6,x7,x8,x9,xa,xb,xc,xd] (ls.map (Que.setOf names)) p W:=by
 unfold Gives
 obtain ⟨h0,hS,hB⟩:=la2 W (.cells #[x0,vb,x2,vS,x4,x5,x6,x7,x8,x9,xa,xb,xc,xd] 108)
 have HI:=Hd (sets_iter names ls hn W.heap.size x0 x2 x4 x5 x6 x7 x8 x9 xa xb xc xd vb vS _ (fun b=>p b∨(W.heap.size≤b∧b < (W.alloc (.cells #[x0,vb,x2,vS,x4,x5,x6,x7,x8,x9,xa,xb,xc,xd] 108)).heap.size)) p (fun _ h => .inl h) _ h0 (.inr ⟨Nat.le_refl _,by omega⟩) (hb.ag (Ag.new _ hB)) (hs.ag (Ag.new _ hB)))
 have HB:=Hd hB
 clear h0 hS hB hb hs
 go_enter Tryz.func84,Tryz.ntmps84
 go_wp2
 go_ret
 exact ⟨_,_,rfl,HB.out,enters_of Tryz.func134 (by kernel_rfl) rfl,HI.out⟩
end
def modeF (k:Nat):FuncId:=if k=1 then 81 else if k=2 then 82 else if k=3 then 83 else 84
def modesD (L:Array Value):DataW Value:=
 ((((DataW.map []).put (.int .i64 1) (.held (.func (.func 81) #[.agg L] #[]))).put (.int .i64 2) (.held (.func (.func 82) #[.agg L] #[]))).put (.int .i64 3) (.held (.func (.func 83) #[.agg L] #[]))).put (.int .i64 4) (.held (.func (.func 84) #[.agg L] #[]))
theorem zeroModeV (w:World):(zeroValue 111).run Tryz.prog w = .ok .nilFunc w:=by kernel_rfl
def ModesAt (L:Array Value) (w:World) (b:Nat):Prop:=w.ownsMap Tryz.prog 3 asIs b 4 (modesD L)
theorem ModesAt.look {L:Array Value} {w:World} {b:Nat} (h:ModesAt L w b) (k:Nat) (h1:1≤k) (h4:k≤4) :
  (Instr.lookup 112 (.map (some b)) (.int .i64 (k:Nat)) false).run Tryz.prog w = .ok (.func (.func (modeF k)) #[.agg L] #[]) w:=by
 obtain ⟨v,ps,Aa,hv⟩:=World.ownsMap.lookup h lawInt Tryz.underlying112 (zeroModeV w) (zd:=.held .nilFunc) (zp:=[]) rfl (keyOf_int_mk Tryz.underlying3 (WalkArith.wf_i64 (n:=((k:Nat):Int)) ⟨by omega,by omega⟩))
 unfold asIs at hv
 have h2:DataW.held v=(modesD L).atKey (.int .i64 (k:Nat)) (.held .nilFunc):=(Prod.ext_iff.1 (Option.some.inj hv)).1
 rw [Aa]
 have:v = .func (.func (modeF k)) #[.agg L] #[]:=by
  rcases (show k=1∨k=2∨k=3∨k=4 by omega) with rfl | rfl | rfl | rfl <;> exact DataW.held.inj h2
 rw [this]
set_option maxRecDepth 100000 in
set_option maxHeartbeats 4000000 in
theorem ma2 (x0 x1 x2 x3 x4 x5 x6 x7 x8 x9 xa xb xc xd:Value) (w:World) :
  Calls Tryz.prog 45 #[.agg #[x0,x1,x2,x3,x4,x5,x6,x7,x8,x9,xa,xb,xc,xd]] w fun e w' => ∃ b,e = .returned (.map (some b))∧ModesAt #[x0,x1,x2,x3,x4,x5,x6,x7,x8,x9,xa,xb,xc,xd] w' b∧Below w.heap.size w w':=by
 have Ak:=@run_makeMap Tryz.prog
 have Ad:=Hd (World.ownsMap_made (H:=Value) (w.alloc (.cells #[x0,x1,x2,x3,x4,x5,x6,x7,x8,x9,xa,xb,xc,xd] 108)) Tryz.prog 3 asIs)
 have Af:=Hd (((Below.refl w.heap.size w).alloc (Nat.le_refl _) (.cells #[x0,x1,x2,x3,x4,x5,x6,x7,x8,x9,xa,xb,xc,xd] 108)).alloc (by simp) (.map #[] 0))
 have Ag:=(la3 w (.cells #[x0,x1,x2,x3,x4,x5,x6,x7,x8,x9,xa,xb,xc,xd] 108) (.map #[] 0)).1
 have Aj:=Hd Ag
 rw [show (w.alloc (.cells #[x0,x1,x2,x3,x4,x5,x6,x7,x8,x9,xa,xb,xc,xd] 108)).heap.size=w.heap.size + 1 by simp] at Ad
 clear Ag
 go_enter Tryz.func45,Tryz.ntmps45
 have HO:=Ad
 have HB:=Af
 have HC:=Aj
 clear Ad Af Aj
 go_wp2_with (refine wLi _ rfl _ _ _ 112 rfl 3 111 lawInt Tryz.underlying112 asIs (w.heap.size + 1) _ _ rfl HO.out (by decide) _ _ _ rfl rfl (keyOf_int_mk Tryz.underlying3 (by decide)) _ _ rfl ?_;intro w1 Aa Ac;have Ab:=(Ac.block w.heap.size (by have:=HB.out;have:=(Array.getElem?_eq_some_iff.1 HC.out).1;exact this) (by simp)).trans HC.out;have Ae:=Hd (HB.out.grown Ac HB.out.size (fun j e=>by cases e;omega));have Ah:=Hd Aa;have Ai:=Hd Ab;obtain ⟨⟨q0,q1,q2,q3,q4,q5,q6,q7,q8,q9,qa,qb,qc,qd⟩,_⟩:=ca2 Ab;clear Aa Ac Ab HO HB HC;have HO:=Ah;have HB:=Ae;have HC:=Ai;clear Ah Ae Ai)
 go_ret
 exact ⟨_,rfl,HO.out,HB.out⟩
end Go.Proofs.YtaddkkkchkdgkaaGreatDoor
namespace Tess
open Go
namespace Que
theorem check_ok {s:Sch} {q:Que} (h:check s q=0):isOf s q=true:=by
 unfold check at h
 cases hi:isOf s q
 ·rw [hi] at h
  simp at h
  split at h <;> simp at h
 ·rfl
theorem iOn {s:Sch} {q:Que} (h:isOf s q=true):iO q.names q.names=true∧q.names.length≤6∧(1≤q.mode∧q.mode≤4)∧q.sets.length≤8:=by
 unfold isOf sO4 within at h
 simp only [Bool.and_eq_true,decide_eq_true_eq] at h
 obtain ⟨⟨⟨⟨⟨⟨h1,_⟩,h2⟩,_⟩,_⟩,_⟩,_⟩:=h
 obtain ⟨⟨⟨⟨⟨⟨_,h3⟩,h4⟩,h5⟩,_⟩,_⟩,_⟩:=h1
 refine ⟨h2,h3,h4,?_⟩
 have:=h5.2
 split at this <;> omega
end Que
end Tess
