/- The law QueryTyped: walked. -/
import Derived.Test.YtbbgjjjeecfnoaaGreatDoorXQK
import Derived.Test.YtbbgjjjeecfnoaaGreatDoorXQI
import Derived.Test.YtbbgjjjeecfnoaaGreatDoorXPE
import Derived.Test.YtbbgjjjeecfnoaaGreatDoorXTE
import Derived.Test.YtbbgjjjeecfnoaaGreatDoorXFA
namespace Go.Proofs.YtbbgjjjeecfnoaaGreatDoor
open Go.RowKit Go.Sort
open Tess (Tok Fil Que)
theorem SchAt.ltS {p:Nat→Prop} {w:World} {v:Value} {s:Tess.Sch} (h:SchAt p w v s):SchAt (fun b=>p b∧b < w.heap.size) w v s:=by
 obtain ⟨vd,vm,e1,e2,e3,e4,e5⟩:=h
 exact ⟨vd,vm,e1,e2.lt,e3.lt,e4,e5⟩
structure Bq (w:World) (sc qc:Array Value) (W:World):Prop where
 k0:W.heap[w.heap.size]? = some (.cells sc 24 (0,0))
 k1:W.heap[w.heap.size + 1]? = some (.cells qc 35 (0,0))
 below:Below w.heap.size w W
def Dq (w:World) (b:Nat):Prop:=b≠w.heap.size∧b≠w.heap.size + 1
section
variable {w W W':World} {sc qc:Array Value}
theorem Bq.lt (h:Bq w sc qc W):w.heap.size + 1 < W.heap.size:=(Array.getElem?_eq_some_iff.1 h.k1).1
theorem Bq.later (h:Bq w sc qc W) (hb:Below W.heap.size W W'):Bq w sc qc W':=
 have:=h.lt
 ⟨(hb.block _ (by omega)).trans h.k0,(hb.block _ (by omega)).trans h.k1,Bt h.below hb⟩
theorem Bq.set1 (h:Bq w sc qc W) (i:Nat) (u:Value) (qc':Array Value) (e:qc.setIfInBounds i u=qc'):Bq w sc qc' (W.setCell ⟨w.heap.size + 1,i,none⟩ u)∧Ag (Dq w) W (W.setCell ⟨w.heap.size + 1,i,none⟩ u):=by
 subst e
 exact ⟨⟨(heap_setCell_other _ _ _ _ (by show _≠w.heap.size + 1;omega)).trans h.k0,heap_setCell_same _ _ _ _ _ _ h.k1,h.below.setCell (by show _≤w.heap.size + 1;omega) _⟩,Ag.set _ _ _ (fun h=>h.2 rfl)⟩
theorem Bq.put0 {x0 x1 x2:Value} (y0 y1 y2:Value) (h:Bq w #[x0,x1,x2] qc W):∃ W3,(((W.setCell ⟨w.heap.size,0,none⟩ y0).setCell ⟨w.heap.size,1,none⟩ y1).setCell ⟨w.heap.size,2,none⟩ y2)=W3∧Bq w #[y0,y1,y2] qc W3∧Ag (Dq w) W W3:=by
 obtain ⟨W3,e,q0,qo,qs,qB⟩:=box3 y0 y1 y2 h.k0 h.below (Nat.le_refl _)
 exact ⟨W3,e,⟨q0,(qo _ (by omega)).trans h.k1,qB⟩,by rw [qs];exact Nat.le_refl _,fun b _ hb=>qo b hb.1⟩
theorem Bq.put1 {x0 x1 x2 x3 x4 x5 x6 x7 x8 x9 xa xb xc xd:Value} (y0 y1 y2 y3 y4 y5 y6 y7 y8 y9 ya yb yc yd:Value) (h:Bq w sc #[x0,x1,x2,x3,x4,x5,x6,x7,x8,x9,xa,xb,xc,xd] W) :
  ∃ W3,((((((((((((((W.setCell ⟨w.heap.size + 1,0,none⟩ y0).setCell ⟨w.heap.size + 1,1,none⟩ y1).setCell ⟨w.heap.size + 1,2,none⟩ y2).setCell ⟨w.heap.size + 1,3,none⟩ y3).setCell ⟨w.heap.size + 1,4,none⟩ y4).setCell ⟨w.heap.size + 1,5,none⟩ y5).setCell ⟨w.heap.size + 1,6,none⟩ y6).setCell ⟨w.heap.size + 1,7,none⟩ y7).setCell ⟨w.heap.size + 1,8,none⟩ y8).setCell ⟨w.heap.size + 1,9,none⟩ y9).setCell ⟨w.heap.size + 1,10,none⟩ ya).setCell ⟨w.heap.size + 1,11,none⟩ yb).setCell ⟨w.heap.size + 1,12,none⟩ yc).setCell ⟨w.heap.size + 1,13,none⟩ yd)=W3 ∧
    Bq w sc #[y0,y1,y2,y3,y4,y5,y6,y7,y8,y9,ya,yb,yc,yd] W3∧Ag (Dq w) W W3:=by
 obtain ⟨W3,e,q0,qo,qs,qB,qA⟩:=put14 y0 y1 y2 y3 y4 y5 y6 y7 y8 y9 ya yb yc yd h.k1
 exact ⟨W3,e,⟨(qo _ (by omega)).trans h.k0,q0,qB _ _ h.below (by omega)⟩,qA _ (fun h=>h.2 rfl)⟩
end
theorem Dq.of {w W:World} (h:w.heap.size + 2≤W.heap.size) (b:Nat) (hb:W.heap.size≤b):Dq w b:=⟨by omega,by omega⟩
theorem kinds_cut:∀ (d:Nat) (f:Fil),kindsOk f→kindsOk (Fil.cut d f):=by
 intro d
 induction d with
 | zero=>
   intro f h
   unfold kindsOk at *
   rw [Fil.allP_eq,Bool.and_eq_true] at h
   rw [Fil.allP_eq,Bool.and_eq_true]
   refine ⟨h.1,?_⟩
   simp [Fil.cut,Fil.l]
 | succ d ih=>
   intro f h
   unfold kindsOk at *
   rw [Fil.allP_eq,Bool.and_eq_true,List.all_eq_true] at h
   rw [Fil.allP_eq,Bool.and_eq_true,List.all_eq_true]
   refine ⟨h.1,fun x hx => ?_⟩
   simp only [Fil.cut,Fil.l] at hx
   obtain ⟨y,hy,rfl⟩:=List.mem_map.1 hx
   exact ih y (h.2 y (List.mem_of_mem_take hy))
theorem kinds_few (f:Fil) (h:kindsOk f):kindsOk (Fil.few f):=by
 have hc:=kinds_cut 7 f h
 unfold Fil.few
 split
 ·unfold kindsOk at *
  rw [Fil.allP_eq,Bool.and_eq_true] at hc
  rw [Fil.allP_eq,Bool.and_eq_true]
  exact ⟨hc.1,by simp [Fil.l]⟩
 ·exact hc
theorem kinds_of_ints:∀ (n:Nat) (f:Fil),f.deep≤n→intsOk f→kindsOk f
 | 0,f,h,_=>by
   obtain ⟨k,nm,ws,a,b,l⟩:=f
   unfold Fil.deep at h
   omega
 | n + 1,f,h,hg=>by
   unfold intsOk at hg
   unfold kindsOk
   rw [Fil.allP_eq,Bool.and_eq_true,List.all_eq_true] at hg ⊢
   obtain ⟨k,nm,ws,a,b,l⟩:=f
   have hdeep:∀ x ∈ l,x.deep≤n:=fun x hx=>by
    have:=Fil.deep_mem hx
    unfold Fil.deep at h;omega
   refine ⟨?_,fun x hx=>kinds_of_ints n x (hdeep x hx) (hg.2 x hx)⟩
   have:=hg.1
   simp only [Bool.and_eq_true] at this ⊢
   exact this.1.1.1.1
theorem SetsAt.lt' {p:Nat→Prop} {w:World} {v:Value} {l:List (List ByteArray)} (h:SetsAt p w v l):SetsAt (fun b=>p b∧b < w.heap.size) w v l:=by
 obtain ⟨a,cap,hv,h1,h2,h3,h4⟩:=h
 refine ⟨a,cap,hv,h1,h2,h3,fun hl => ?_⟩
 obtain ⟨b,off,ha,hb,hp,hc⟩:=h4 hl
 refine ⟨b,off,ha,hb,⟨hp,hb⟩,fun j hj => ?_⟩
 obtain ⟨c,e1,e2,e3⟩:=hc j hj
 exact ⟨c,e1,e2.lt,e3⟩
theorem QueAt.ltQ' {p:Nat→Prop} {n:Nat} {w:World} {v:Value} {q:Que} {va vb vS f0 f1 f2 f3 f4 f5 vh vo:Value} (h:QueAt p n w v q va vb vS f0 f1 f2 f3 f4 f5 vh vo):QueAt (fun b=>p b∧b < w.heap.size) n w v q va vb vS f0 f1 f2 f3 f4 f5 vh vo:=
 ⟨h.e,h.aggs.lt,h.mets,h.names.lt,h.small,h.sets.lt',h.fil.lt,h.conds.lt,h.keys.lt⟩
theorem QueAt.words {p:Nat→Prop} {n:Nat} {w:World} {v:Value} {q:Que} {va vb vS f0 f1 f3 f4 f5 vh vo:Value} {a:Option Addr} {k c:Nat} (h:QueAt p n w v q va vb vS f0 f1 (.slice a k c) f3 f4 f5 vh vo):k=q.fil.words.length:=by
 have:=h.fil
 cases n with
 | zero=>exact this.elim
 | succ n=>
   obtain ⟨vw,a',cap,hv,_,hs,_⟩:=this
   obtain ⟨x,y,rfl,_⟩:=slp_len hs
   simp only [Value.agg.injEq,Array.mk.injEq,List.cons.injEq,and_true,Value.slice.injEq] at hv
   exact hv.2.2.1.2.1
theorem FilAt.lower {p:Nat→Prop}:∀ {m n:Nat} {w:World} {v:Value} {f:Fil},f.deep≤m→FilAt p n w v f→FilAt p m w v f
 | _,0,_,_,_,_,h=>h.elim
 | 0,n + 1,_,_,f,hd,_=>by rw [Fil.deep_eq] at hd;omega
 | m + 1,n + 1,w,v,f,hd,h=>by
   obtain ⟨vw,a,cap,hv,h1,h2,h3,h4,h5,h6⟩:=h
   refine ⟨vw,a,cap,hv,h1,h2,h3,h4,h5,fun hl => ?_⟩
   obtain ⟨b,off,ha,hb,hp,hc⟩:=h6 hl
   refine ⟨b,off,ha,hb,hp,fun j hj => ?_⟩
   obtain ⟨c0,c1,c2,c3,c4,c5,hf,e⟩:=hc j hj
   refine ⟨c0,c1,c2,c3,c4,c5,FilAt.lower ?_ hf,e⟩
   have:=Fil.deep_mem (List.getElem_mem hj)
   rw [Fil.deep_eq] at hd
   omega
theorem QueAt.lower {p:Nat→Prop} {n m:Nat} {w:World} {v:Value} {q:Que} {va vb vS f0 f1 f2 f3 f4 f5 vh vo:Value} (h:QueAt p n w v q va vb vS f0 f1 f2 f3 f4 f5 vh vo) (hd:q.fil.deep≤m):QueAt p m w v q va vb vS f0 f1 f2 f3 f4 f5 vh vo:=
 ⟨h.e,h.aggs,h.mets,h.names,h.small,h.sets,h.fil.lower hd,h.conds,h.keys⟩
theorem check_deep {s:Tess.Sch} {q:Que} (hc:Que.check s q=0):q.fil.deep≤100:=by
 unfold Que.check at hc
 split at hc
 ·split at hc
  ·split at hc
   ·cases hc
   ·have:=((Fil.check0 s q.fil).1 hc).2.2.1;omega
  ·cases hc
 ·cases hc
set_option maxRecDepth 100000 in
set_option maxHeartbeats 16000000 in
theorem QueryTyped_any {vs0 v:Value} {s0:Tess.Sch} {q0:Que} (w:World) (hV:Vy w∧∃ a0 a1,Vars a0 a1 w) (hs0:SchAt (fun _=>True) w vs0 s0) (hq:QueOk15 w v q0):Calls Tryz.prog 10 #[vs0,v] w fun e w'=>e = .returned (.bool true)∧Below w.heap.size w w':=by
 obtain ⟨hV,a0,a1,hVa⟩:=hV
 obtain ⟨⟨n,va,vb,vs,f0,f1,f2,f3,f4,f5,vh,vo,hqa⟩,hI,hE,hL,hC,hK⟩:=hq
 have hsm:=small_few hI hE hL hC hK
 have hKF:kindsOk (Que.few q0).fil:=kinds_few _ (kinds_of_ints _ _ (Nat.le_refl _) hI)
 have hcr:∀ c ∈ (Que.few q0).conds,-9223372036854775808≤c.n∧c.n≤9223372036854775807:=fun c hc=>(hC c (List.mem_of_mem_take hc)).2.2
 clear hI hE hL hC hK
 have hs:=hs0.ltS
 obtain ⟨vd,vm,rfl,hd,hm,hd1,hm1⟩:=hs
 have HS:=Lib.hid (show SchAt (fun b=>True∧b < w.heap.size) w (.agg #[vd,vm,.int .i64 s0.grain]) s0 from ⟨vd,vm,rfl,hd,hm,hd1,hm1⟩)
 obtain ⟨ad,capd,rfl,_⟩:=slp_len hd
 obtain ⟨am,capm,rfl,_⟩:=slp_len hm
 have HSH:=Lib.hid (fun W (h:Below w.heap.size w W)=>shown15_any W (hV.below h))
 have HFW:=Lib.hid (fun W (h:Below w.heap.size w W)=>few15_any (fun b=>True∧b < w.heap.size) n v q0 va vb vs f0 f1 f2 f3 f4 f5 vh vo W (hqa.ltQ'.ag (Ag.new _ h)))
 unfold FewPost at HFW
 obtain ⟨q,hqe⟩:∃ q,Que.few q0=q:=⟨_,rfl⟩
 rw [hqe] at HFW hsm hKF hcr
 have HPR:=Lib.hid (fun (p:Nat→Prop) va vb vs f0 f1 f2 f3 f4 f5 vh vo v W (h:Below w.heap.size w W) (hq:QueAt p 8 W v q va vb vs f0 f1 f2 f3 f4 f5 vh vo)=>print_any p 8 v q va vb vs f0 f1 f2 f3 f4 f5 vh vo W (hV.below h) hq hsm)
 have hsz:(Tok.ofL (Tess.Wr.written q)).size≤9223372036854775807:=by rw [Tok.size_ofL];have:=hsm.w;omega
 have HP2:=Lib.hid (fun W (h:Below w.heap.size w W)=>parse_any (Tok.ofL (Tess.Wr.written q)) W (hV.below h) hsz)
 unfold ParsePost at HP2
 obtain ⟨s,hse⟩:∃ s,cutSch s0=s:=⟨_,rfl⟩
 have HCU:=Lib.hid (fun W (h:Below w.heap.size w W)=>cutSch_any _ s0 W _ (HS.out.ag (Ag.new _ h)))
 rw [hse] at HCU
 have HCK:=Lib.hid (fun (p:Nat→Prop) n vs v va vb vS f0 f1 f2 f3 f4 f5 vh vo W (h:Below w.heap.size w W) (hs:SchAt p W vs s) (hq:QueAt p n W v q va vb vS f0 f1 f2 f3 f4 f5 vh vo) (hn:n≤100)=>qcheck_any a0 a1 p n vs v s q va vb vS f0 f1 f2 f3 f4 f5 vh vo W (hVa.below h) hs hq hn hKF)
 obtain ⟨z1,y1,z2,y2,z3,y3,z4,n4,y4,z5,y5,z6,y6,z7,y7,rfl,rfl,rfl,rfl,rfl,rfl,rfl,rfl,rfl,rfl,rfl⟩:=hqa.shapesS
 have hve:=hqa.e
 subst hve
 have hTN:=fun hc=>Tess.Prs.typed_none (s:=s) (q:=q) hc hcr
 clear hqa hsz hsm hqe hse hV hVa hd hm hd1 hm1 hs0 hKF hcr HS
 obtain ⟨k0,k1,kS,kB⟩:=laid2 w (.cells #[.slice ad s0.dims.length capd,.slice am s0.mets.length capm,.int .i64 s0.grain] 24) (.cells #[.slice z1 q0.aggs.length y1,.slice z2 q0.names.length y2,.int .i64 q0.mode,.slice z3 q0.sets.length y3,.int .i64 q0.every,.int .i64 q0.fil.kind,.string q0.fil.name,.slice z4 n4 y4,.int .i64 q0.fil.frm,.int .i64 q0.fil.to,.slice z5 q0.fil.l.length y5,.slice z6 q0.conds.length y6,.slice z7 q0.keys.length y7,.int .i64 q0.limit] 35)
 obtain ⟨W0,hW0⟩:∃ W0,(w.alloc (.cells #[.slice ad s0.dims.length capd,.slice am s0.mets.length capm,.int .i64 s0.grain] 24)).alloc (.cells #[.slice z1 q0.aggs.length y1,.slice z2 q0.names.length y2,.int .i64 q0.mode,.slice z3 q0.sets.length y3,.int .i64 q0.every,.int .i64 q0.fil.kind,.string q0.fil.name,.slice z4 n4 y4,.int .i64 q0.fil.frm,.int .i64 q0.fil.to,.slice z5 q0.fil.l.length y5,.slice z6 q0.conds.length y6,.slice z7 q0.keys.length y7,.int .i64 q0.limit] 35)=W0:=⟨_,rfl⟩
 rw [hW0] at k0 k1 kS kB
 have HX0:=Lib.hid (show Bq w _ _ W0 from ⟨k0,k1,kB⟩)
 clear k0 k1 kS kB
 go_enter Tryz.func10,Tryz.ntmps10
 go_wp2_with (fail)
 go_at_call 27
 refine (HSH.out _ HX0.out.below).mono ?_
 rintro e W1 ⟨rfl,hB1⟩
 have HX1:=Lib.hid (HX0.out.later hB1)
 clear hB1 HX0 hW0
 obtain ⟨⟨x0,x1,x2⟩,x3,x4,x5⟩:=can3 HX1.out.k0
 go_wp2_with (fail)
 go_at_call 12
 refine (HCU.out _ HX1.out.below).mono ?_
 rintro e W2 ⟨vs',rfl,hs2,hB2⟩
 have HX2:=HX1.out.later hB2
 have hs2:=hs2.weak (q:=Dq w) (Dq.of HX1.out.lt)
 obtain ⟨vd',vm',rfl,hd,hm,hd1,hm1⟩:=hs2
 have HS2:=Lib.hid (show SchAt (Dq w) W2 (.agg #[vd',vm',.int .i64 s.grain]) s from ⟨vd',vm',rfl,hd,hm,hd1,hm1⟩)
 obtain ⟨ad',capd',rfl,_⟩:=slp_len hd
 obtain ⟨am',capm',rfl,_⟩:=slp_len hm
 obtain ⟨W3,hW3,HX3,hA3⟩:=HX2.put0 (.slice ad' s.dims.length capd') (.slice am' s.mets.length capm') (.int .i64 s.grain)
 have HS3:=Lib.hid (HS2.out.ag hA3)
 have HX3:=Lib.hid HX3
 clear x0 x1 x2 x3 x4 x5 hd hm hd1 hm1 hB2 HS2 hA3 HX1 HCU
 obtain ⟨⟨x0,x1,x2⟩,x3,x4,x5⟩:=can3 HX2.k0
 obtain ⟨y0,y1,y2,y3,y4,y5,y6,y7,y8,y9,ya,yb,yc,yd⟩:=(can14 HX3.out.k1).1
 clear HX2
 go_wp2_with (fail)
 go_at_call 13
 refine (HFW.out _ HX3.out.below).mono ?_
 rintro e W4 ⟨v',u0,u1,u2,u3,u4,u5,u6,u7,u8,u9,ua,rfl,hq4,_,hB4⟩
 have hX4:=HX3.out.later hB4
 have hq4:=hq4.weak (q:=Dq w) (fun b hb=>by
  rcases hb with hb | hb
  ·exact ⟨by have:=hb.2;omega,by have:=hb.2;omega⟩
  ·exact Dq.of HX3.out.lt b hb)
 have HS4:=Lib.hid (HS3.out.ag (Ag.new _ hB4))
 have hv4:=hq4.e
 obtain ⟨a1,ac1,a2,ac2,a3,ac3,a4,an4,ac4,a5,ac5,a6,ac6,a7,ac7,rfl,rfl,rfl,rfl,rfl,rfl,rfl,rfl,rfl,rfl,rfl⟩:=hq4.shapesS
 have hwl:=hq4.words
 subst hwl
 subst hv4
 clear hB4 x0 x1 x2 x3 x4 x5 y0 y1 y2 y3 y4 y5 y6 y7 y8 y9 ya yb yc yd hW3 HS3 HX3 HFW
 obtain ⟨W5,hW5,hX5,hA5⟩:=hX4.put1 (.slice a1 q.aggs.length ac1) (.slice a2 q.names.length ac2) (.int .i64 q.mode) (.slice a3 q.sets.length ac3) (.int .i64 q.every) (.int .i64 q.fil.kind) (.string q.fil.name) (.slice a4 q.fil.words.length ac4) (.int .i64 q.fil.frm) (.int .i64 q.fil.to) (.slice a5 q.fil.l.length ac5) (.slice a6 q.conds.length ac6) (.slice a7 q.keys.length ac7) (.int .i64 q.limit)
 obtain ⟨y0,y1,y2,y3,y4,y5,y6,y7,y8,y9,ya,yb,yc,yd⟩:=(can14 hX4.k1).1
 have zf:=(can14 hX4.k1).2
 have zz0:=zf 0 (by omega)
 have zz1:=zf 1 (by omega)
 have zz2:=zf 2 (by omega)
 have zz3:=zf 3 (by omega)
 have zz4:=zf 4 (by omega)
 have zz5:=zf 5 (by omega)
 have zz6:=zf 6 (by omega)
 have zz7:=zf 7 (by omega)
 have zz8:=zf 8 (by omega)
 have zz9:=zf 9 (by omega)
 have zza:=zf 10 (by omega)
 have zzb:=zf 11 (by omega)
 have zzc:=zf 12 (by omega)
 have zzd:=zf 13 (by omega)
 clear zf
 have HS5:=Lib.hid (HS4.out.ag hA5)
 have HQ5:=Lib.hid (hq4.ag hA5)
 have HX5:=Lib.hid hX5
 obtain ⟨x0,x1,x2⟩:=(can3 hX5.k0).1
 obtain ⟨v0,v1,v2,v3,v4,v5,v6,v7,v8,v9,va,vb,vc,vd⟩:=(can14 hX5.k1).1
 clear hX4 hq4 hX5 hA5 HS4
 go_wp2_with (fail)
 go_at_call 28
 refine (HCK.out _ 8 _ _ _ _ _ _ _ _ _ _ _ _ _ W5 HX5.out.below HS5.out HQ5.out (by omega)).mono ?_
 rintro e W6 ⟨rfl,hB6⟩
 have HX6:=Lib.hid (HX5.out.later hB6)
 have HS6:=Lib.hid (HS5.out.ag (Ag.new _ hB6))
 have HQ6:=Lib.hid (HQ5.out.ag (Ag.new _ hB6))
 clear hB6 x0 x1 x2 v0 v1 v2 v3 v4 v5 v6 v7 v8 v9 va vb vc vd y0 y1 y2 y3 y4 y5 y6 y7 y8 y9 ya yb yc yd zz0 zz1 zz2 zz3 zz4 zz5 zz6 zz7 zz8 zz9 zza zzb zzc zzd hW5 HX5 HS5 HQ5
 by_cases hck:Que.check s q=0
 ·have hTN:=hTN hck
  have HDP:=Lib.hid (check_deep hck)
  rw [hck] at HCK ⊢
  clear hck
  obtain ⟨v0,v1,v2,v3,v4,v5,v6,v7,v8,v9,va,vb,vc,vd⟩:=(can14 HX6.out.k1).1
  by_cases hw:Tess.Prs.parse (Tok.ofL (Tess.Wr.written q))=(q,0,0)
  ·rw [Tess.Prs.print_some hw] at HPR
   rw [hw] at HP2
   simp only at HP2 HPR
   generalize Tok.ofL (Tess.Wr.written q)=T at *
   clear hw hTN
   go_wp2_with (fail)
   go_at_call 29
   refine (HPR.out _ _ _ _ _ _ _ _ _ _ _ _ _ W6 HX6.out.below HQ6.out).mono ?_
   rintro e W7 ⟨rfl,hB7⟩
   have HX7:=Lib.hid (HX6.out.later hB7)
   have HS7:=Lib.hid (HS6.out.ag (Ag.new _ hB7))
   have HQ7:=Lib.hid (HQ6.out.ag (Ag.new _ hB7))
   clear hB7 v0 v1 v2 v3 v4 v5 v6 v7 v8 v9 va vb vc vd HX6 HS6 HQ6 HPR
   go_wp2_with (fail)
   go_at_call 30
   refine (HP2.out _ HX7.out.below).mono ?_
   rintro e w8 ⟨u0,u1,u2,u3,u4,u5,u6,u7,u8,u9,ua,rfl,hq8,hB8⟩
   have HQ8:=Lib.hid hq8
   obtain ⟨b1,bc1,b2,bc2,b3,bc3,b4,bn4,bc4,b5,bc5,b6,bc6,b7,bc7,rfl,rfl,rfl,rfl,rfl,rfl,rfl,rfl,rfl,rfl,rfl⟩:=hq8.shapesS
   obtain ⟨m1,m2,m3⟩:=laid1 w8 (.cells #[.slice b1 q.aggs.length bc1,.slice b2 q.names.length bc2,.int .i64 q.mode,.slice b3 q.sets.length bc3,.int .i64 q.every,.int .i64 q.fil.kind,.string q.fil.name,.slice b4 bn4 bc4,.int .i64 q.fil.frm,.int .i64 q.fil.to,.slice b5 q.fil.l.length bc5,.slice b6 q.conds.length bc6,.slice b7 q.keys.length bc7,.int .i64 q.limit] 35)
   obtain ⟨W8,hW8⟩:∃ W8,w8.alloc (.cells #[.slice b1 q.aggs.length bc1,.slice b2 q.names.length bc2,.int .i64 q.mode,.slice b3 q.sets.length bc3,.int .i64 q.every,.int .i64 q.fil.kind,.string q.fil.name,.slice b4 bn4 bc4,.int .i64 q.fil.frm,.int .i64 q.fil.to,.slice b5 q.fil.l.length bc5,.slice b6 q.conds.length bc6,.slice b7 q.keys.length bc7,.int .i64 q.limit] 35)=W8:=⟨_,rfl⟩
   rw [hW8] at m1 m2 m3
   have hB78:=Bt hB8 m3
   have HX8:=Lib.hid (HX7.out.later hB78)
   have HS8:=Lib.hid ((HS7.out.ag (Ag.new _ hB78)).weak (q:=fun _=>True) (fun _ _=>trivial))
   have HO8:=Lib.hid (HQ7.out.ag (Ag.new _ hB78))
   have HQ8:=Lib.hid ((hq8.ag (Ag.new _ m3)).weak (q:=fun _=>True) (fun _ _=>trivial))
   have HK8:=Lib.hid m1
   clear hq8 hB8 m1 m2 m3 hB78 HX7 HS7 HQ7 HP2
   obtain ⟨x0,x1,x2⟩:=(can3 HX8.out.k0).1
   obtain ⟨c0,c1,c2,c3,c4,c5,c6,c7,c8,c9,ca,cb,cc,cd⟩:=(can14 HK8.out).1
   go_wp2_with (fail)
   go_at_call 28
   refine (HCK.out _ 100 _ _ _ _ _ _ _ _ _ _ _ _ _ W8 HX8.out.below HS8.out (HQ8.out.lower HDP.out) (by omega)).mono ?_
   rintro e W9 ⟨rfl,hB9⟩
   have HX9:=Lib.hid (HX8.out.later hB9)
   have HK9:=Lib.hid ((hB9.block _ (Array.getElem?_eq_some_iff.1 HK8.out).1).trans HK8.out)
   have HSM:=Lib.hid (qsame_any _ _ 1000000 8 _ _ q q _ _ _ _ _ _ _ _ _ _ _ _ _ _ _ _ _ _ _ _ _ _ W9 (HQ8.out.ag (Ag.new _ hB9)) (HO8.out.ag (Ag.new _ hB9)))
   rw [sameQ_true rfl] at HSM
   clear hB9 x0 x1 x2 c0 c1 c2 c3 c4 c5 c6 c7 c8 c9 ca cb cc cd HX8 HS8 HO8 HQ8 HK8 HCK
   obtain ⟨v0,v1,v2,v3,v4,v5,v6,v7,v8,v9,va,vb,vc,vd⟩:=(can14 HX9.out.k1).1
   obtain ⟨c0,c1,c2,c3,c4,c5,c6,c7,c8,c9,ca,cb,cc,cd⟩:=(can14 HK9.out).1
   go_wp2_with (go_at_call 31;refine HSM.out.mono ?_;rintro e W10 ⟨rfl,hb⟩;have HBA:=Lib.hid (Bt HX9.out.below hb);clear hb)
   go_ret
   exact ⟨rfl,HBA.out⟩
  ·rw [Tess.Prs.print_none hw] at HPR
   simp only at HPR
   have hTN:=hTN hw
   clear hw HP2
   go_wp2_with (fail)
   go_at_call 29
   refine (HPR.out _ _ _ _ _ _ _ _ _ _ _ _ _ W6 HX6.out.below HQ6.out).mono ?_
   rintro e W7 ⟨rfl,hB7⟩
   have HX7:=Lib.hid (HX6.out.later hB7)
   have HS7:=Lib.hid (HS6.out.ag (Ag.new _ hB7))
   have HQ7:=Lib.hid (HQ6.out.ag (Ag.new _ hB7))
   clear hB7 v0 v1 v2 v3 v4 v5 v6 v7 v8 v9 va vb vc vd HX6 HS6 HQ6 HPR
   obtain ⟨v0,v1,v2,v3,v4,v5,v6,v7,v8,v9,va,vb,vc,vd⟩:=(can14 HX7.out.k1).1
   have hTN:decide ((0:Int) < (q.fil.l.length:Int))=true∨(decide ((0:Int) < (q.fil.l.length:Int))=false∧(decide ((0:Int) < (q.fil.words.length:Int))=true∨(decide ((0:Int) < (q.fil.words.length:Int))=false∧q.names.length=0))):=by
    rcases hTN with h | h | h
    ·left;simp only [decide_eq_true_eq];have:=List.length_pos_iff.2 h;omega
    ·by_cases hl:(0:Int) < (q.fil.l.length:Int)
     ·left;simpa using hl
     ·right;refine ⟨by simpa using hl,Or.inl ?_⟩;simp only [decide_eq_true_eq];have:=List.length_pos_iff.2 h;omega
    ·by_cases hl:(0:Int) < (q.fil.l.length:Int)
     ·left;simpa using hl
     ·right;refine ⟨by simpa using hl,?_⟩
      by_cases h2:(0:Int) < (q.fil.words.length:Int)
      ·left;simpa using h2
      ·right;exact ⟨by simpa using h2,by rw [h];rfl⟩
   rcases hTN with h | ⟨h,h2 | ⟨h2,h3⟩⟩
   ·have h':(0:Int) < (q.fil.l.length:Int):=by simpa using h
    have hn':0 < q.fil.l.length:=by omega
    go_wp2
    go_ret
    exact ⟨rfl,HX7.out.below⟩
   ·have h':¬ (0:Int) < (q.fil.l.length:Int):=by simpa using h
    have h2':(0:Int) < (q.fil.words.length:Int):=by simpa using h2
    have hn':¬ 0 < q.fil.l.length:=by omega
    have hn2':0 < q.fil.words.length:=by omega
    go_wp2
    go_ret
    exact ⟨rfl,HX7.out.below⟩
   ·have h':¬ (0:Int) < (q.fil.l.length:Int):=by simpa using h
    have h2':¬ (0:Int) < (q.fil.words.length:Int):=by simpa using h2
    have h3':((q.names.length:Int) == 0)=true:=by rw [h3];rfl
    have hn':¬ 0 < q.fil.l.length:=by omega
    have hn2':¬ 0 < q.fil.words.length:=by omega
    go_wp2
    go_ret
    exact ⟨rfl,HX7.out.below⟩
 ·have hE1:((Que.check s q:Nat):Int)≠0:=by omega
  have hE2:(((Que.check s q:Nat):Int) != 0)=true:=by rw [bne_iff_ne];exact hE1
  clear hck hTN HCK
  go_wp2
  go_ret
  exact ⟨rfl,HX6.out.below⟩
end Go.Proofs.YtbbgjjjeecfnoaaGreatDoor
