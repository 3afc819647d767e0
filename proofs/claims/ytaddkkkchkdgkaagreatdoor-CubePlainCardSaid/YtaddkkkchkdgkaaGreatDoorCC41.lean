/- A folder's groups, where nothing is wrong: fold, walked. -/
import Derived.Test.YtaddkkkchkdgkaaGreatDoorCC40
import Derived.Test.YtaddkkkchkdgkaaGreatDoorCC19
namespace Go.Proofs.YtaddkkkchkdgkaaGreatDoor
open Go.RowKit Go.Sort Go.Shelf
open Tess (CK Pay PO CO2 CO Que Fil gP)
attribute [local go_sem] Oper.semAt_some
theorem SA.ltK {p:Nat→Prop} {w:World} {v:Value} {s:Tess.Sch} (h:SA p w v s):SA (fun b=>p b∧b < w.heap.size) w v s:=by
 obtain ⟨vd,vm,e1,e2,e3,e4,e5⟩:=h
 exact ⟨vd,vm,e1,e2.lt,e3.lt,e4,e5⟩
theorem CA3.ltK {p:Nat→Prop} {w:World} {v:Value} {l:List (CK×Pay)} (h:CA3 p w v l):CA3 (fun b=>p b∧b < w.heap.size) w v l:=by
 obtain ⟨a,c,hv,h1,h2,h3,h4⟩:=h
 refine ⟨a,c,hv,h1,h2,h3,fun hl => ?_⟩
 obtain ⟨b,Aa,ha,hb,hp,hc⟩:=h4 hl
 exact ⟨b,Aa,ha,hb,⟨hp,hb⟩,fun j hj=>let ⟨cs,h5,h6,h7⟩:=hc j hj;⟨cs,h5,cn2.lt h6,h7⟩⟩
theorem PartsAt.ltK {p:Nat→Prop} {w:World} {v:Value} {l:List (List (CK×Pay))} (h:PartsAt p w v l):PartsAt (fun b=>p b∧b < w.heap.size) w v l:=by
 obtain ⟨a,c,hv,h1,h2,h3,h4⟩:=h
 refine ⟨a,c,hv,h1,h2,h3,fun hl => ?_⟩
 obtain ⟨b,Aa,ha,hb,hp,hc⟩:=h4 hl
 exact ⟨b,Aa,ha,hb,⟨hp,hb⟩,fun j hj=>let ⟨cs,h5,⟨u,h6,h8⟩,h7⟩:=hc j hj;⟨cs,h5,⟨u,h6,h8.ltK⟩,h7⟩⟩
theorem prt_list {p:Nat→Prop} {B:Nat} {s0 s1 s2:Value} {s:Tess.Sch} {pts:List (List (CK×Pay))} {a:Option Addr} {cap:Nat} {W:World} (h0:W.cell? ⟨B,14,none⟩=some s0) (h1:W.cell? ⟨B,15,none⟩=some s1) (h2:W.cell? ⟨B,16,none⟩=some s2) (hs:SA p W (.agg #[s0,s1,s2]) s) (hp:PartsAt p W (.slice a pts.length cap) pts) (hok:∀ C ∈ pts,CO s C):prtList B pts.length a W:=by
 intro k hk
 obtain ⟨a',Ad,e,_,_,_,hc⟩:=LA.open hp
 simp only [Value.slice.injEq] at e
 obtain ⟨rfl,_,rfl⟩:=e
 obtain ⟨b,Ac,ha,hb,_,cs,_,⟨u,rfl,Ab⟩,Aa⟩:=hc k hk
 have hB:=World.block_lt_of_cell? W _ h0
 refine ⟨b,Ac,ha,hb,u,by simpa using Aa 0 (by omega),fun W' hW' => ?_⟩
 exact fold1_any B p s0 s1 s2 u s pts[k] W' ((hW'.cell (p:=⟨B,14,none⟩) hB).trans h0) ((hW'.cell (p:=⟨B,15,none⟩) hB).trans h1) ((hW'.cell (p:=⟨B,16,none⟩) hB).trans h2) (hs.ag (Ag.new _ hW')) (Ab.ag (Ag.new _ hW')) (hok _ (List.getElem_mem hk))
theorem one_grp {p:Nat→Prop} {W:World} {cs:List Value} {x:Grp} (h:GA2 p W cs x):GA3 (fun b=>p b∨b=W.heap.size) (W.alloc (.cells cs.toArray 56)) (.slice (some ⟨W.heap.size,0,none⟩) 1 1) [x]:=
 ⟨_,1,rfl,(by decide:(1:Nat)≤maxLen),Nat.le_refl _,(fun e=>by cases e),fun _=>⟨W.heap.size,0,rfl,by simp,.inr rfl,fun j hj=>by
   have hj:j < 1:=hj
   obtain rfl:j=0:=by omega
   refine ⟨cs,gn2.len h,(gn2.ag h (Ag.new _ (la2 _ _).2.2)).weak fun _ h => .inl h,fun i hi => ?_⟩
   rw [cell_of_row _ _ _ _ _ _ (heap_alloc_new _ _),List.getElem?_toArray]
   simp⟩⟩
theorem GS.S_lt {T:Lib.PrintTabs} {N gb mb:Nat} {W:World} {v:Value} {us:List (List Value)} {V:ByteArray→RowV} {L:List Grp} (h:GS T N gb mb W v us V L) {b:Nat} (hb:GS.S gb mb v V b):b < W.heap.size:=by
 have h1:=h.gbN
 have h2:=h.mbN
 have h3:=h.NW
 rcases hb with rfl | rfl | hb | ⟨s,r,hr,rfl⟩
 ·omega
 ·omega
 ·exact (h.own.own.lt b hb).2
 ·exact (h.rL2 hr).2
theorem dim_names {s:Tess.Sch} {q:Que} (hc:Que.check s q=0):∀ y ∈ q.names,(Tess.dimW s y).1 < s.dims.length:=by
 intro y hy
 obtain ⟨_,h,_⟩:=Tess.cc2 hc
 unfold Que.isOf at h
 simp only [Bool.and_eq_true] at h
 exact dim_lt s y (List.all_eq_true.1 h.1.1.1.2 y hy)
section
variable {s:Tess.Sch} {q:Que} {set:Nat}
theorem tot_le {xs:List (CK×Pay)} {M:Int} (hx:∀ x ∈ xs,1≤x.2.n) (h:(xs.map (·.2.n)).sum≤M) (k:Nat):((xs.take k).map (·.2.n)).sum≤M:=by
 have h1:((xs.take k).map (·.2.n)).sum + ((xs.drop k).map (·.2.n)).sum=(xs.map (·.2.n)).sum:=by rw [← List.sum_append_int,← List.map_append,List.take_append_drop]
 have h2:=(Tess.lls (l:=xs.drop k) fun x hx'=>hx x (List.mem_of_mem_drop hx')).1
 omega
end
theorem lf85 {W:World} {b:Nat} {cs:Array Value} (h:W.heap[b]? = some (.cells cs 92 (0,0))) (hn:cs.size=19):(Instr.loadAt 92 (.pointer (some ⟨b,0,none⟩))).run Tryz.prog W = .ok (.agg cs) W:=by
 simp only [Instr.loadAt,Instr.sureAddr,Sem.run_bind,Sem.run_pure,Result.andThen_ok,run_loadVar_row (P:=Tryz.prog) W b 92 92 cs (0,0) _ h Tryz.underlying92 rfl (by rw [hn];kernel_rfl)]
theorem wpIn_ld {n:Nat} {d:Tmp} {ty t:TypeId} {x:Operand} {ps:String} {af:Array Edge} {a:Act} {w:World} {v:Value} {K:Act→World→Prop} {Q:Exit→Act→World→Prop} (hl:(Instr.loadAt ty (a.eval x)).run Tryz.prog w = .ok v w) (h:K (a.put (some d) v) w) :
  ({ dst:=some d,op:=Op.load ty x,type:=t,pos:=ps,after:=af,guard:=none }:Oper).wpIn Fence.wide n Tryz.prog a w K Q:=
 Flow.wIo (by unfold Flow.yields;simp only [execOp,Sem.run_bind,hl,Result.andThen_ok,Sem.run_pure];exact h)
theorem wpInR_ld {n lr:Nat} {d:Tmp} {ty t:TypeId} {x:Operand} {ps:String} {af:Array Edge} {a:Act} {w:World} {v:Value} {K:Act→World→Prop} {Q:Exit→Act→World→Prop} (hl:(Instr.loadAt ty (a.eval x)).run Tryz.prog w = .ok v w) (h:K (a.put (some d) v) w) :
  ({ dst:=some d,op:=Op.load ty x,type:=t,pos:=ps,after:=af,guard:=none }:Oper).wpIn (Fence.wide.inRound lr) n Tryz.prog a w K Q:=
 Flow.wIR2 (fun c e=>by cases e) (by unfold Flow.yields;simp only [execOp,Sem.run_bind,hl,Result.andThen_ok,Sem.run_pure];exact h)
theorem run_makeG (W:World):(Instr.makeMap 99 none).run Tryz.prog W = .ok (.map (some W.heap.size)) (W.alloc (.map #[] 0)):=by kernel_rfl
theorem made4 (w W3:World) (fc:Array Value) (hk3:W3.heap[w.heap.size]? = some (.cells fc 92 (0,0))) (ho3:W3.heap[w.heap.size + 1]? = some (.cells #[.slice none 0 0,.map none] 101 (0,0))) (hs3:w.heap.size + 2≤W3.heap.size) (hB:Below w.heap.size w W3) :
  (W3.alloc (.map #[] 0)).cell? ⟨w.heap.size + 1,0,none⟩=some (.slice none 0 0)∧(W3.alloc (.map #[] 0)).cell? ⟨w.heap.size + 1,1,none⟩=some (.map none)∧(W3.alloc (.map #[] 0)).frozen? ⟨w.heap.size + 1,0,none⟩=false∧(W3.alloc (.map #[] 0)).frozen? ⟨w.heap.size + 1,1,none⟩=false ∧
  ∃ W4,(W3.alloc (.map #[] 0)).setCell ⟨w.heap.size + 1,1,none⟩ (.map (some W3.heap.size))=W4∧W4.heap[w.heap.size + 1]? = some (.cells #[.slice none 0 0,.map (some W3.heap.size)] 101 (0,0))∧W4.heap[W3.heap.size]? = some (.map #[] 0)∧W4.heap[w.heap.size]? = some (.cells fc 92 (0,0))∧W4.heap.size=W3.heap.size + 1∧Below w.heap.size w W4:=by
 obtain ⟨m1,mS,mB⟩:=la2 W3 (.map #[] 0)
 have Aa:=(mB.block _ (Array.getElem?_eq_some_iff.1 ho3).1).trans ho3
 obtain ⟨⟨o0,o1⟩,Ad,Ab⟩:=can2 Aa
 have Ac:=(mB.block _ (Array.getElem?_eq_some_iff.1 hk3).1).trans hk3
 refine ⟨o0,o1,Ad,Ab,_,rfl,heap_setCell_same _ _ 1 _ _ (.map (some W3.heap.size)) Aa,?_,?_,?_,?_⟩
 ·rw [heap_setCell_other _ _ _ _ (show W3.heap.size≠w.heap.size + 1 by omega)];exact m1
 ·rw [heap_setCell_other _ _ _ _ (show w.heap.size≠w.heap.size + 1 by omega)];exact Ac
 ·rw [sCs];exact mS
 ·exact (hB.trans (mB.mono (by omega))).setCell (by show _≤w.heap.size + 1;omega) _
set_option maxRecDepth 100000 in
set_option maxHeartbeats 16000000 in
theorem foldGood_any {T:Lib.PrintTabs} (a0 a1:Addr) (p:Nat→Prop) (n:Nat) (s:Tess.Sch) (q:Que) (set:Nat) (pts:List (List (CK×Pay))) (va vb vS f0 f1 f2 f3 f4 f5 vh vo s0 s1 vp:Value) (w:World) (hV:Vars a0 a1 w) (hVn:∀ w',Below w.heap.size w w'→Vn T w') (hs:SA p w (.agg #[s0,s1,.int .i64 s.grain]) s) (hq:QA p n w (.agg #[va,vb,.int .i64 q.mode,vS,.int .i64 q.every,f0,f1,f2,f3,f4,f5,vh,vo,.int .i64 q.limit]) q va vb vS f0 f1 f2 f3 f4 f5 vh vo) (hn:n≤100) (hK:kO2 q.fil) (hnm:q.names.length≤10) (hp:PartsAt p w vp pts) (hpl:pts.length≤13)
  (hck:Que.check s q=0) (hset:set < 2 ^ q.names.length) (hok:∀ C ∈ pts,CO s C) (htot:(pts.flatten.map (·.2.n)).sum≤1000) :
  Calls Tryz.prog 34 #[.agg (folC va vb vS f0 f1 f2 f3 f4 f5 vh vo s0 s1 vp q s.grain (set:Nat))] w fun e w' => ∃ v,e = .returned (.tuple #[v,.nilIface])∧GA3 (fun b=>w.heap.size≤b) w' v (oS2 (set:Nat) (gP s q set pts.flatten))∧Below w.heap.size w w':=by
 obtain ⟨B9,_,Es,Cs⟩:=Tess.cc2 hck
 have Ad:∀ x ∈ pts.flatten,CO2 s x:=fun x hx=>by
  obtain ⟨C,hC,hx⟩:=List.mem_flatten.1 hx
  exact (hok C hC).each x hx
 have Bw:RowKit.Hid (∀ x ∈ pts.flatten.filter (inF s q),CO2 s x):=Hd fun x hx=>Ad x (List.mem_filter.1 hx).1
 have Ab:∀ x ∈ pts.flatten,1≤x.2.n:=fun x hx=>(Ad x hx).pay.one
 have Al:RowKit.Hid (∀ k,totG (((pts.flatten.filter (inF s q)).take k).map (gO3 s q set))≤1000):=Hd fun k=>by
  rw [totG_map]
  exact tot_le (fun x hx=>Ab x (List.mem_filter.1 hx).1) (Int.le_trans (tf2 _ _ Ab) htot) k
 have Bk:RowKit.Hid (((pts.flatten.filter (inF s q)).map (gO3 s q set)).foldl putG []=pG s q set pts.flatten):=Hd rfl
 have hM:s.mets.length≤1000:=by
  have:=B9
  unfold Tess.sO2 at this
  simp only [Bool.and_eq_true,decide_eq_true_eq] at this
  omega
 have Dm:∀ x ∈ pts.flatten.filter (inF s q),GO2 s.mets.length (gO3 s q set x):=fun x hx=>grpOf_ok (Bw.out x hx) (by omega) hset
 have Bo:=Hd Dm
 clear Dm
 have A2:∀ y ∈ q.names,(Tess.dimW s y).1 < s.dims.length:=fun y hy=>dim_names hck y hy
 have Ct:=hs.ltK
 have C1:=hp.ltK
 have Bc:=hq.names.lt
 have A0:=hq.fil.lt
 have HS:=Hd Ct
 have HP:=Hd C1
 have HF:=Hd A0
 have HN:=Hd Bc
 have HV:=Hd hV
 have E3:=Hd hVn
 have Dd:=Hd hok
 have HK:=Hd hK
 have HC:=Hd (fun W (hB:Below w.heap.size w W)=>qa3 a0 a1 p n _ _ s q va vb vS f0 f1 f2 f3 f4 f5 vh vo W (hV.below hB) (hs.ag (Ag.new p hB)) (hq.ag (Ag.new p hB)) hn hK)
 rw [hck] at HC
 have Ek:RowKit.Hid (0≤q.every∧q.every≤1000000000):=Hd (by
  rcases Es with h | h
  ·omega
  ·unfold Tess.co2 Fil.gO2 at h
   simp only [Bool.and_eq_true,decide_eq_true_eq] at h
   omega)
 obtain ⟨⟨Ej,ba,bc,rfl,Eb⟩,E4,_⟩:=hq.names
 rw [List.length_map] at *
 obtain ⟨ap,cp,rfl,_,Bz,_,_⟩:=LA.open hp
 have Ce:∃ u1 u2 u3 u4,s0 = .slice u1 s.dims.length u2∧s1 = .slice u3 s.mets.length u4:=by
  obtain ⟨vd,vm,e,h1,h2,_⟩:=hs
  obtain ⟨_,_,rfl,_⟩:=sl3 h1
  obtain ⟨_,_,rfl,_⟩:=sl3 h2
  simp only [Value.agg.injEq,Array.mk.injEq,List.cons.injEq,and_true] at e
  exact ⟨_,_,_,_,e.1,e.2⟩
 obtain ⟨u1,u2,u3,u4,rfl,rfl⟩:=Ce
 obtain ⟨fc,Dz⟩:∃ fc,fc=folC va (.slice ba q.names.length bc) vS f0 f1 f2 f3 f4 f5 vh vo (.slice u1 s.dims.length u2) (.slice u3 s.mets.length u4) (.slice ap pts.length cp) q s.grain (set:Nat):=⟨_,rfl⟩
 have E5:=Hd Dz
 obtain ⟨W0,D4⟩:∃ W0,(w.alloc (.cells (folC va (.slice ba q.names.length bc) vS f0 f1 f2 f3 f4 f5 vh vo (.slice u1 s.dims.length u2) (.slice u3 s.mets.length u4) (.slice ap pts.length cp) q s.grain (set:Nat)) 92)).alloc (.cells #[.slice none 0 0,.map none] 101)=W0:=⟨_,rfl⟩
 obtain ⟨k0,k1,kS,kB⟩:=la3 w (.cells (folC va (.slice ba q.names.length bc) vS f0 f1 f2 f3 f4 f5 vh vo (.slice u1 s.dims.length u2) (.slice u3 s.mets.length u4) (.slice ap pts.length cp) q s.grain (set:Nat)) 92) (.cells #[.slice none 0 0,.map none] 101)
 rw [D4] at k0 k1 kS kB
 have Bj:=Hd k0
 have Eu:=Hd k1
 have B7:=Hd kB
 have Aw:=Hd kS
 have Cw:=Hd (fun W (hB:Below w.heap.size w W) (hk:W.heap[w.heap.size]? = some (.cells (folC va (.slice ba q.names.length bc) vS f0 f1 f2 f3 f4 f5 vh vo (.slice u1 s.dims.length u2) (.slice u3 s.mets.length u4) (.slice ap pts.length cp) q s.grain (set:Nat)) 92 (0,0)))=>by
  obtain ⟨_,⟨ye,yf,yg⟩,_,_⟩:=ca3 hk
  exact contains_prt w.heap.size pts.length ap cp W (by unfold maxLen;omega) (prt_list ye yf yg (HS.out.ag (Ag.new _ hB)) (HP.out.ag (Ag.new _ hB)) Dd.out))
 obtain ⟨p1,p2,p3⟩:=ps3 q.names.length hnm
 obtain ⟨P,hP⟩:∃ P,P=2 ^ q.names.length:=⟨_,rfl⟩
 have Bs:=Hd hset
 rw [← hP] at p1 p2 p3 hset
 obtain ⟨z,hz⟩:∃ z:Int,z=((set:Nat):Int):=⟨_,rfl⟩
 have B6:¬ z < 0:=by omega
 have Fb:¬ (P:Int)≤z:=by omega
 have E8:¬ (13:Int) < (pts.length:Int):=by omega
 simp only [← hz] at Bj k0 Cw E5
 have HZ:=Hd hz
 obtain ⟨⟨y0,y1,y2,y3,y4,y5,y6,y7,y8,y9,ya,yb,yc,yd⟩,⟨ye,yf,yg⟩,yh,yi⟩:=ca3 k0
 have E6:=Hd Cs
 have Ex:=Hd A2
 clear k0 k1 kS kB hP hs hq hp Eb E4 Ej hK hV hVn Ct C1 Bc A0 hok Ab Ad Dz hset Bz Cs A2
 refine (callsIn_wide (n:=5)).1 ?_
 refine callsIn_of_wp_marks Tryz.func34 rfl trivial ?_ rfl
 simp only [Tryz.ntmps34,List.size_toArray,List.length_cons,List.length_nil,Nat.reduceAdd,Nat.reduceSub,Array.replicate_succ,Array.replicate_zero,List.push_toArray,List.append_toArray,List.nil_append,List.cons_append]
 simp only [← hz]
 gi_wp2_with (fail)
 refine Rf.wIs ?_
 gi_wp2_with (fail)
 refine ⟨trivial,?_⟩
 gi_at_call 44
 refine (callsIn_wide.2 (HC.out W0 B7.out)).mono ?_
 rintro e W1 ⟨rfl,Ch⟩
 obtain ⟨⟨z0,z1,z2,z3,z4,z5,z6,z7,z8,z9,za,zb,zc,zd⟩,⟨ze,zf,zg⟩,zh,zi⟩:=ca3 ((Ch.block _ (by rw [Aw.out];omega)).trans Bj.out)
 have Bg:=World.block_lt_of_cell? _ _ z0
 have C4:=Hd Ch
 clear Ch y0 y1 y2 y3 y4 y5 y6 y7 y8 y9 ya yb yc yd ye yf yg yh yi D4
 gi_wp2_with (fail)
 refine Flow.wIr 11 (Flow.sp3 [.inl ?_,.inl ?_,.inl ?_,.inl ?_,.inl ?_,.inl ?_,.inl ?_,.inl ?_,.inl ?_,.inl ?_,.inl ?_]) (by kernel_rfl) (by kernel_rfl) ?_ ?_
 rotate_left 11
 ·refine Flow.sm2 ?_
  repeat (first | exact Flow.ln2 | refine Flow.li2 ?_)
 all_goals try simp only [List.take_succ_cons,List.take_zero,List.drop_succ_cons,List.drop_zero]
 iterate 11 (refine Flow.tvK rfl (fun K hK=>⟨fun w hw hG => ?_,?_⟩);(have E9:=Flow.bc4 hw;clear hG hw;unfold Flow.Runs Flow.yields;go_simp;try rfl);go_simp;refine hK _ ?_;clear hK K)
 refine Flow.tn2 fun W2 hw2 hG => ?_
 clear hG
 have Cy:=Hd (Bt C4.out hw2)
 have Av:=(hw2.block _ Bg).trans ((C4.out.block _ (by rw [Aw.out];omega)).trans Bj.out)
 clear hw2 z0 z1 z2 z3 z4 z5 z6 z7 z8 z9 za zb zc zd ze zf zg zh zi Bg
 obtain ⟨⟨z0,z1,z2,z3,z4,z5,z6,z7,z8,z9,za,zb,zc,zd⟩,⟨ze,zf,zg⟩,zh,zi⟩:=ca3 Av
 have Ef:=Hd (Cw.out W2 (Bt B7.out Cy.out) Av)
 clear Av
 gi_wp2_with (fail)
 refine ⟨trivial,?_⟩
 gi_at_call 65
 refine (callsIn_wide.2 Ef.out).mono ?_
 rintro e W3 ⟨rfl,Dg⟩
 have Ay:Below W0.heap.size W0 W3:=Bt Cy.out Dg
 have Du:=(Ay.block _ (by rw [Aw.out];omega)).trans Bj.out
 have Ds:=(Ay.block _ (by rw [Aw.out];omega)).trans Eu.out
 have Cn:w.heap.size + 2≤W3.heap.size:=by have:=Ay.size;rw [Aw.out] at this;exact this
 have Em:=run_makeG W3
 obtain ⟨o0,o1,Ew,Ey,W4,E2,Cp,Dw,Ak,Df,Cq⟩:=made4 w W3 _ Du Ds Cn (B7.out.trans (Ay.mono (by rw [Aw.out];omega)))
 have Do:=Hd Cp
 have C3:=Hd Dw
 have Ai:=Hd Df
 have Eh:=Hd Cq
 have C7:=Hd Ak
 have Aj:=Hd Cn
 clear Dg Ay Du Ds Cn Cp Dw Df Cq z0 z1 z2 z3 z4 z5 z6 z7 z8 z9 za zb zc zd ze zf zg zh zi
 have A7:=lf85 Ak rfl
 have Bg:=(Array.getElem?_eq_some_iff.1 Ak).1
 clear Ak
 iterate 30 (first | go_values | gi_guarded | gi_step | gi_upon | (simp only []) | go_simp)
 refine wpIn_ld A7 ?_
 gi_wp2_with (fail)
 subst hz
 refine ⟨trivial,?_⟩
 gi_at_call 66
 refine (callsIn_wide.2 (cells_any _ _ _ _ _ _ _ _ _ _ _ _ _ _ _ _ _ _ _ W4)).mono ?_
 rintro e w5 ⟨rfl,rfl⟩
 obtain ⟨c1,cS,cB⟩:=la2 W4 (.cells (folC va (.slice ba q.names.length bc) vS f0 f1 f2 f3 f4 f5 vh vo (.slice u1 s.dims.length u2) (.slice u3 s.mets.length u4) (.slice ap pts.length cp) q s.grain (set:Nat)) 92)
 have Ea:=Hd c1
 have Dn:=Hd cS
 have D9:=Hd cB
 clear c1 cS cB A7 Em E2 o0 o1 Ew Ey Bg
 gi_wp2_with (fail)
 refine Rf.rw2 (gf:=102) (lb:=#[.pointer (some ⟨W4.heap.size,0,none⟩)]) rfl (enters_of Tryz.func102 (by kernel_rfl) rfl) ?_
 intro fn W5 A3 hD Cg Cb
 rw [Dn.out] at A3 hD Cb ⊢
 obtain ⟨Af,Ar,A3⟩:∃ Af:Loop,Af=_∧W5.heap[W4.heap.size + 1 + 1]? = some (.loop Af):=⟨_,rfl,A3⟩
 have Cd:=Hd Ar
 have Cf:Af.state = .ready∧Af.params.size=1∧Af.pending=none:=by rw [Ar];exact ⟨rfl,rfl,rfl⟩
 clear Ar
 obtain ⟨Cf,E1,Ei⟩:=Cf
 have Bh:RowKit.Hid (Below W4.heap.size W4 W5):=Hd (Bt D9.out Cg)
 have At:RowKit.Hid (W5.heap.size=W4.heap.size + 3):=Hd (by rw [Cb])
 have B1:=Hd A3
 have Eg:=Hd hD
 have Er:=Hd ((Bh.out.block _ (Array.getElem?_eq_some_iff.1 C7.out).1).trans C7.out)
 have E7:=Hd ((Cg.block W4.heap.size (by rw [Dn.out];omega)).trans Ea.out)
 have Ep:RowKit.Hid (GS T W5.heap.size (w.heap.size + 1) W3.heap.size W5 (.slice none 0 0) [] (fun _=>none) []):=Hd (GS.new (by rw [At.out,Ai.out];have:=Aj.out;omega) (by rw [At.out,Ai.out];omega) (by have:=Aj.out;omega) (Nat.le_refl _) ((Bh.out.block _ (Array.getElem?_eq_some_iff.1 Do.out).1).trans Do.out) ((Bh.out.block _ (Array.getElem?_eq_some_iff.1 C3.out).1).trans C3.out))
 have Bf:RowKit.Hid (Below w.heap.size w W5):=Hd (Eh.out.trans (Bh.out.mono (by have:=Ai.out;have:=Aj.out;omega)))
 clear A3 hD Cg Cb
 have Cm:=cells_iter a0 a1 (fun b=>p b∧b < w.heap.size) (fun b=>b≠w.heap.size + 1∧b≠W3.heap.size) (fun b hb=>⟨by omega,by have:=Aj.out;omega⟩) n hn s q pts W4.heap.size _ _ _ _ _ _ _ _ _ _ _ _ _ _ _ _ _ _ W5 E7.out ⟨by have:=Ai.out;have:=Aj.out;omega,by have:=Ai.out;omega⟩ (HS.out.ag (Ag.new _ Bf.out)) (HF.out.ag (Ag.new _ Bf.out)) HK.out (HP.out.ag (Ag.new _ Bf.out)) E6.out (fun C hC x hx=>((Dd.out C hC).each x hx).dims.1)
 obtain ⟨xs,Cv⟩:∃ xs,pts.flatten.filter (inF s q)=xs:=⟨_,rfl⟩
 rw [Cv] at Cm Bw Al Bk Bo
 clear Cv
 obtain ⟨lp,B0⟩:∃ lp,W4.heap.size + 1 + 1=lp:=⟨_,rfl⟩
 rw [B0] at B1 ⊢
 have Au:=Hd B0
 clear B0
 obtain ⟨J,hJ⟩:∃ J:Nat→World→Prop,J=fun k X => ∃ v us V,Put T W5.heap.size (w.heap.size + 1) W3.heap.size (.slice none 0 0) (fun _=>none) W5 X v us V (((xs.take k).map (gO3 s q set)).foldl putG []):=⟨_,rfl⟩
 have HJ:RowKit.Hid (∀ k X,J k X↔∃ v us V,Put T W5.heap.size (w.heap.size + 1) W3.heap.size (.slice none 0 0) (fun _=>none) W5 X v us V (((xs.take k).map (gO3 s q set)).foldl putG [])):=Hd fun k X=>by rw [hJ]
 have Ee:J 0 W5:=(HJ.out _ _).2 ⟨_,_,_,Ep.out,Tch.refl _ _,fun b hb => .inl hb⟩
 clear hJ
 have Bn:RowKit.Hid (∀ k X,J k X→X.heap[lp]? = some (.loop Af)∧X.heap[w.heap.size]? = some (.cells (folC va (.slice ba q.names.length bc) vS f0 f1 f2 f3 f4 f5 vh vo (.slice u1 s.dims.length u2) (.slice u3 s.mets.length u4) (.slice ap pts.length cp) q s.grain (set:Nat)) 92 (0,0))∧Below w.heap.size w X∧W5.heap.size≤X.heap.size):=Hd fun k X h=>by
  obtain ⟨v,us,V,Aa⟩:=(HJ.out _ _).1 h
  have e3:=Aj.out
  have e4:=Ai.out
  have e5:=At.out
  have el:=Au.out
  refine ⟨(Aa.tch.block lp (by omega) fun hS => ?_).trans B1.out,(Aa.tch.block w.heap.size (by omega) fun hS => ?_).trans Er.out,Bf.out.trans (Aa.tch.below (by omega) fun b hS => ?_),Aa.tch.size⟩
  ·rcases no_S hS with h | h <;> omega
  ·rcases no_S hS with h | h <;> omega
  ·rcases no_S hS with h | h <;> omega
 refine callsIn_wide.2 ((Cm lp Af.fn (fun v=>(Af.params.zip v).foldl (fun tmps (t,a)=>tmps.setIfInBounds t a) Af.tmps) Af.assign Af.body J ?_ ?_ ?_ ?_ W5 Ee).mono ?_)
 ·intro k X X' h hb
  obtain ⟨v,us,V,Aa⟩:=(HJ.out _ _).1 h
  exact (HJ.out _ _).2 ⟨v,us,V,Aa.below hb⟩
 ·intro k X h
  have hx:=Bn.out k X h
  obtain ⟨v,us,V,Aa⟩:=(HJ.out _ _).1 h
  refine ⟨HV.out.below hx.2.2.1,Aa.tch.ag fun b hb hS => ?_⟩
  rcases no_S hS with h | h
  ·exact hb.1 h
  ·exact hb.2 h
 ·intro k X h z hz
  exact run_yield (Bn.out k X h).1 (by rw [E1,hz])
 ·intro k X cs hk h Ad
  obtain ⟨D2,Dl,D5,B6⟩:=Bn.out k X h
  obtain ⟨v,us,V,Aa⟩:=(HJ.out _ _).1 h
  have Dp:=Bw.out _ (List.getElem_mem hk)
  have An:=Hd Dp
  have A4:=Hd (Bo.out _ (List.getElem_mem hk))
  have Ap:(xs.take (k + 1)).map (gO3 s q set)=(xs.take k).map (gO3 s q set) ++ [gO3 s q set xs[k]]:=by rw [List.take_succ_eq_append_getElem hk,List.map_append];rfl
  have Ev:=Al.out (k + 1)
  have Dh:RowKit.Hid (∀ y ∈ ((xs.take k).map (gO3 s q set)).foldl putG [],GO2 s.mets.length y):=Hd (fGo (fun y hy=>by obtain ⟨z,hz,rfl⟩:=List.mem_map.1 hy;exact Bo.out z (List.mem_of_mem_take hz)) (fun y hy=>by cases hy))
  have D0:totG (((xs.take k).map (gO3 s q set)).foldl putG []) + totG [gO3 s q set xs[k]]≤1000000:=by
   have h1:totG ((xs.take (k + 1)).map (gO3 s q set))=totG ((xs.take k).map (gO3 s q set)) + totG [gO3 s q set xs[k]]:=by rw [Ap];unfold totG;rw [List.map_append,List.sum_append_int]
   have h2:totG []=0:=rfl
   rw [fGt];omega
  have B4:=Hd D0
  have Bl:=Hd (HJ.out (k + 1))
  rw [Ap,List.foldl_append] at Bl
  obtain ⟨L,hL⟩:∃ L,((xs.take k).map (gO3 s q set)).foldl putG []=L:=⟨_,rfl⟩
  rw [hL] at Aa Dh B4 Bl
  clear Ap Ev D0 hL Dp Cm HJ Al
  obtain ⟨ad,cd,a3,c3,a4,c4,a5,c5,rfl,_⟩:=Ad.shapes
  have Cl:=Hd Ad
  generalize xs[k]=x at *
  generalize J (k + 1)=J' at *
  have Bb:=Hd Aa
  have Ck:=Hd D2
  have Bd:=Hd Dl
  have Az:=Hd D5
  have Co:=Hd B6
  clear h Aa D2 Dl D5 B6 Ad
  refine Rf.rw3 (r:=Af) ?_
  have El:=Cd.out
  subst El
  dsimp only
  obtain ⟨X1,Eq⟩:∃ X1,X.alloc (.cells #[.int .i64 x.1.1,.slice ad x.1.2.length cd,.int .i64 x.2.n,.slice a3 x.2.sums.length c3,.slice a4 x.2.mins.length c4,.slice a5 x.2.maxs.length c5] 83)=X1:=⟨_,rfl⟩
  obtain ⟨q1,qS,qB⟩:=la2 X (.cells #[.int .i64 x.1.1,.slice ad x.1.2.length cd,.int .i64 x.2.n,.slice a3 x.2.sums.length c3,.slice a4 x.2.mins.length c4,.slice a5 x.2.maxs.length c5] 83)
  rw [Eq] at q1 qS qB
  have Q1:=Hd q1
  have QS:=Hd qS
  have QB:=Hd qB
  clear q1 qS qB
  gi_wp2_with (rw [Oper.semAt_eq _ _ _ (fun c h=>by cases h)];go_simp;try go_bits)
  refine ⟨(QB.out.block _ (Array.getElem?_eq_some_iff.1 Ck.out).1).trans Ck.out,fun X2 hs2 hl2 => ?_⟩
  have Db:=(Array.getElem?_eq_some_iff.1 Ck.out).1
  have C2:=(Array.getElem?_eq_some_iff.1 Bd.out).1
  have Av:=(hs2.block w.heap.size (by have:=Au.out;have:=Ai.out;have:=Aj.out;omega)).trans ((QB.out.block _ C2).trans Bd.out)
  have D8:=(hs2.block X.heap.size (by omega)).trans Q1.out
  have A7:=lf85 Av rfl
  obtain ⟨⟨x0,x1,x2,x3,x4,x5⟩,_⟩:=can6 D8
  have B5:Ag (fun b=>p b∧b < w.heap.size) X X2:=(Ag.new _ QB.out).trans ⟨Nat.le_of_eq hs2.size.symm,fun b _ hb=>hs2.block b (by have:=Au.out;have:=Ai.out;have:=Aj.out;omega)⟩
  have Aq:Ag (fun b=>p b∧b < w.heap.size) w X2:=(Ag.new _ Az.out).trans B5
  have By:=Hd (groupOf_any (fun b=>p b∧b < w.heap.size) s q set x va (.int .i64 q.mode) vS f0 f1 f2 f3 f4 f5 vh vo (.int .i64 q.limit) (.slice u1 s.dims.length u2) (.slice u3 s.mets.length u4) (.slice ap pts.length cp) (.slice ba q.names.length bc) _ X2 (HS.out.ag Aq) (HN.out.ag Aq) (Cl.out.ag B5) (by omega) Bs.out ⟨An.out.time.1,An.out.time.2.1⟩ Ek.out (fun y hy=>by rw [An.out.dims.1];exact Ex.out y hy))
  have Bm:=Hd hs2
  have Et:=Hd hl2
  have Fa:=Hd Db
  clear hs2 hl2 Db C2 Av D8 B5 Aq
  iterate 3 gi_step
  refine wpInR_ld A7 ?_
  clear A7
  gi_wp2_with (rw [Oper.semAt_eq _ _ _ (fun c h=>by cases h)];go_simp;try go_bits)
  refine ⟨trivial,?_⟩
  gi_at_call 67
  refine CallsIn.mono (CallsIn.inRound _ (callsIn_wide.2 By.out)) ?_
  rintro e w5 ⟨Ed,rfl,As,Ca⟩
  have As:GA2 (fun b=>(p b∧b < w.heap.size)∨X2.heap.size≤b) w5 Ed (gO3 s q set x):=As
  obtain ⟨G,C6⟩:∃ G,gO3 s q set x=G:=⟨_,rfl⟩
  rw [C6] at As A4 B4 Bl
  clear C6
  have Ab:=one_grp As
  obtain ⟨Dx,Cr,Dj,Dq,Dy,C5,Dk,C9,D1,Da,De,C0,rfl⟩:=As.shapes
  obtain ⟨W6,B3⟩:∃ W6,w5.alloc (.cells #[.int .i64 G.1,.int .i64 G.2.1.1,.slice Dx Cr Dj,.int .i64 G.2.2.n,.slice Dq Dy C5,.slice Dk C9 D1,.slice Da De C0] 56)=W6:=⟨_,rfl⟩
  obtain ⟨_,rS,rB⟩:=la2 w5 (.cells #[.int .i64 G.1,.int .i64 G.2.1.1,.slice Dx Cr Dj,.int .i64 G.2.2.n,.slice Dq Dy C5,.slice Dk C9 D1,.slice Da De C0] 56)
  have Ab:GA3 (fun b=>((p b∧b < w.heap.size)∨X2.heap.size≤b)∨b=w5.heap.size) W6 (.slice (some ⟨w5.heap.size,0,none⟩) 1 1) [G]:=by rw [← B3];exact Ab
  rw [B3] at rS rB
  have Ah:Below X2.heap.size X2 W6:=Bt Ca rB
  have e3:=Aj.out
  have e4:=Ai.out
  have e5:=At.out
  have el:=Au.out
  have ex:=Bm.out.size
  have eq:=QS.out
  have e6:=Ca.size
  have ez:=Co.out
  have A5:=(Bb.out.gs.below QB.out).same (l:=lp) (by omega) (by omega) (by omega) Bm.out
  have A1:Below w.heap.size w W6:=(Az.out.trans (QB.out.mono (by omega))).trans ((Bm.out.below (by omega)).trans (Ah.mono (by omega)))
  have Bx:=Hd (addG_any (T:=T) W5.heap.size (w.heap.size + 1) W3.heap.size w.heap.size s.mets.length _ [G] _ v us V L W6 (A5.below Ah) Ab (fun b hb hS=>by
   have h1:=Bb.out.gs.S_lt hS
   have h2:=Bb.out.gs.S_le (B:=w.heap.size) (by omega) (by omega) hS
   rcases hb with (hb | hb) | hb <;> omega) (fun y hy=>by obtain rfl:=List.mem_singleton.1 hy;exact A4.out) Dh.out hM B4.out (by omega) (by omega) (by omega) (fun w' hB=>E3.out w' (A1.trans hB)))
  have Bq:=Hd Ah
  have D3:=Hd ((Ah.block lp (by omega)).trans Et.out)
  clear Ab rS rB Ah As Ca A5 A1 e3 e4 e5 el ex eq e6 ez x0 x1 x2 x3 x4 x5
  gi_wp2_with (rw [Oper.semAt_eq _ _ _ (fun c h=>by cases h)];go_simp;try go_bits)
  refine ⟨trivial,?_⟩
  gi_at_call 39
  refine CallsIn.mono (CallsIn.inRound _ (callsIn_wide.2 Bx.out)) ?_
  rintro e w7 ⟨u,v',D7,V',rfl,Am⟩
  have Dr:=Hd Am
  clear Am B3
  gi_wp2_with (rw [Oper.semAt_eq _ _ _ (fun c h=>by cases h)];go_simp;try go_bits)
  have e3:=Aj.out
  have e4:=Ai.out
  have e5:=At.out
  have el:=Au.out
  have ez:=Co.out
  refine ⟨(Dr.out.tch.block lp (Array.getElem?_eq_some_iff.1 D3.out).1 fun hS => ?_).trans D3.out,fun X7 hs7 hl7=>⟨rfl,(Bl.out X7).2 ⟨v',D7,V',Bb.out.round QB.out Bm.out Bq.out Dr.out hs7 (by omega) (by omega) (by omega) (hl7.trans B1.out.symm)⟩⟩⟩
  rcases Bb.out.own lp hS with h | h
  ·rcases no_S h with h | h <;> omega
  ·omega
 ·rintro e W8 ⟨⟨vv,rfl⟩,h⟩
  obtain ⟨Cu,Ez,Cz,En⟩:=Bn.out _ W8 h
  obtain ⟨v,us,V,Aa⟩:=(HJ.out _ _).1 h
  rw [List.take_length,Bk.out] at Aa
  refine ⟨⟨_,rfl⟩,Af,Cu,by rw [Cf];decide,?_⟩
  intro W9 Bi
  rw [Ei]
  dsimp only
  have e3:=Aj.out
  have e4:=Ai.out
  have e5:=At.out
  have el:=Au.out
  have Ac:=Aa.gs.same (l:=lp) (by omega) (by omega) (by omega) Bi
  have Ao:(pG s q set pts.flatten).length≤1000:=by
   have h1:=(tGl (M:=s.mets.length) (L:=pG s q set pts.flatten) (by rw [← Bk.out];exact fGo (fun y hy=>by obtain ⟨z,hz,rfl⟩:=List.mem_map.1 hy;exact Bo.out z hz) (fun y hy=>by cases hy))).1
   have h2:totG (pG s q set pts.flatten)≤1000:=by
    rw [← Bk.out,fGt]
    have h3:=Al.out xs.length
    rw [List.take_length] at h3
    have h4:totG []=0:=rfl
    omega
   omega
  have Cx:W9.heap[W4.heap.size + 1]? = some (.deferred (some [])):=(Bi.block _ (by omega)).trans ((Aa.tch.block _ (by omega) fun hS=>by rcases no_S hS with h | h <;> omega).trans Eg.out)
  have Di:Below w.heap.size w W9:=Cz.trans (Bi.below (by omega))
  obtain ⟨L,hL⟩:∃ L,pG s q set pts.flatten=L:=⟨_,rfl⟩
  have E0:=Hd hL
  rw [hL] at Ac Ao
  clear hL
  obtain ⟨Cj,Bu,rfl⟩:=Ac.shape
  obtain ⟨⟨x0,x1⟩,_⟩:=can2 Ac.box
  have Dc:¬ (3000:Int) < (L.length:Int):=by omega
  have Ba:=Hd (sortG_any W9 Ac.own Ac.nil (by omega))
  have Be:=Hd Ac
  have Ci:=Hd Ao
  have Ec:=Hd Cx
  have D6:=Hd Di
  have Dv:=Hd (show w.heap.size + 1 < W5.heap.size∧W4.heap.size + 1 < W5.heap.size∧w.heap.size≤W5.heap.size∧w.heap.size≤W4.heap.size + 1 by omega)
  clear Ac Ao Cx Di e3 e4 e5 el Bi Aa h Cu Ez Cz En
  gi_wp2_with (fail)
  refine ⟨trivial,?_⟩
  gi_at_call 68
  refine (callsIn_wide.2 Ba.out).mono ?_
  rintro e Cc ⟨rfl,D7,L',Ae,C8,A9,Bp⟩
  have hz:=Dv.out
  have Eo:=Be.out.NW
  have B8:∀ b,b < W5.heap.size→(Value.slice Cj L.length Bu).ownBlock≠some b:=fun b hb e=>by have:=(Be.out.own.own.lt b e).1;omega
  have A6:=(Bp.block (w.heap.size + 1) (by omega) fun e=>B8 _ (by omega) e.symm).trans Be.out.box
  have Ax:=(Bp.block (W4.heap.size + 1) (by omega) fun e=>B8 _ (by omega) e.symm).trans Ec.out
  have A8:Below w.heap.size w Cc:=D6.out.grown Bp D6.out.size (fun j e=>by have:=(Be.out.own.own.lt j e).1;omega)
  have Dt:=sorted_groups (s:=s) (q:=q) (set:=set) (C:=pts.flatten) (L':=L') (by rw [E0.out];exact Ae) C8
  have Br:=Hd (show ∀ W',Rf.SB (W4.heap.size + 1) Cc W'→GA3 (fun b=>w.heap.size≤b) W' (.slice Cj L.length Bu) (oS2 (set:Nat) (gP s q set pts.flatten)) from fun W' hs=>by
   rw [← Dt]
   have h1:=A9.same gn2 (fun _ hb=>hb.1) hz.2.1 hs
   refine h1.listed gn2 (fun b hb=>Nat.le_trans hz.2.2.1 hb.1) (fun b hb=>Nat.le_trans hz.2.2.1 hb) (by rw [Ae.length_eq];have:=Ci.out;unfold maxLen;omega) fun e=>Be.out.nil (List.eq_nil_of_length_eq_zero (by rw [← Ae.length_eq,e];rfl)))
  obtain ⟨⟨y0,y1⟩,_⟩:=can2 A6
  have B2:=Hd Ax
  have Bv:=Hd A8
  clear x0 x1 Ae C8 A9 Bp hz Eo B8 A6 Ax A8 Dt
  gi_wp2_with (fail)
  rw [Exit.noGoto_ret]
  gi_wp2_with (fail)
  refine ⟨by simp,.inl ⟨_,_,rfl,run_takeDeferred B2.out,?_⟩⟩
  refine ⟨.tuple #[.slice Cj L.length Bu,.nilIface],by simp [results,Tryz.results34,go_sem],_,rfl,Br.out _ (Rf.SB.put _ _ _),Bv.out.trans ((Rf.SB.put Cc (W4.heap.size + 1) (.deferred none)).below Dv.out.2.2.2)⟩
end Go.Proofs.YtaddkkkchkdgkaaGreatDoor
