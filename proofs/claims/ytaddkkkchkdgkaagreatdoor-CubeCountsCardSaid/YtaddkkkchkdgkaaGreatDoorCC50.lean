/- CubeCounts, walked. Written by gen85.py. -/
import Derived.Test.YtaddkkkchkdgkaaGreatDoorCC49
namespace Go.Proofs.YtaddkkkchkdgkaaGreatDoor
open Go.RowKit Go.Sort Go.Shelf
open Tess (Fil Que CK Pay CO2 CO gP)
theorem wrap_allC {n:Nat} (h:n≤10):wrap64 (wrap64 (2 ^ n) - 1)=((2 ^ n - 1:Nat):Int):=by
 have:n=0∨n=1∨n=2∨n=3∨n=4∨n=5∨n=6∨n=7∨n=8∨n=9∨n=10:=by omega
 rcases this with rfl | rfl | rfl | rfl | rfl | rfl | rfl | rfl | rfl | rfl | rfl <;> simp [wrap64]
set_option maxRecDepth 100000 in
set_option maxHeartbeats 16000000 in
theorem CCa {T:Lib.PrintTabs} (a0 a1:Addr) {vs vq vr:Value} {rows0:List Tess.Row} {s0:Tess.Sch} {q0:Que} (w:World) (hL:Lw T a0 a1 w) (hs:SA (fun _=>True) w vs s0) (hq:QueOk w vq q0) (hr:RowsIn (fun _=>True) w vr rows0) (hrng:∀ r ∈ rows0,r.rng) :
  Calls Tryz.prog 7 #[vs,vq,vr] w fun e w'=>e = .returned (.bool true)∧Below w.heap.size w w':=by
 obtain ⟨⟨n,va,vb,vS,f0,f1,f2,f3,f4,f5,vh,vo,hq⟩,hK⟩:=hq
 have hs:=hs.ltK
 have Dj:=Hd hr.ltR
 clear hr
 have hq:=hq.ltQ
 obtain ⟨vd,vm,rfl,hd,hm,A2,A8⟩:=hs
 have HS:=Hd (show SA (fun b=>True∧b < w.heap.size) w (.agg #[vd,vm,.int .i64 s0.grain]) s0 from ⟨vd,vm,rfl,hd,hm,A2,A8⟩)
 obtain ⟨ad,Bg,rfl,_⟩:=sl3 hd
 obtain ⟨am,Bd,rfl,_⟩:=sl3 hm
 have hv:=hq.e
 subst hv
 obtain ⟨ab,cb,rfl,_,Aw⟩:=so2 hq.names.1
 obtain ⟨aa,ca,rfl⟩:=hq.aggs.shape
 obtain ⟨aS,cS,rfl⟩:=hq.sets.shape
 obtain ⟨ah,ch,rfl⟩:=hq.conds.shape
 obtain ⟨ao,co,rfl⟩:=hq.keys.shape
 obtain ⟨z0,z1,z2,z3,z4,ez⟩:=FA2.sh2 hq.fil
 simp only [Value.agg.injEq,Array.mk.injEq,List.cons.injEq,and_true] at ez
 obtain ⟨rfl,rfl,rfl,rfl,rfl,rfl⟩:=ez
 have HQ:=Hd hq
 have HL:=Hd hL
 clear hd hm A2 A8 Aw hq hL
 have By:kO2 (Que.few q0).fil:=kf2 _ hK
 obtain ⟨W0,Cy⟩:∃ W0,(w.alloc (.cells #[.slice ad s0.dims.length Bg,.slice am s0.mets.length Bd,.int .i64 s0.grain] 24)).alloc (.cells #[.slice aa q0.aggs.length ca,.slice ab q0.names.length cb,.int .i64 q0.mode,.slice aS q0.sets.length cS,.int .i64 q0.every,.int .i64 q0.fil.kind,.string q0.fil.name,.slice z0 z1 z2,.int .i64 q0.fil.frm,.int .i64 q0.fil.to,.slice z3 q0.fil.l.length z4,.slice ah q0.conds.length ch,.slice ao q0.keys.length co,.int .i64 q0.limit] 35)=W0:=⟨_,rfl⟩
 obtain ⟨k0,k1,kS,kB⟩:=la3 w (.cells #[.slice ad s0.dims.length Bg,.slice am s0.mets.length Bd,.int .i64 s0.grain] 24) (.cells #[.slice aa q0.aggs.length ca,.slice ab q0.names.length cb,.int .i64 q0.mode,.slice aS q0.sets.length cS,.int .i64 q0.every,.int .i64 q0.fil.kind,.string q0.fil.name,.slice z0 z1 z2,.int .i64 q0.fil.frm,.int .i64 q0.fil.to,.slice z3 q0.fil.l.length z4,.slice ah q0.conds.length ch,.slice ao q0.keys.length co,.int .i64 q0.limit] 35)
 rw [Cy] at k0 k1 kS kB
 have B7:=Hd (show Bq w _ _ W0 from ⟨k0,k1,kB⟩)
 clear k0 k1 kS kB
 go_enter Tryz.func7,Tryz.ntmps7
 go_wp2_with (fail)
 go_at_call 21
 refine (sa3 a0 a1 W0 (HL.out.below B7.out.below).vars).mono ?_
 rintro e W1 ⟨rfl,C0⟩
 have A0:=Hd (B7.out.later C0)
 clear C0 B7 Cy
 obtain ⟨⟨x0,x1,x2⟩,x3,x4,x5⟩:=can3 A0.out.k0
 go_wp2_with (fail)
 go_at_call 11
 refine (cSa _ s0 W1 _ (HS.out.ag (Ag.new _ A0.out.below))).mono ?_
 rintro e W2 ⟨Ek,rfl,Bu,Ct⟩
 have Ca:=A0.out.later Ct
 have Bu:=Bu.weak (q:=Dq w) (Dq.of A0.out.lt)
 obtain ⟨s,Cp⟩:∃ s,cutSch s0=s:=⟨_,rfl⟩
 rw [Cp] at Bu
 clear Cp
 obtain ⟨Af,Cz,rfl,hd,hm,A2,A8⟩:=Bu
 have Cw:=Hd (show SA (Dq w) W2 (.agg #[Af,Cz,.int .i64 s.grain]) s from ⟨Af,Cz,rfl,hd,hm,A2,A8⟩)
 obtain ⟨D4,A3,rfl,_⟩:=sl3 hd
 obtain ⟨D2,Bf,rfl,_⟩:=sl3 hm
 obtain ⟨W3,Dw,Aq,C2⟩:=Ca.put0 (.slice D4 s.dims.length A3) (.slice D2 s.mets.length Bf) (.int .i64 s.grain)
 have Co:=Hd (Cw.out.ag C2)
 have Aq:=Hd Aq
 clear x0 x1 x2 x3 x4 x5 hd hm A2 A8 Ct Cw C2 A0
 obtain ⟨⟨x0,x1,x2⟩,x3,x4,x5⟩:=can3 Ca.k0
 obtain ⟨y0,y1,y2,y3,y4,y5,y6,y7,y8,y9,ya,yb,yc,yd⟩:=(ca2 Aq.out.k1).1
 clear Ca
 go_wp2_with (fail)
 go_at_call 12
 refine (fa10 _ n _ q0 _ _ _ _ _ _ _ _ _ _ _ W3 (HQ.out.ag (Ag.new _ Aq.out.below))).mono ?_
 rintro e W4 ⟨v',ua,ub,uS,g0,g1,g2,g3,g4,g5,uh,uo,rfl,Ac,As,B3⟩
 have Bs:=Aq.out.later B3
 have Ac:=Ac.weak (q:=Dq w) (fun b hb=>by
  rcases hb with hb | hb
  ·exact ⟨by have:=hb.2;omega,by have:=hb.2;omega⟩
  ·exact Dq.of Aq.out.lt b hb)
 have Cl:=Hd (Co.out.ag (Ag.new _ B3))
 have Ab:(Que.few q0).names.length≤10:=by show ((q0.names.take 10).map (cutN 30)).length≤10;simp;omega
 obtain ⟨Q,hQ⟩:∃ Q,Q=Que.few q0:=⟨_,rfl⟩
 rw [← hQ] at Ac As By Ab
 clear hQ B3 x0 x1 x2 x3 x4 x5 y0 y1 y2 y3 y4 y5 y6 y7 y8 y9 ya yb yc yd Dw Co
 have hv:=Ac.e
 subst hv
 obtain ⟨na,nc,rfl,_,Aw⟩:=so2 Ac.names.1
 obtain ⟨ba,bc,rfl⟩:=Ac.aggs.shape
 obtain ⟨ta,tc,rfl⟩:=Ac.sets.shape
 obtain ⟨ha,hc,rfl⟩:=Ac.conds.shape
 obtain ⟨oa,oc,rfl⟩:=Ac.keys.shape
 obtain ⟨j0,j1,j2,j3,j4,ez⟩:=FA2.sh2 Ac.fil
 simp only [Value.agg.injEq,Array.mk.injEq,List.cons.injEq,and_true] at ez
 obtain ⟨rfl,rfl,rfl,rfl,rfl,rfl⟩:=ez
 have C8:=Hd As
 clear Aw As Aq HQ HS
 obtain ⟨W5,Dh,Bj,Cb⟩:=Bs.put1 (.slice ba Q.aggs.length bc) (.slice na Q.names.length nc) (.int .i64 Q.mode) (.slice ta Q.sets.length tc) (.int .i64 Q.every) (.int .i64 Q.fil.kind) (.string Q.fil.name) (.slice j0 j1 j2) (.int .i64 Q.fil.frm) (.int .i64 Q.fil.to) (.slice j3 Q.fil.l.length j4) (.slice ha Q.conds.length hc) (.slice oa Q.keys.length oc) (.int .i64 Q.limit)
 obtain ⟨y0,y1,y2,y3,y4,y5,y6,y7,y8,y9,ya,yb,yc,yd⟩:=(ca2 Bs.k1).1
 have zf:=(ca2 Bs.k1).2
 have Ea:=zf 0 (by omega)
 have Ed:=zf 1 (by omega)
 have Dl:=zf 2 (by omega)
 have Dt:=zf 3 (by omega)
 have D6:=zf 4 (by omega)
 have Dd:=zf 5 (by omega)
 have D7:=zf 6 (by omega)
 have Dc:=zf 7 (by omega)
 have D0:=zf 8 (by omega)
 have Eb:=zf 9 (by omega)
 have Db:=zf 10 (by omega)
 have Dn:=zf 11 (by omega)
 have D5:=zf 12 (by omega)
 have Ef:=zf 13 (by omega)
 clear zf
 have Df:=Hd (Cl.out.ag Cb)
 have Dp:=Hd (Ac.ag Cb)
 have Bi:=Hd Bj
 obtain ⟨x0,x1,x2⟩:=(can3 Bj.k0).1
 obtain ⟨v0,v1,v2,v3,v4,v5,v6,v7,v8,v9,Ay,At,Ax,Af⟩:=(ca2 Bj.k1).1
 clear Bs Ac Bj Cb Cl
 go_wp2_with (fail)
 have Do:w.heap.size < W5.heap.size:=by have:=Bi.out.lt;omega
 refine FlowT.wp_region 3 [3,4,5,6,7,8] [4,5,6] 7 8 (Flow.sp3 [.inl ?_,.inl ?_,.inr (iRI (Dq w) (rC3 40 rows0))]) (by kernel_rfl) (by kernel_rfl) ?_ rfl rfl rfl ?_
 rotate_left 2
 ·refine Flow.sm2 ?_
  repeat (first | exact Flow.ln2 | refine Flow.li2 ?_ | refine Flow.li3 (iRI2 _ _) ?_)
 all_goals try simp only [List.take_succ_cons,List.take_zero]
 iterate 2 (refine Flow.tvK rfl (fun K hK=>⟨fun w' hw hG => ?_,?_⟩);(have Bw:=Flow.bc4 hw;clear hG hw;unfold Flow.Runs Flow.yields;go_simp;try rfl);go_simp;refine hK _ ?_;clear hK K)
 (refine Flow.tvK2 rfl (fun K hK=>⟨fun w' hw hG => ?_,?_⟩);(have HW:=Hd hw;clear hG hw;unfold Flow.Runs Flow.yields;go_simp;refine (rows_any _ vr rows0 40 (by omega) _ (Dj.out.ag (Ag.new _ (Bt Bi.out.below HW.out)))).mono ?_;rintro e w3 ⟨v3,rfl,Di,Ds⟩;exact ⟨v3,rfl,Ds,RowsIn.weak Di (fun b hb=>by
   have h5:=Bi.out.lt
   have h6:=HW.out.size
   rcases hb with hb | hb
   ·exact ⟨by have:=hb.2;omega,by have:=hb.2;omega⟩
   ·exact Dq.of h5 b (by omega))⟩);intro v6;go_simp;refine hK _ _ ?_;clear hK K)
 refine Flow.tn2 fun W6 hB6 hG => ?_
 have Az:=(show iRI (Dq w) (rC3 40 rows0) v6 W6 by simpa [Flow.upd] using hG 2)
 unfold iRI at Az
 clear hG
 have B1:=cut_rng (n:=40) hrng
 have Bv:=cut_len (n:=40) (rows:=rows0)
 obtain ⟨R,hR⟩:∃ R,rC3 40 rows0=R:=⟨_,rfl⟩
 rw [hR] at Az B1 Bv
 have Bv:R.length≤50:=by omega
 have Bc:=Az
 obtain ⟨ra,rc,rfl,Ew,_⟩:=LA.open Bc
 have Cn:=Hd (Bi.out.later hB6)
 have Cx:=Hd (Df.out.ag (Ag.new _ hB6))
 have Du:=Hd (Dp.out.ag (Ag.new _ hB6))
 have De:=Hd Az
 have Cm:=Hd B1
 have B8:=Hd Bv
 clear hR Az Bc hB6 x0 x1 x2 v0 v1 v2 v3 v4 v5 v7 v8 v9 Ay At Ax Af y0 y1 y2 y3 y4 y5 y6 y7 y8 y9 ya yb yc yd Ea Ed Dl Dt D6 Dd D7 Dc D0 Eb Db Dn D5 Ef Dh B1 Bv Do
 have Bh:=Hd (rlC (Dq w) _ _ s R W6 Cx.out De.out B8.out Cm.out)
 obtain ⟨eA,hA⟩:∃ eA,rC2 s R=eA:=⟨_,rfl⟩
 obtain ⟨C,hC⟩:∃ C,rC5 s R=C:=⟨_,rfl⟩
 rw [hA,hC] at Bh
 have B4:=Hd (show ∀ Q',Que.check s Q'=0→CO s C from fun Q' h=>hC ▸ rCo B8.out Cm.out h)
 have Br:=Hd (show ([C].flatten.map (·.2.n)).sum≤1000 from hC ▸ rCt s R B8.out)
 have Cd:=Cn.out.lt
 clear hA hC
 go_wp2_with (fail)
 go_at_call 14
 refine Bh.out.mono ?_
 rintro e W7 ⟨Ba,Be,A9,rfl,ha,B5⟩
 go_wp2_with (fail)
 refine ⟨rfl,_,_,rfl,rfl,(fun w=>by go_simp;try rfl),_,_,rfl,rfl,(fun w=>by go_simp;try rfl),_,_,rfl,rfl,(fun w=>by go_simp;try rfl),?_⟩
 apply bw2
 ·intro h
  go_wp2_with (fail)
  exact ⟨rfl,h⟩
 ·intro h
  go_wp2_with (fail)
  exact ⟨rfl,h⟩
 have C5:=Hd (ha.weak (q:=Dq w) (Dq.of Cd))
 have Bn:=Hd (Cn.out.later B5)
 have A6:=Hd B5
 clear ha B5
 obtain ⟨x0,x1,x2⟩:=(can3 Bn.out.k0).1
 obtain ⟨v0,v1,v2,v3,v4,v5,v6,v7,v8,v9,Ay,At,Ax,Af⟩:=(ca2 Bn.out.k1).1
 have Eh:=Hd (Cx.out.ag (Ag.new _ A6.out))
 have Dr:=Hd (Du.out.ag (Ag.new _ A6.out))
 have A5:=C5
 obtain ⟨WA,Ch⟩:∃ WX,W7.alloc (.cells #[.slice Ba Be A9] 41)=WX:=⟨_,rfl⟩
 have Aa:=(la2 W7 (.cells #[.slice Ba Be A9] 41)).2.2
 have An:=parts1 (v:=.slice Ba Be A9) A5.out
 rw [Ch] at Aa An
 have An:=An.weak (q:=Dq w) (fun b hb=>by
  rcases hb with hb | hb
  ·exact hb
  ·exact Dq.of Bn.out.lt b (by omega))
 have Bl:=Hd (Bn.out.later Aa)
 have Cu:=Hd (Eh.out.ag (Ag.new _ Aa))
 have C1:=Hd (Dr.out.ag (Ag.new _ Aa))
 have C4:=Hd Aa
 have HF:=Hd (run_any (T:=T) a0 a1 (Dq w) 8 _ _ _ s Q [C] _ _ _ _ _ _ _ _ _ _ _ WA (HL.out.below Bl.out.below).vars (HL.out.below Bl.out.below).vn (HL.out.below Bl.out.below).et Cu.out C1.out (by omega) By Ab An (by simp) (fun h D hD=>by obtain rfl:=List.mem_singleton.1 hD;exact B4.out _ h) Br.out)
 rw [show [C].flatten=C by simp] at HF
 clear Aa An
 go_wp2_with (fail)
 go_at_call 22
 refine HF.out.mono ?_
 rintro e WB ⟨gv,rfl,hG,Aa⟩
 obtain ⟨El,Ep,Ex,rfl⟩:∃ a n c,gv = .slice a n c:=let ⟨a,c,h,_⟩:=hG;⟨a,_,c,h⟩
 have Ci:=Hd hG
 have Bm:=Hd (Bl.out.later Aa)
 have Cq:=Hd (Cu.out.ag (Ag.new _ Aa))
 have Cg:=Hd (C1.out.ag (Ag.new _ Aa))
 have Cf:=Hd (A5.out.ag (Ag.new _ (Bt C4.out Aa)))
 have Eq:=Hd Aa
 clear hG Aa Ch HF
 clear x0 x1 x2 v0 v1 v2 v3 v4 v5 v6 v7 v8 v9 Ay At Ax Af
 obtain ⟨x0,x1,x2⟩:=(can3 Bm.out.k0).1
 obtain ⟨v0,v1,v2,v3,v4,v5,v6,v7,v8,v9,Ay,At,Ax,Af⟩:=(ca2 Bm.out.k1).1
 have HF:=Hd (sa2 a0 a1 (Dq w) 8 _ _ s Q _ _ _ _ _ _ _ _ _ _ _ WB (HL.out.below Bm.out.below).vars Cq.out Cg.out (by omega) By)
 go_wp2_with (fail)
 go_at_call 23
 refine HF.out.mono ?_
 rintro e WC ⟨lv,rfl,hl,Aa⟩
 obtain ⟨L,hL⟩:∃ L,(if Que.check s Q=0 then Que.sO Q else [])=L:=⟨_,rfl⟩
 rw [hL] at hl
 obtain ⟨al,cl,rfl,Ev,Bw⟩:=so7 hl
 have Dk:=Hd (show Que.check s Q=0→L=Que.sO Q from fun h=>by rw [← hL,if_pos h])
 have Eo:=Hd Bw
 have Al:=Hd (Bm.out.later Aa)
 have Dx:=Hd (Cq.out.ag (Ag.new _ Aa))
 have C7:=Hd (Cg.out.ag (Ag.new _ Aa))
 have Da:=Hd (Cf.out.ag (Ag.new _ Aa))
 have Dy:=Hd Aa
 clear hl hL Bw Aa HF
 clear x0 x1 x2 v0 v1 v2 v3 v4 v5 v6 v7 v8 v9 Ay At Ax Af
 obtain ⟨x0,x1,x2⟩:=(can3 Al.out.k0).1
 obtain ⟨v0,v1,v2,v3,v4,v5,v6,v7,v8,v9,Ay,At,Ax,Af⟩:=(ca2 Al.out.k1).1
 by_cases h1:eA=0
 rotate_left
 ·have e1:(eA != (0:Int))=true:=by rw [bne_iff_ne];exact h1
  go_wp2_with (fail)
  go_ret
  exact ⟨rfl,Al.out.below⟩
 subst h1
 by_cases h2:runE s Q C=0
 rotate_left
 ·generalize runE s Q C=E at *
  have e1:((E:Int) != (0:Int))=true:=by rw [bne_iff_ne];omega
  go_wp2_with (fail)
  go_ret
  exact ⟨rfl,Al.out.below⟩
 obtain ⟨Bx,C6⟩:=rEz h2
 have HR:=Hd (rRz h2)
 rw [h2,Bx]
 have Ar:=Hd Bx
 obtain rfl:=Dk.out Bx
 clear h2 Bx
 have Es:w.heap.size < WC.heap.size:=by have:=Al.out.lt;omega
 have Er:w.heap.size + 1 < WC.heap.size:=Al.out.lt
 go_wp2_with (fail)
 refine FlowT.wp_region 9 [9,10,11,12,13,14] [10,11,12] 13 14 (Flow.sp3 [.inl ?_,.inl ?_,.inl ?_,.inl ?_,.inl ?_,.inl ?_,.inl ?_,.inl ?_,.inr (nP WC.heap.size (.slice Ba Be A9))]) (by kernel_rfl) (by kernel_rfl) ?_ rfl rfl rfl ?_
 rotate_left 8
 ·refine Flow.sm2 ?_
  repeat (first | exact Flow.ln2 | refine Flow.li2 ?_ | refine Flow.li3 (nPm _ _) ?_)
 all_goals try simp only [List.take_succ_cons,List.take_zero]
 iterate 8 (refine Flow.tvK rfl (fun K hK=>⟨fun w' hw hG => ?_,?_⟩);(have Bw:=Flow.bc4 hw;clear hG hw;unfold Flow.Runs Flow.yields;go_simp;try rfl);go_simp;refine hK _ ?_;clear hK K)
 (refine Flow.tvK2 rfl (fun K hK=>⟨fun w' hw hG => ?_,?_⟩);(have HW:=Hd hw;clear hG hw;unfold Flow.Runs Flow.yields;go_simp;exact ⟨(la2 _ _).2.2,nPm2 _ _ _ HW.out.size⟩);intro vz;go_simp;refine hK _ _ ?_;clear hK K)
 refine Flow.tn2 fun WD hBD hG => ?_
 have C3:=(show nP WC.heap.size (.slice Ba Be A9) vz WD by simpa [Flow.upd] using hG 8)
 clear hG
 have Bk:=Hd (Al.out.later hBD)
 have Dz:=Hd (Dx.out.ag (Ag.new _ hBD))
 have D3:=Hd (C7.out.ag (Ag.new _ hBD))
 have An:=parts_one C3 (Da.out.ag (Ag.new _ hBD)) (fun _ h=>h) (Dq.of Al.out.lt)
 have D1:=Hd hBD
 obtain ⟨g1,rfl,Bp,Bo,Ej⟩:=C3
 clear x0 x1 x2 v0 v1 v2 v3 v4 v5 v6 v7 v8 v9 Ay At Ax Af hBD
 have HF:=Hd (fold_any (T:=T) a0 a1 (Dq w) 8 _ _ _ s Q ((2 ^ Q.names.length - 1:Nat):Int) [C] _ _ _ _ _ _ _ _ _ _ _ WD (HL.out.below Bk.out.below).vars (HL.out.below Bk.out.below).vn (HL.out.below Bk.out.below).et Dz.out D3.out (by omega) By Ab An (by simp) (fun _ C hC=>by obtain rfl:=List.mem_singleton.1 hC;exact B4.out _ Ar.out) Br.out)
 clear An
 go_wp2_with (fail)
 rw [wrap_allC Ab]
 go_at_call 15
 refine HF.out.mono ?_
 rintro e WE ⟨gv,rfl,hG,Aa⟩
 obtain ⟨Em,Eu,Ei,rfl⟩:∃ a n c,gv = .slice a n c:=let ⟨a,c,h,_⟩:=hG;⟨a,_,c,h⟩
 have Cr:=Hd hG
 have Ee:=Hd (Bk.out.later Aa)
 have Dv:=Hd Aa
 clear hG Aa HF
 go_wp2_with (fail)
 refine ⟨rfl,_,_,rfl,rfl,(fun w=>by go_simp;try rfl),_,_,rfl,rfl,(fun w=>by go_simp;try rfl),_,_,rfl,rfl,(fun w=>by go_simp;try rfl),?_⟩
 apply bw2
 ·intro h
  go_wp2_with (fail)
  exact ⟨rfl,h⟩
 ·intro h
  go_wp2_with (fail)
  exact ⟨rfl,h⟩
 rw [fEs Ar.out whole_set]
 have Bp:=(Ci.out.ag (Ag.new _ Dy.out)).ag (Ag.new _ (Bt D1.out Dv.out))
 rw [HR.out] at Bp
 have Bo:=Cr.out
 have Cj:=Br.out
 rw [show [C].flatten=C by simp] at Bo Cj
 have Ce:=B4.out _ Ar.out
 have Ad:=foldR_ok (s:=s) (q:=Q) (set:=((2 ^ Q.names.length - 1:Nat):Int)) (C:=C) Ce.each Ab
 have Am:=foldR_key (s:=s) (q:=Q) (set:=((2 ^ Q.names.length - 1:Nat):Int)) (C:=C)
 have Ap:=runG_ok (q:=Q) Ar.out Ce.each Ab
 have Ai:=runG_key (C:=C) Ar.out
 have A7:=runG_count (C:=C) Ar.out
 have Eg:=Tess.sOf Ar.out
 have Ck:=totG_nonneg Ad.1
 clear Ci Cr Br
 generalize fR2 s Q ((2 ^ Q.names.length - 1:Nat):Int) C=GA at *
 generalize runG s Q C=GB at *
 generalize Que.sO Q=L at *
 have hA:totG GA≤1000:=by have:=Ad.2;omega
 have Aj:0≤totG GA * (L.length:Int)∧totG GA * (L.length:Int)≤64000:=by
  have h1:totG GA * (L.length:Int)≤1000 * (L.length:Int):=Int.mul_le_mul_of_nonneg_right hA (by omega)
  have h2:0≤totG GA * (L.length:Int):=Int.mul_nonneg Ck (by omega)
  omega
 have hB:totG GB≤64000:=by omega
 obtain ⟨am,cm,e1,Et,Cs⟩:=grps_open (N:=Q.names.length) Bp Ap Ai
 obtain ⟨bm,dm,e2,En,Cv⟩:=grps_open (N:=Q.names.length) Bo Ad.1 Am
 simp only [Value.slice.injEq] at e1 e2
 obtain ⟨rfl,D8,rfl⟩:=e1
 obtain ⟨rfl,C9,rfl⟩:=e2
 subst D8 C9
 have Bh:=Hd Cs
 have D9:=Hd Cv
 have Bb:=Hd Ad.1
 have A1:=Hd Ap
 have Ec:=Hd (show totG GA≤900000 by omega)
 have Dg:=Hd (show totG GB≤900000 by omega)
 have B6:=Hd A7
 have Ak:=Hd Aj
 clear Bp Bo Cj Ce Ap Ad Ai Am Cs Cv A7 Aj hA hB Ck C6
 go_wp2_with (fail)
 go_loopw [16,17] (fun c i wr => ∃ k:Nat,k≤GA.length∧i = .int .i64 k∧c = .int .i64 (totG (GA.take k))∧Below WE.heap.size WE wr) (fun _ i _=>GA.length - (intOf i).toNat)
 case atStart=>exact ⟨0,Nat.zero_le _,rfl,rfl,Below.refl _ _⟩
 case round=>
  obtain ⟨k,hk,rfl,rfl,A4⟩:=hrel
  obtain ⟨wa,Bz⟩:∃ wa,wa=wr:=⟨_,rfl⟩
  subst Bz
  have Au:=Hd A4
  clear A4
  by_cases hlt:k < GA.length
  ·have B0:(k:Int) < (GA.length:Int):=by omega
   have Ah:=sum_step GA (·.2.2.n) k hlt
   have hb:=tGt Bb.out (k + 1)
   have Cc:=tGt Bb.out k
   have Ao:=Ec.out
   obtain ⟨b1,B2,rfl,ad,cd,a3,c3,a4,c4,Ae⟩:=D9.out k hlt
   replace Ae:=Ae.later Au.out
   have hl:=Ae.lt
   have e3:=Ae.n
   clear Ae
   rw [show ((GA.take (k + 1)).map (·.2.2.n)).sum=totG (GA.take (k + 1)) from rfl,show ((GA.take k).map (·.2.2.n)).sum=totG (GA.take k) from rfl] at Ah
   rw [Ah] at hb
   have B9:=Hd Ah
   clear Ah
   generalize totG (GA.take k)=t0 at *
   generalize GA[k].2.2.n=yn at *
   have Dm:0≤t0 + yn∧t0 + yn≤1000000:=by omega
   clear hb Cc Ao
   go_wp2
   go_roundw
   case rel=>exact ⟨k + 1,by omega,by go_num,by rw [B9.out],Au.out⟩
   case measure=>simp [intOf];omega
  ·have B0:¬ (k:Int) < (GA.length:Int):=by omega
   rw [List.take_of_length_le (show GA.length≤k by omega)]
   clear hk hlt
   go_wp2_with (fail)
   go_loopw [18,19] (fun c i wr => ∃ k:Nat,k≤GB.length∧i = .int .i64 k∧c = .int .i64 (totG (GB.take k))∧Below WE.heap.size WE wr) (fun _ i _=>GB.length - (intOf i).toNat)
   case atStart=>exact ⟨0,Nat.zero_le _,rfl,rfl,Au.out⟩
   case round=>
    obtain ⟨k,hk,rfl,rfl,A4⟩:=hrel
    obtain ⟨wb,Bz⟩:∃ wa,wa=wr:=⟨_,rfl⟩
    subst Bz
    have Av:=Hd A4
    clear A4
    by_cases hlt:k < GB.length
    ·have B0:(k:Int) < (GB.length:Int):=by omega
     have Ah:=sum_step GB (·.2.2.n) k hlt
     have hb:=tGt A1.out (k + 1)
     have Cc:=tGt A1.out k
     have Ao:=Dg.out
     obtain ⟨b1,B2,rfl,ad,cd,a3,c3,a4,c4,Ae⟩:=Bh.out k hlt
     replace Ae:=Ae.later Av.out
     have hl:=Ae.lt
     have e3:=Ae.n
     clear Ae
     rw [show ((GB.take (k + 1)).map (·.2.2.n)).sum=totG (GB.take (k + 1)) from rfl,show ((GB.take k).map (·.2.2.n)).sum=totG (GB.take k) from rfl] at Ah
     rw [Ah] at hb
     have B9:=Hd Ah
     clear Ah
     generalize totG (GB.take k)=t0 at *
     generalize GB[k].2.2.n=yn at *
     have Dm:0≤t0 + yn∧t0 + yn≤1000000:=by omega
     clear hb Cc Ao
     go_wp2
     go_roundw
     case rel=>exact ⟨k + 1,by omega,by go_num,by rw [B9.out],Av.out⟩
     case measure=>simp [intOf];omega
    ·have B0:¬ (k:Int) < (GB.length:Int):=by omega
     rw [List.take_of_length_le (show GB.length≤k by omega)]
     clear hk hlt
     have hw:∀ X:Int,0≤X→X≤64000→wrap64 X=X∧IntKind.i64.wrap X=X:=fun X h1 h2=>⟨by simp only [wrap64];omega,by rw [IntKind.wrap_i64];omega⟩
     obtain ⟨e1,e2⟩:=hw _ Ak.out.1 Ak.out.2
     have e3:(totG GB == totG GA * (L.length:Int))=true:=by rw [beq_iff_eq];exact B6.out
     clear hw
     go_wp2_with (fail)
     go_ret
     exact ⟨rfl,Bt Ee.out.below Av.out⟩
end Go.Proofs.YtaddkkkchkdgkaaGreatDoor
