/- GroupParts, walked. Written by gen71.py. -/
import Derived.Test.YtaddkkkchkdgkaaGreatDoorWC49
namespace Go.Proofs.YtaddkkkchkdgkaaGreatDoor
open Go.RowKit Go.Sort
open Tess (Fil Que CK Pay CelsOk groupsP)
set_option maxRecDepth 100000 in
set_option maxHeartbeats 16000000 in
theorem GroupParts_any {T:Lib.PrintTabs} (a0 a1:Addr) {vs vq vr:Value} {rows0:List Tess.Row} {at0 set:Int} {s0:Tess.Sch} {q0:Que} (w:World) (hL:Lw T a0 a1 w) (hs:SchAt (fun _=>True) w vs s0) (hq:QueOk w vq q0) (hr:RowsIn (fun _=>True) w vr rows0) (hrng:∀ r ∈ rows0,r.rng) :
  Calls Tryz.prog 3 #[vs,vq,vr,.int .i64 at0,.int .i64 set] w fun e w'=>e = .returned (.bool true)∧Below w.heap.size w w':=by
 obtain ⟨⟨n,va,vb,vS,f0,f1,f2,f3,f4,f5,vh,vo,hq⟩,hK⟩:=hq
 have hs:=hs.ltK
 have HR0:=Lib.hid hr.ltR
 clear hr
 have hq:=hq.ltQ
 obtain ⟨vd,vm,rfl,hd,hm,hd1,hm1⟩:=hs
 have HS:=Lib.hid (show SchAt (fun b=>True∧b < w.heap.size) w (.agg #[vd,vm,.int .i64 s0.grain]) s0 from ⟨vd,vm,rfl,hd,hm,hd1,hm1⟩)
 obtain ⟨ad,capd,rfl,_⟩:=slp_len hd
 obtain ⟨am,capm,rfl,_⟩:=slp_len hm
 have hv:=hq.e
 subst hv
 obtain ⟨ab,cb,rfl,_,hdum⟩:=sls_open hq.names.1
 obtain ⟨aa,ca,rfl⟩:=hq.aggs.shape
 obtain ⟨aS,cS,rfl⟩:=hq.sets.shape
 obtain ⟨ah,ch,rfl⟩:=hq.conds.shape
 obtain ⟨ao,co,rfl⟩:=hq.keys.shape
 obtain ⟨z0,z1,z2,z3,z4,ez⟩:=FilAt.shape6 hq.fil
 simp only [Value.agg.injEq,Array.mk.injEq,List.cons.injEq,and_true] at ez
 obtain ⟨rfl,rfl,rfl,rfl,rfl,rfl⟩:=ez
 have HQ:=Lib.hid hq
 have HL:=Lib.hid hL
 clear hd hm hd1 hm1 hdum hq hL
 have hKF:kindsOk (Que.few q0).fil:=kinds_few _ hK
 obtain ⟨W0,hW0⟩:∃ W0,(w.alloc (.cells #[.slice ad s0.dims.length capd,.slice am s0.mets.length capm,.int .i64 s0.grain] 24)).alloc (.cells #[.slice aa q0.aggs.length ca,.slice ab q0.names.length cb,.int .i64 q0.mode,.slice aS q0.sets.length cS,.int .i64 q0.every,.int .i64 q0.fil.kind,.string q0.fil.name,.slice z0 z1 z2,.int .i64 q0.fil.frm,.int .i64 q0.fil.to,.slice z3 q0.fil.l.length z4,.slice ah q0.conds.length ch,.slice ao q0.keys.length co,.int .i64 q0.limit] 35)=W0:=⟨_,rfl⟩
 obtain ⟨k0,k1,kS,kB⟩:=laid2 w (.cells #[.slice ad s0.dims.length capd,.slice am s0.mets.length capm,.int .i64 s0.grain] 24) (.cells #[.slice aa q0.aggs.length ca,.slice ab q0.names.length cb,.int .i64 q0.mode,.slice aS q0.sets.length cS,.int .i64 q0.every,.int .i64 q0.fil.kind,.string q0.fil.name,.slice z0 z1 z2,.int .i64 q0.fil.frm,.int .i64 q0.fil.to,.slice z3 q0.fil.l.length z4,.slice ah q0.conds.length ch,.slice ao q0.keys.length co,.int .i64 q0.limit] 35)
 rw [hW0] at k0 k1 kS kB
 have HX0:=Lib.hid (show Bq w _ _ W0 from ⟨k0,k1,kB⟩)
 clear k0 k1 kS kB
 go_enter Tryz.func3,Tryz.ntmps3
 go_wp2_with (fail)
 go_at_call 10
 refine (shown16_any a0 a1 W0 (HL.out.below HX0.out.below)).mono ?_
 rintro e W1 ⟨rfl,hB1⟩
 have HX1:=Lib.hid (HX0.out.later hB1)
 clear hB1 HX0 hW0
 obtain ⟨⟨x0,x1,x2⟩,x3,x4,x5⟩:=can3 HX1.out.k0
 go_wp2_with (fail)
 go_at_call 11
 refine (cutSch_any _ s0 W1 _ (HS.out.ag (Ag.new _ HX1.out.below))).mono ?_
 rintro e W2 ⟨vs',rfl,hs2,hB2⟩
 have HX2:=HX1.out.later hB2
 have hs2:=hs2.weak (q:=Dq w) (Dq.of HX1.out.lt)
 obtain ⟨s,hse⟩:∃ s,cutSch s0=s:=⟨_,rfl⟩
 rw [hse] at hs2
 clear hse
 obtain ⟨vd',vm',rfl,hd,hm,hd1,hm1⟩:=hs2
 have HS2:=Lib.hid (show SchAt (Dq w) W2 (.agg #[vd',vm',.int .i64 s.grain]) s from ⟨vd',vm',rfl,hd,hm,hd1,hm1⟩)
 obtain ⟨ad',capd',rfl,_⟩:=slp_len hd
 obtain ⟨am',capm',rfl,_⟩:=slp_len hm
 obtain ⟨W3,hW3,HX3,hA3⟩:=HX2.put0 (.slice ad' s.dims.length capd') (.slice am' s.mets.length capm') (.int .i64 s.grain)
 have HS3:=Lib.hid (HS2.out.ag hA3)
 have HX3:=Lib.hid HX3
 clear x0 x1 x2 x3 x4 x5 hd hm hd1 hm1 hB2 HS2 hA3 HX1
 obtain ⟨⟨x0,x1,x2⟩,x3,x4,x5⟩:=can3 HX2.k0
 obtain ⟨y0,y1,y2,y3,y4,y5,y6,y7,y8,y9,ya,yb,yc,yd⟩:=(can14 HX3.out.k1).1
 clear HX2
 go_wp2_with (fail)
 go_at_call 12
 refine (few15_any _ n _ q0 _ _ _ _ _ _ _ _ _ _ _ W3 (HQ.out.ag (Ag.new _ HX3.out.below))).mono ?_
 rintro e W4 ⟨v',ua,ub,uS,g0,g1,g2,g3,g4,g5,uh,uo,rfl,hq4,hcap,hB4⟩
 have hX4:=HX3.out.later hB4
 have hq4:=hq4.weak (q:=Dq w) (fun b hb=>by
  rcases hb with hb | hb
  ·exact ⟨by have:=hb.2;omega,by have:=hb.2;omega⟩
  ·exact Dq.of HX3.out.lt b hb)
 have HS4:=Lib.hid (HS3.out.ag (Ag.new _ hB4))
 have hn10:(Que.few q0).names.length≤10:=by show ((q0.names.take 10).map (cutN 30)).length≤10;simp;omega
 obtain ⟨Q,hQ⟩:∃ Q,Q=Que.few q0:=⟨_,rfl⟩
 rw [← hQ] at hq4 hcap hKF hn10
 clear hQ hB4 x0 x1 x2 x3 x4 x5 y0 y1 y2 y3 y4 y5 y6 y7 y8 y9 ya yb yc yd hW3 HS3
 have hv:=hq4.e
 subst hv
 obtain ⟨na,nc,rfl,_,hdum⟩:=sls_open hq4.names.1
 obtain ⟨ba,bc,rfl⟩:=hq4.aggs.shape
 obtain ⟨ta,tc,rfl⟩:=hq4.sets.shape
 obtain ⟨ha,hc,rfl⟩:=hq4.conds.shape
 obtain ⟨oa,oc,rfl⟩:=hq4.keys.shape
 obtain ⟨j0,j1,j2,j3,j4,ez⟩:=FilAt.shape6 hq4.fil
 simp only [Value.agg.injEq,Array.mk.injEq,List.cons.injEq,and_true] at ez
 obtain ⟨rfl,rfl,rfl,rfl,rfl,rfl⟩:=ez
 have HCAP:=Lib.hid hcap
 clear hdum hcap HX3 HQ HS
 obtain ⟨W5,hW5,hX5,hA5⟩:=hX4.put1 (.slice ba Q.aggs.length bc) (.slice na Q.names.length nc) (.int .i64 Q.mode) (.slice ta Q.sets.length tc) (.int .i64 Q.every) (.int .i64 Q.fil.kind) (.string Q.fil.name) (.slice j0 j1 j2) (.int .i64 Q.fil.frm) (.int .i64 Q.fil.to) (.slice j3 Q.fil.l.length j4) (.slice ha Q.conds.length hc) (.slice oa Q.keys.length oc) (.int .i64 Q.limit)
 obtain ⟨y0,y1,y2,y3,y4,y5,y6,y7,y8,y9,ya,yb,yc,yd⟩:=(can14 hX4.k1).1
 have zf:=(can14 hX4.k1).2
 have zz0:=zf 0 (by omega)
 have zz1:=zf 1 (by omega)
 have zz2:=zf 2 (by omega)
 have zz3:=zf 3 (by omega)
 have zz4:=zf 4 (by omega)
 have zz5:=zf 5 (by omega)
 have zz6:=zf 6 (by omega)
 have zz7:=zf 7 (by omega)
 have zz8:=zf 8 (by omega)
 have zz9:=zf 9 (by omega)
 have zza:=zf 10 (by omega)
 have zzb:=zf 11 (by omega)
 have zzc:=zf 12 (by omega)
 have zzd:=zf 13 (by omega)
 clear zf
 have HS5:=Lib.hid (HS4.out.ag hA5)
 have HQ5:=Lib.hid (hq4.ag hA5)
 have HX5:=Lib.hid hX5
 obtain ⟨x0,x1,x2⟩:=(can3 hX5.k0).1
 obtain ⟨v0,v1,v2,v3,v4,v5,v6,v7,v8,v9,va',vb',vc',vd'⟩:=(can14 hX5.k1).1
 clear hX4 hq4 hX5 hA5 HS4
 go_wp2_with (fail)
 go_at_call 13
 refine (rows_any _ vr rows0 50 (by omega) W5 (HR0.out.ag (Ag.new _ HX5.out.below))).mono ?_
 rintro e W6 ⟨v6,rfl,hr6,hB6⟩
 have hr6:=hr6.weak (q:=Dq w) (fun b hb=>by
  rcases hb with hb | hb
  ·exact ⟨by have:=hb.2;omega,by have:=hb.2;omega⟩
  ·exact Dq.of HX5.out.lt b hb)
 have hRr:=cut_rng (n:=50) hrng
 have hRl:=cut_len (n:=50) (rows:=rows0)
 obtain ⟨R,hR⟩:∃ R,rowsCut 50 rows0=R:=⟨_,rfl⟩
 rw [hR] at hr6 hRr hRl
 obtain ⟨ra,rc,rfl,hrc,_⟩:=ListAt.open hr6
 have HX6:=Lib.hid (HX5.out.later hB6)
 have HS6:=Lib.hid (HS5.out.ag (Ag.new _ hB6))
 have HQ6:=Lib.hid (HQ5.out.ag (Ag.new _ hB6))
 have HR6:=Lib.hid hr6
 clear hR hr6 hB6 x0 x1 x2 v0 v1 v2 v3 v4 v5 v6 v7 v8 v9 va' vb' vc' vd' y0 y1 y2 y3 y4 y5 y6 y7 y8 y9 ya yb yc yd zz0 zz1 zz2 zz3 zz4 zz5 zz6 zz7 zz8 zz9 zza zzb zzc zzd hW5
 obtain ⟨x0,x1,x2⟩:=(can3 HX6.out.k0).1
 obtain ⟨K,hK0⟩:∃ K:Nat,max 0 (min at0 (R.length:Int))=(K:Int):=⟨(max 0 (min at0 (R.length:Int))).toNat,by omega⟩
 have hKl:(K:Int)≤(R.length:Int):=by omega
 have hKc:(K:Int)≤(rc:Int):=by omega
 have hKn:¬ (K:Int) < 0:=by omega
 have HRK:=Lib.hid (show K≤R.length by omega)
 have HRA:=Lib.hid (ListAt.takeK (j:=K) HR6.out HRK.out)
 have hrb:=ListAt.dropK (j:=K) HR6.out HRK.out
 obtain ⟨sv,hsv⟩:∃ sv:Option Addr,(if rc=K then ra else Option.map (fun x=>x.add (K * 3)) ra)=sv:=⟨_,rfl⟩
 rw [hsv] at hrb
 have HRB:=Lib.hid hrb
 have HSV:=Lib.hid hsv
 clear hrb hsv
 have HRr:=Lib.hid hRr
 have HRl:=Lib.hid hRl
 have HC1:=Lib.hid (roll_law (Dq w) _ _ s R W6 HS6.out HR6.out hRl hRr)
 clear hRr hRl
 obtain ⟨eC,hC⟩:∃ eC,rollCode s R=eC:=⟨_,rfl⟩
 obtain ⟨eA,hA⟩:∃ eA,rollCode s (R.take K)=eA:=⟨_,rfl⟩
 obtain ⟨eB,hB⟩:∃ eB,rollCode s (R.drop K)=eB:=⟨_,rfl⟩
 rw [hC] at HC1
 have HEC:=Lib.hid hC
 have HEA:=Lib.hid hA
 have HEB:=Lib.hid hB
 clear hC hA hB
 go_wp2_with (fail)
 go_at_call 14
 refine HC1.out.mono ?_
 rintro e W7 ⟨c1,c2,c3,rfl,hc,hB7⟩
 have HCC:=Lib.hid hc
 have HX7:=Lib.hid (HX6.out.later hB7)
 have HB7:=Lib.hid hB7
 clear x0 x1 x2 hc hB7
 obtain ⟨x0,x1,x2⟩:=(can3 HX7.out.k0).1
 have hlw:w.heap.size < W7.heap.size:=Nat.lt_of_succ_lt HX7.out.lt
 go_wp2_with (fail)
 refine FlowT.wp_region 4 [4,5,6,7,8,9] [5,6,7] 8 9 (Flow.specs [.inl ?_,.inl ?_,.inl ?_,.inl ?_]) (by kernel_rfl) (by kernel_rfl) ?_ rfl rfl rfl ?_
 rotate_left 4
 ·refine Flow.specs_mono ?_
  repeat (first | exact Flow.lmono_nil | refine Flow.lmono_inl ?_)
 all_goals try simp only [List.take_succ_cons,List.take_zero]
 iterate 4 (refine Flow.tree_valK rfl (fun K hK=>⟨fun w hw hG => ?_,?_⟩);(have hcl:=Flow.bcell hw;clear hG hw;unfold Flow.Runs Flow.yields;go_simp;try rfl);go_simp;refine hK _ ?_;clear hK K)
 refine Flow.tree_nil fun W8 hw8 hG => ?_
 clear hG
 have HX8:=Lib.hid (HX7.out.later hw8)
 have hw89:=hw8
 have HB68:=Lib.hid (Bt HB7.out hw8)
 have HC2:=Lib.hid (roll_law (Dq w) _ _ s (R.take K) W8 (HS6.out.ag (Ag.new _ HB68.out)) (RowsIn.agR HRA.out (Ag.new _ HB68.out)) (by rw [List.length_take];have:=HRl.out;omega) (fun r hr=>HRr.out r (List.mem_of_mem_take hr)))
 rw [HEA.out] at HC2
 clear hw8 x0 x1 x2 hlw
 go_wp2_with (fail)
 go_at_call 14
 refine HC2.out.mono ?_
 rintro e W9 ⟨a1',a2',a3',rfl,ha,hB9⟩
 go_wp2_with (fail)
 refine ⟨rfl,_,_,rfl,rfl,(fun w=>by go_simp;try rfl),_,_,rfl,rfl,(fun w=>by go_simp;try rfl),_,_,rfl,rfl,(fun w=>by go_simp;try rfl),?_⟩
 apply both_ways
 ·intro h
  go_wp2_with (fail)
  exact ⟨rfl,h⟩
 ·intro h
  go_wp2_with (fail)
  exact ⟨rfl,h⟩
 have HAA:=Lib.hid ha
 have HX9:=Lib.hid (HX8.out.later hB9)
 have HB69:=Lib.hid (Bt HB68.out hB9)
 have HB89:=Lib.hid hB9
 clear ha hB9
 obtain ⟨x0,x1,x2⟩:=(can3 HX9.out.k0).1
 have hlw:w.heap.size < W9.heap.size:=Nat.lt_of_succ_lt HX9.out.lt
 have hsv:=HSV.out
 go_wp2_with (fail)
 refine FlowT.wp_region 4 [4,5,6,7,8,9] [5,6,7] 8 9 (Flow.specs [.inl ?_,.inl ?_,.inl ?_,.inl ?_]) (by kernel_rfl) (by kernel_rfl) ?_ rfl rfl rfl ?_
 rotate_left 4
 ·refine Flow.specs_mono ?_
  repeat (first | exact Flow.lmono_nil | refine Flow.lmono_inl ?_)
 all_goals try simp only [List.take_succ_cons,List.take_zero]
 iterate 4 (refine Flow.tree_valK rfl (fun K hK=>⟨fun w hw hG => ?_,?_⟩);(have hcl:=Flow.bcell hw;clear hG hw;unfold Flow.Runs Flow.yields;go_simp;try rfl);go_simp;refine hK _ ?_;clear hK K)
 refine Flow.tree_nil fun WA hw8 hG => ?_
 clear hG
 have HXA:=Lib.hid (HX9.out.later hw8)
 have HB6A:=Lib.hid (Bt HB69.out hw8)
 have HC3:=Lib.hid (roll_law (Dq w) _ _ s (R.drop K) WA (HS6.out.ag (Ag.new _ HB6A.out)) (RowsIn.agR HRB.out (Ag.new _ HB6A.out)) (by rw [List.length_drop];have:=HRl.out;omega) (fun r hr=>HRr.out r (List.mem_of_mem_drop hr)))
 rw [HEB.out] at HC3
 have hw9A:=hw8
 clear hw8 x0 x1 x2 hlw
 go_wp2_with (fail)
 go_at_call 14
 refine HC3.out.mono ?_
 rintro e WB ⟨b1',b2',b3',rfl,hb,hBB⟩
 go_wp2_with (fail)
 refine ⟨rfl,_,_,rfl,rfl,(fun w=>by go_simp;try rfl),_,_,rfl,rfl,(fun w=>by go_simp;try rfl),_,_,rfl,rfl,(fun w=>by go_simp;try rfl),?_⟩
 apply both_ways
 ·intro h
  go_wp2_with (fail)
  exact ⟨rfl,h⟩
 ·intro h
  go_wp2_with (fail)
  exact ⟨rfl,h⟩
 have HXB:=Lib.hid (HXA.out.later hBB)
 have HB6B:=Lib.hid (Bt HB6A.out hBB)
 have HB9B:=Lib.hid (Bt hw9A hBB)
 have HBB:=Lib.hid hb
 clear hb hBB hw9A hsv
 by_cases h1:eC=0
 rotate_left
 ·have e1:(eC != (0:Int))=true:=by rw [bne_iff_ne];exact h1
  go_wp2_with (fail)
  go_ret
  exact ⟨rfl,HXB.out.below⟩
 subst h1
 by_cases h1:eA=0
 rotate_left
 ·have e1:(eA != (0:Int))=true:=by rw [bne_iff_ne];exact h1
  go_wp2_with (fail)
  go_ret
  exact ⟨rfl,HXB.out.below⟩
 subst h1
 by_cases h1:eB=0
 rotate_left
 ·have e1:(eB != (0:Int))=true:=by rw [bne_iff_ne];exact h1
  go_wp2_with (fail)
  go_ret
  exact ⟨rfl,HXB.out.below⟩
 subst h1
 have h6:Below W6.heap.size W6 WB:=HB6B.out
 have hDq:∀ b,W6.heap.size≤b→Dq w b:=Dq.of HX6.out.lt
 have HCB:=Lib.hid (((HCC.out rfl).ag (Ag.new _ (Bt (Bt hw89 (show Below W8.heap.size W8 W9 from HB89.out)) HB9B.out))).weak hDq)
 have HAB:=Lib.hid (((HAA.out rfl).ag (Ag.new _ HB9B.out)).weak fun b hb=>hDq b (Nat.le_trans HB68.out.size hb))
 have HBBB:=Lib.hid ((HBB.out rfl).weak fun b hb=>hDq b (Nat.le_trans HB6A.out.size hb))
 have HOC:=Lib.hid (roll_cels HEC.out HRl.out HRr.out)
 have HOA:=Lib.hid (roll_cels HEA.out (by rw [List.length_take];have:=HRl.out;omega) (fun r hr=>HRr.out r (List.mem_of_mem_take hr)))
 have HOB:=Lib.hid (roll_cels HEB.out (by rw [List.length_drop];have:=HRl.out;omega) (fun r hr=>HRr.out r (List.mem_of_mem_drop hr)))
 have HTC:=Lib.hid (show ([Tess.rollP s.grain R].flatten.map (·.2.n)).sum≤1000 by
  have:=roll_tot s.grain R;have:=HRl.out;simp only [List.flatten_cons,List.flatten_nil,List.append_nil];omega)
 have htab:=roll_tot s.grain (R.take K)
 have htba:=roll_tot s.grain (R.drop K)
 rw [List.length_take] at htab
 rw [List.length_drop] at htba
 have HTA:=Lib.hid (show ([Tess.rollP s.grain (R.take K),Tess.rollP s.grain (R.drop K)].flatten.map (·.2.n)).sum≤1000 by
  have:=HRl.out;simp only [List.flatten_cons,List.flatten_nil,List.append_nil,List.map_append,List.sum_append_int];omega)
 have HTB:=Lib.hid (show ([Tess.rollP s.grain (R.drop K),[],Tess.rollP s.grain (R.take K)].flatten.map (·.2.n)).sum≤1000 by
  have:=HRl.out;simp only [List.flatten_cons,List.flatten_nil,List.append_nil,List.nil_append,List.map_append,List.sum_append_int];omega)
 clear htab htba
 obtain ⟨x0,x1,x2⟩:=(can3 HXB.out.k0).1
 obtain ⟨v0,v1,v2,v3,v4,v5,v6,v7,v8,v9,va',vb',vc',vd'⟩:=(can14 HXB.out.k1).1
 obtain ⟨WC,hWx⟩:∃ WX,WB.alloc (.cells #[.slice c1 c2 c3] 41)=WX:=⟨_,rfl⟩
 have hBx:=(laid1 WB (.cells #[.slice c1 c2 c3] 41)).2.2
 have hpx:=parts1 (v:=.slice c1 c2 c3) HCB.out
 rw [hWx] at hBx hpx
 have hpx:=hpx.weak (q:=Dq w) (fun b hb=>by
  rcases hb with hb | hb
  ·exact hb
  ·exact Dq.of HXB.out.lt b (by omega))
 have HXC:=Lib.hid (HXB.out.later hBx)
 have HBC:=Lib.hid hBx
 have HB6C:=Lib.hid (Bt HB6B.out hBx)
 have HF:=Lib.hid (fold_any (T:=T) a0 a1 (Dq w) 8 _ _ _ s Q set [Tess.rollP s.grain R] _ _ _ _ _ _ _ _ _ _ _ WC (HL.out.below HXC.out.below).vars (HL.out.below HXC.out.below).vn (HL.out.below HXC.out.below).et (HS6.out.ag (Ag.new _ HB6C.out)) (HQ6.out.ag (Ag.new _ HB6C.out)) (by omega) hKF hn10 hpx (by simp) (fun _ C hC=>by obtain rfl:=List.mem_singleton.1 hC;exact HOC.out) HTC.out)
 clear hBx hpx
 go_wp2_with (fail)
 go_at_call 15
 refine HF.out.mono ?_
 rintro e WD ⟨gv,rfl,hG,hBx⟩
 obtain ⟨ag1,ng1,cg1,rfl⟩:∃ a n c,gv = .slice a n c:=let ⟨a,c,h,_⟩:=hG;⟨a,_,c,h⟩
 have HG1:=Lib.hid hG
 have HXD:=Lib.hid (HXC.out.later hBx)
 have HB6D:=Lib.hid (Bt HB6C.out hBx)
 have HH1:=Lib.hid hBx
 clear hG hBx x0 x1 x2 v0 v1 v2 v3 v4 v5 v6 v7 v8 v9 va' vb' vc' vd' hWx HF
 have HBD:=Lib.hid (show Below WB.heap.size WB WD from Bt HBC.out HH1.out)
 obtain ⟨x0,x1,x2⟩:=(can3 HXD.out.k0).1
 obtain ⟨v0,v1,v2,v3,v4,v5,v6,v7,v8,v9,va',vb',vc',vd'⟩:=(can14 HXD.out.k1).1
 obtain ⟨WE,hWx⟩:∃ WX,WD.alloc (.cells #[.slice a1' a2' a3',.slice b1' b2' b3'] 41)=WX:=⟨_,rfl⟩
 have hBx:=(laid1 WD (.cells #[.slice a1' a2' a3',.slice b1' b2' b3'] 41)).2.2
 have hpx:=parts2 (v:=.slice a1' a2' a3') (u:=.slice b1' b2' b3') (HAB.out.ag (Ag.new _ HBD.out)) (HBBB.out.ag (Ag.new _ HBD.out))
 rw [hWx] at hBx hpx
 have hpx:=hpx.weak (q:=Dq w) (fun b hb=>by
  rcases hb with hb | hb
  ·exact hb
  ·exact Dq.of HXD.out.lt b (by omega))
 have HXE:=Lib.hid (HXD.out.later hBx)
 have HDE:=Lib.hid hBx
 have HB6E:=Lib.hid (Bt HB6D.out hBx)
 have HF:=Lib.hid (fold_any (T:=T) a0 a1 (Dq w) 8 _ _ _ s Q set [Tess.rollP s.grain (R.take K),Tess.rollP s.grain (R.drop K)] _ _ _ _ _ _ _ _ _ _ _ WE (HL.out.below HXE.out.below).vars (HL.out.below HXE.out.below).vn (HL.out.below HXE.out.below).et (HS6.out.ag (Ag.new _ HB6E.out)) (HQ6.out.ag (Ag.new _ HB6E.out)) (by omega) hKF hn10 hpx (by simp) (fun _ C hC=>by rcases List.mem_cons.1 hC with rfl | hC;exact HOA.out;obtain rfl:=List.mem_singleton.1 hC;exact HOB.out) HTA.out)
 clear hBx hpx
 go_wp2_with (fail)
 go_at_call 15
 refine HF.out.mono ?_
 rintro e WF ⟨gv,rfl,hG,hBx⟩
 obtain ⟨ag2,ng2,cg2,rfl⟩:∃ a n c,gv = .slice a n c:=let ⟨a,c,h,_⟩:=hG;⟨a,_,c,h⟩
 have HG2:=Lib.hid hG
 have HXF:=Lib.hid (HXE.out.later hBx)
 have HB6F:=Lib.hid (Bt HB6E.out hBx)
 have HH2:=Lib.hid hBx
 clear hG hBx x0 x1 x2 v0 v1 v2 v3 v4 v5 v6 v7 v8 v9 va' vb' vc' vd' hWx HF
 have HDF:=Lib.hid (show Below WD.heap.size WD WF from Bt HDE.out HH2.out)
 have HBF:=Lib.hid (show Below WB.heap.size WB WF from Bt HBD.out HDF.out)
 obtain ⟨x0,x1,x2⟩:=(can3 HXF.out.k0).1
 obtain ⟨v0,v1,v2,v3,v4,v5,v6,v7,v8,v9,va',vb',vc',vd'⟩:=(can14 HXF.out.k1).1
 obtain ⟨WG,hWx⟩:∃ WX,WF.alloc (.cells #[.slice b1' b2' b3',.slice none 0 0,.slice a1' a2' a3'] 41)=WX:=⟨_,rfl⟩
 have hBx:=(laid1 WF (.cells #[.slice b1' b2' b3',.slice none 0 0,.slice a1' a2' a3'] 41)).2.2
 have hpx:=parts3 (v:=.slice b1' b2' b3') (u:=.slice none 0 0) (x:=.slice a1' a2' a3') (HBBB.out.ag (Ag.new _ HBF.out)) (CelsAt.nilc _ _) (HAB.out.ag (Ag.new _ HBF.out))
 rw [hWx] at hBx hpx
 have hpx:=hpx.weak (q:=Dq w) (fun b hb=>by
  rcases hb with hb | hb
  ·exact hb
  ·exact Dq.of HXF.out.lt b (by omega))
 have HXG:=Lib.hid (HXF.out.later hBx)
 have HFG:=Lib.hid hBx
 have HB6G:=Lib.hid (Bt HB6F.out hBx)
 have HF:=Lib.hid (fold_any (T:=T) a0 a1 (Dq w) 8 _ _ _ s Q set [Tess.rollP s.grain (R.drop K),[],Tess.rollP s.grain (R.take K)] _ _ _ _ _ _ _ _ _ _ _ WG (HL.out.below HXG.out.below).vars (HL.out.below HXG.out.below).vn (HL.out.below HXG.out.below).et (HS6.out.ag (Ag.new _ HB6G.out)) (HQ6.out.ag (Ag.new _ HB6G.out)) (by omega) hKF hn10 hpx (by simp) (fun _ C hC=>by rcases List.mem_cons.1 hC with rfl | hC;exact HOB.out;rcases List.mem_cons.1 hC with rfl | hC;exact cels_nil HOB.out.sch;obtain rfl:=List.mem_singleton.1 hC;exact HOA.out) HTB.out)
 clear hBx hpx
 go_wp2_with (fail)
 go_at_call 15
 refine HF.out.mono ?_
 rintro e WH ⟨gv,rfl,hG,hBx⟩
 obtain ⟨ag3,ng3,cg3,rfl⟩:∃ a n c,gv = .slice a n c:=let ⟨a,c,h,_⟩:=hG;⟨a,_,c,h⟩
 have HG3:=Lib.hid hG
 have HXH:=Lib.hid (HXG.out.later hBx)
 have HB6H:=Lib.hid (Bt HB6G.out hBx)
 have HH3:=Lib.hid hBx
 clear hG hBx x0 x1 x2 v0 v1 v2 v3 v4 v5 v6 v7 v8 v9 va' vb' vc' vd' hWx HF
 have HFH:=Lib.hid (show Below WF.heap.size WF WH from Bt HFG.out HH3.out)
 have hg1:=HG1.out.ag (Ag.new _ (Bt HDF.out HFH.out))
 have hg2:=HG2.out.ag (Ag.new _ HFH.out)
 have hg3:=HG3.out
 rw [foldR_two] at hg2
 rw [foldR_swap] at hg3
 have HR1:=Lib.hid (rgroups_eq _ _ _ _ _ WH hg1 hg2)
 have HR2:=Lib.hid (fun W (hW:Below WH.heap.size WH W)=>rgroups_eq _ _ _ _ _ W (hg1.ag (Ag.new _ hW)) (hg3.ag (Ag.new _ hW)))
 clear hg1 hg2 hg3
 generalize foldE s Q set=E at *
 go_wp2_with (fail)
 go_at_call 16
 refine HR1.out.mono ?_
 rintro e WI ⟨rfl,hBI⟩
 have HBI:=Lib.hid hBI
 clear hBI
 go_wp2_with (fail)
 go_at_call 16
 refine (HR2.out WI HBI.out).mono ?_
 rintro e WJ ⟨rfl,hBJ⟩
 have HBJ:=Lib.hid (HXH.out.below.trans ((Bt HBI.out hBJ).mono HXH.out.below.size))
 clear hBJ
 go_wp2_with (fail)
 go_ret
 exact ⟨rfl,HBJ.out⟩
end Go.Proofs.YtaddkkkchkdgkaaGreatDoor
