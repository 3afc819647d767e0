/- GroupTotals, walked. -/
import Derived.Test.YtaddkkkchkdgkaaGreatDoorTC00
import Derived.Lib.LaidPrint
namespace Go.Proofs.YtaddkkkchkdgkaaGreatDoor
open Go.RowKit Go.Sort
open Tess (Fil Que CK Pay CelsOk groupsP)
theorem bd3 {B:Nat} {a w:World} (h:Below B a w) (n:Nat):Below B a (w.drewN n):=⟨h.os,h.tape,h.output,h.size,h.block⟩
theorem ValsAt.sizes {p:Nat→Prop} {w:World} {v:Value} {l:List Tess.Val} (h:ValsAt p w v l):∀ x ∈ l,x.s.size≤maxLen:=let ⟨_,_,_,_,h2,_⟩:=h;h2
theorem wa2 {n:Nat} (h:n≤10):wrap64 (wrap64 (2 ^ n) - 1)=((2 ^ n - 1:Nat):Int):=by
 have:n=0∨n=1∨n=2∨n=3∨n=4∨n=5∨n=6∨n=7∨n=8∨n=9∨n=10:=by omega
 rcases this with rfl | rfl | rfl | rfl | rfl | rfl | rfl | rfl | rfl | rfl | rfl <;> simp [wrap64]
set_option maxRecDepth 100000 in
set_option maxHeartbeats 16000000 in
theorem GTa {T:Lib.PrintTabs} (a0 a1:Addr) {vs vq vr:Value} {rows0:List Tess.Row} {set:Int} {s0:Tess.Sch} {q0:Que} (w:World) (hL:Lw T a0 a1 w) (hs:SchAt (fun _=>True) w vs s0) (hq:QueOk w vq q0) (hr:RowsIn (fun _=>True) w vr rows0) (hrng:∀ r ∈ rows0,r.rng) :
  Calls Tryz.prog 5 #[vs,vq,vr,.int .i64 set] w fun e w'=>e = .returned (.bool true)∧Below w.heap.size w w':=by
 obtain ⟨⟨n,va,vb,vS,f0,f1,f2,f3,f4,f5,vh,vo,hq⟩,hK⟩:=hq
 have hs:=hs.ltK
 have Ex:=Hd hr.ltR
 clear hr
 have hq:=hq.ltQ
 obtain ⟨vd,vm,rfl,hd,hm,Bp,Bg⟩:=hs
 have HS:=Hd (show SchAt (fun b=>True∧b < w.heap.size) w (.agg #[vd,vm,.int .i64 s0.grain]) s0 from ⟨vd,vm,rfl,hd,hm,Bp,Bg⟩)
 obtain ⟨ad,Bs,rfl,_⟩:=slp_len hd
 obtain ⟨am,B0,rfl,_⟩:=slp_len hm
 have hv:=hq.e
 subst hv
 obtain ⟨ab,cb,rfl,_,A2⟩:=sls_open hq.names.1
 obtain ⟨aa,ca,rfl⟩:=hq.aggs.shape
 obtain ⟨aS,cS,rfl⟩:=hq.sets.shape
 obtain ⟨ah,ch,rfl⟩:=hq.conds.shape
 obtain ⟨ao,co,rfl⟩:=hq.keys.shape
 obtain ⟨z0,z1,z2,z3,z4,ez⟩:=FilAt.shape6 hq.fil
 simp only [Value.agg.injEq,Array.mk.injEq,List.cons.injEq,and_true] at ez
 obtain ⟨rfl,rfl,rfl,rfl,rfl,rfl⟩:=ez
 have HQ:=Hd hq
 have HL:=Hd hL
 clear hd hm Bp Bg A2 hq hL
 have Cf:kindsOk (Que.few q0).fil:=kinds_few _ hK
 obtain ⟨W0,Dy⟩:∃ W0,(w.alloc (.cells #[.slice ad s0.dims.length Bs,.slice am s0.mets.length B0,.int .i64 s0.grain] 24)).alloc (.cells #[.slice aa q0.aggs.length ca,.slice ab q0.names.length cb,.int .i64 q0.mode,.slice aS q0.sets.length cS,.int .i64 q0.every,.int .i64 q0.fil.kind,.string q0.fil.name,.slice z0 z1 z2,.int .i64 q0.fil.frm,.int .i64 q0.fil.to,.slice z3 q0.fil.l.length z4,.slice ah q0.conds.length ch,.slice ao q0.keys.length co,.int .i64 q0.limit] 35)=W0:=⟨_,rfl⟩
 obtain ⟨k0,k1,kS,kB⟩:=laid2 w (.cells #[.slice ad s0.dims.length Bs,.slice am s0.mets.length B0,.int .i64 s0.grain] 24) (.cells #[.slice aa q0.aggs.length ca,.slice ab q0.names.length cb,.int .i64 q0.mode,.slice aS q0.sets.length cS,.int .i64 q0.every,.int .i64 q0.fil.kind,.string q0.fil.name,.slice z0 z1 z2,.int .i64 q0.fil.frm,.int .i64 q0.fil.to,.slice z3 q0.fil.l.length z4,.slice ah q0.conds.length ch,.slice ao q0.keys.length co,.int .i64 q0.limit] 35)
 rw [Dy] at k0 k1 kS kB
 have C5:=Hd (show Bq w _ _ W0 from ⟨k0,k1,kB⟩)
 clear k0 k1 kS kB
 go_enter Tryz.func5,Tryz.ntmps5
 go_wp2_with (fail)
 go_at_call 10
 refine (shown16_any a0 a1 W0 (HL.out.below C5.out.below)).mono ?_
 rintro e W1 ⟨rfl,Dt⟩
 have Bm:=Hd (C5.out.later Dt)
 clear Dt C5 Dy
 obtain ⟨⟨x0,x1,x2⟩,x3,x4,x5⟩:=can3 Bm.out.k0
 go_wp2_with (fail)
 go_at_call 11
 refine (cutSch_any _ s0 W1 _ (HS.out.ag (Ag.new _ Bm.out.below))).mono ?_
 rintro e W2 ⟨Gn,rfl,B3,Bb⟩
 have Cj:=Bm.out.later Bb
 have B3:=B3.weak (q:=Dq w) (Dq.of Bm.out.lt)
 obtain ⟨s,D4⟩:∃ s,cutSch s0=s:=⟨_,rfl⟩
 rw [D4] at B3
 clear D4
 obtain ⟨Ak,D3,rfl,hd,hm,Bp,Bg⟩:=B3
 have Dx:=Hd (show SchAt (Dq w) W2 (.agg #[Ak,D3,.int .i64 s.grain]) s from ⟨Ak,D3,rfl,hd,hm,Bp,Bg⟩)
 obtain ⟨Cm,Bk,rfl,_⟩:=slp_len hd
 obtain ⟨Fp,Bu,rfl,_⟩:=slp_len hm
 obtain ⟨W3,Ci,Au,Df⟩:=Cj.put0 (.slice Cm s.dims.length Bk) (.slice Fp s.mets.length Bu) (.int .i64 s.grain)
 have D7:=Hd (Dx.out.ag Df)
 have Au:=Hd Au
 clear x0 x1 x2 x3 x4 x5 hd hm Bp Bg Bb Dx Df Bm
 obtain ⟨⟨x0,x1,x2⟩,x3,x4,x5⟩:=can3 Cj.k0
 obtain ⟨y0,y1,y2,y3,y4,y5,y6,y7,y8,y9,ya,yb,yc,yd⟩:=(can14 Au.out.k1).1
 clear Cj
 go_wp2_with (fail)
 go_at_call 12
 refine (few15_any _ n _ q0 _ _ _ _ _ _ _ _ _ _ _ W3 (HQ.out.ag (Ag.new _ Au.out.below))).mono ?_
 rintro e W4 ⟨v',ua,ub,uS,g0,g1,g2,g3,g4,g5,uh,uo,rfl,Ah,Ay,Dd⟩
 have B6:=Au.out.later Dd
 have Ah:=Ah.weak (q:=Dq w) (fun b hb=>by
  rcases hb with hb | hb
  ·exact ⟨by have:=hb.2;omega,by have:=hb.2;omega⟩
  ·exact Dq.of Au.out.lt b hb)
 have D2:=Hd (D7.out.ag (Ag.new _ Dd))
 have Af:(Que.few q0).names.length≤10:=by show ((q0.names.take 10).map (cutN 30)).length≤10;simp;omega
 obtain ⟨Q,hQ⟩:∃ Q,Q=Que.few q0:=⟨_,rfl⟩
 rw [← hQ] at Ah Ay Cf Af
 clear hQ Dd x0 x1 x2 x3 x4 x5 y0 y1 y2 y3 y4 y5 y6 y7 y8 y9 ya yb yc yd Ci D7
 have hv:=Ah.e
 subst hv
 obtain ⟨na,nc,rfl,_,A2⟩:=sls_open Ah.names.1
 obtain ⟨ba,bc,rfl⟩:=Ah.aggs.shape
 obtain ⟨ta,tc,rfl⟩:=Ah.sets.shape
 obtain ⟨ha,hc,rfl⟩:=Ah.conds.shape
 obtain ⟨oa,oc,rfl⟩:=Ah.keys.shape
 obtain ⟨j0,j1,j2,j3,j4,ez⟩:=FilAt.shape6 Ah.fil
 simp only [Value.agg.injEq,Array.mk.injEq,List.cons.injEq,and_true] at ez
 obtain ⟨rfl,rfl,rfl,rfl,rfl,rfl⟩:=ez
 clear A2 Ay Au HQ HS
 obtain ⟨W5,Ez,B9,Ct⟩:=B6.put1 (.slice ba Q.aggs.length bc) (.slice na Q.names.length nc) (.int .i64 Q.mode) (.slice ta Q.sets.length tc) (.int .i64 Q.every) (.int .i64 Q.fil.kind) (.string Q.fil.name) (.slice j0 j1 j2) (.int .i64 Q.fil.frm) (.int .i64 Q.fil.to) (.slice j3 Q.fil.l.length j4) (.slice ha Q.conds.length hc) (.slice oa Q.keys.length oc) (.int .i64 Q.limit)
 obtain ⟨y0,y1,y2,y3,y4,y5,y6,y7,y8,y9,ya,yb,yc,yd⟩:=(can14 B6.k1).1
 have zf:=(can14 B6.k1).2
 have Fu:=zf 0 (by omega)
 have Fv:=zf 1 (by omega)
 have Eg:=zf 2 (by omega)
 have Ef:=zf 3 (by omega)
 have C1:=zf 4 (by omega)
 have En:=zf 5 (by omega)
 have E6:=zf 6 (by omega)
 have Fr:=zf 7 (by omega)
 have Eh:=zf 8 (by omega)
 have F3:=zf 9 (by omega)
 have Fn:=zf 10 (by omega)
 have Fi:=zf 11 (by omega)
 have F4:=zf 12 (by omega)
 have E9:=zf 13 (by omega)
 clear zf
 have F0:=Hd (D2.out.ag Ct)
 have E2:=Hd (Ah.ag Ct)
 have B7:=Hd B9
 obtain ⟨x0,x1,x2⟩:=(can3 B9.k0).1
 obtain ⟨v0,v1,v2,v3,v4,v5,v6,v7,v8,v9,As,Ao,Ap,Ak⟩:=(can14 B9.k1).1
 clear B6 Ah B9 Ct D2
 go_wp2_with (fail)
 have Ee:w.heap.size < W5.heap.size:=by have:=B7.out.lt;omega
 refine FlowT.wp_region 3 [3,4,5,6,7,8] [4,5,6] 7 8 (Flow.specs [.inl ?_,.inl ?_,.inr (iRI (Dq w) (rowsCut 50 rows0))]) (by kernel_rfl) (by kernel_rfl) ?_ rfl rfl rfl ?_
 rotate_left 2
 ·refine Flow.specs_mono ?_
  repeat (first | exact Flow.lmono_nil | refine Flow.lmono_inl ?_ | refine Flow.lmono_inr (iRI2 _ _) ?_)
 all_goals try simp only [List.take_succ_cons,List.take_zero]
 iterate 2 (refine Flow.tree_valK rfl (fun K hK=>⟨fun w' hw hG => ?_,?_⟩);(have Cg:=Flow.bcell hw;clear hG hw;unfold Flow.Runs Flow.yields;go_simp;try rfl);go_simp;refine hK _ ?_;clear hK K)
 (refine Flow.tree_varK rfl (fun K hK=>⟨fun w' hw hG => ?_,?_⟩);(have HW:=Hd hw;clear hG hw;unfold Flow.Runs Flow.yields;go_simp;refine (rows_any _ vr rows0 50 (by omega) _ (Ex.out.ag (Ag.new _ (Bt B7.out.below HW.out)))).mono ?_;rintro e w3 ⟨v3,rfl,Fc,Ba⟩;exact ⟨v3,rfl,Ba,RowsIn.weak Fc (fun b hb=>by
   have h5:=B7.out.lt
   have h6:=HW.out.size
   rcases hb with hb | hb
   ·exact ⟨by have:=hb.2;omega,by have:=hb.2;omega⟩
   ·exact Dq.of h5 b (by omega))⟩);intro v6;go_simp;refine hK _ _ ?_;clear hK K)
 refine Flow.tree_nil fun W6 hB6 hG => ?_
 have By:=(show iRI (Dq w) (rowsCut 50 rows0) v6 W6 by simpa [Flow.upd] using hG 2)
 unfold iRI at By
 clear hG
 have Cs:=cut_rng (n:=50) hrng
 have Ca:=cut_len (n:=50) (rows:=rows0)
 obtain ⟨R,hR⟩:∃ R,rowsCut 50 rows0=R:=⟨_,rfl⟩
 rw [hR] at By Cs Ca
 have Ca:R.length≤50:=by omega
 have Bj:=By
 obtain ⟨ra,rc,rfl,Gm,_⟩:=ListAt.open Bj
 have Cn:=Hd (B7.out.later hB6)
 have Cv:=Hd (F0.out.ag (Ag.new _ hB6))
 have Dw:=Hd (E2.out.ag (Ag.new _ hB6))
 have Ep:=Hd By
 have C6:=Hd Cs
 have Cr:=Hd Ca
 clear hR By Bj hB6 x0 x1 x2 v0 v1 v2 v3 v4 v5 v7 v8 v9 As Ao Ap Ak y0 y1 y2 y3 y4 y5 y6 y7 y8 y9 ya yb yc yd Fu Fv Eg Ef C1 En E6 Fr Eh F3 Fn Fi F4 E9 Ez Cs Ca Ee
 have At:=Hd (roll_law (Dq w) _ _ s R W6 Cv.out Ep.out Cr.out C6.out)
 obtain ⟨eA,hA⟩:∃ eA,rollCode s R=eA:=⟨_,rfl⟩
 rw [hA] at At
 have Dl:=Hd hA
 have Ei:=Cn.out.lt
 clear hA
 go_wp2_with (fail)
 go_at_call 14
 refine At.out.mono ?_
 rintro e W7 ⟨Bo,Bl,Ax,rfl,ha,Cy⟩
 go_wp2_with (fail)
 refine ⟨rfl,_,_,rfl,rfl,(fun w=>by go_simp;try rfl),_,_,rfl,rfl,(fun w=>by go_simp;try rfl),_,_,rfl,rfl,(fun w=>by go_simp;try rfl),?_⟩
 apply both_ways
 ·intro h
  go_wp2_with (fail)
  exact ⟨rfl,h⟩
 ·intro h
  go_wp2_with (fail)
  exact ⟨rfl,h⟩
 have D6:=Hd ha
 have Bh:=Hd (Cn.out.later Cy)
 have A0:=Hd Cy
 clear ha Cy
 by_cases h1:eA=0
 rotate_left
 ·have e1:(eA != (0:Int))=true:=by rw [bne_iff_ne];exact h1
  go_wp2_with (fail)
  go_ret
  exact ⟨rfl,Bh.out.below⟩
 subst h1
 have Fh:∀ b,W6.heap.size≤b→Dq w b:=Dq.of Cn.out.lt
 have Cz:=Hd ((D6.out rfl).weak fun b hb=>Fh b hb)
 have Bw:=Hd (roll_cels Dl.out Cr.out C6.out)
 have B1:=Hd (show ([Tess.rollP s.grain R].flatten.map (·.2.n)).sum≤1000 by
  have:=roll_tot s.grain R;have:=Cr.out;simp only [List.flatten_cons,List.flatten_nil,List.append_nil];omega)
 obtain ⟨x0,x1,x2⟩:=(can3 Bh.out.k0).1
 obtain ⟨v0,v1,v2,v3,v4,v5,v6,v7,v8,v9,As,Ao,Ap,Ak⟩:=(can14 Bh.out.k1).1
 obtain ⟨WA,Dk⟩:∃ WX,W7.alloc (.cells #[.slice Bo Bl Ax] 41)=WX:=⟨_,rfl⟩
 have Ad:=(laid1 W7 (.cells #[.slice Bo Bl Ax] 41)).2.2
 have Ar:=parts1 (v:=.slice Bo Bl Ax) Cz.out
 rw [Dk] at Ad Ar
 have Ar:=Ar.weak (q:=Dq w) (fun b hb=>by
  rcases hb with hb | hb
  ·exact hb
  ·exact Dq.of Bh.out.lt b (by omega))
 have Br:=Hd (Bh.out.later Ad)
 have Av:=Hd (Bt A0.out Ad)
 have E1:=Hd Ad
 have HF:=Hd (fold_any (T:=T) a0 a1 (Dq w) 8 _ _ _ s Q set [Tess.rollP s.grain R] _ _ _ _ _ _ _ _ _ _ _ WA (HL.out.below Br.out.below).vars (HL.out.below Br.out.below).vn (HL.out.below Br.out.below).et (Cv.out.ag (Ag.new _ Av.out)) (Dw.out.ag (Ag.new _ Av.out)) (by omega) Cf Af Ar (by simp) (fun _ C hC=>by obtain rfl:=List.mem_singleton.1 hC;exact Bw.out) B1.out)
 clear Ad Ar
 go_wp2_with (fail)
 go_at_call 15
 refine HF.out.mono ?_
 rintro e WB ⟨gv,rfl,hG,Ad⟩
 obtain ⟨Gh,D8,Gc,rfl⟩:∃ a n c,gv = .slice a n c:=let ⟨a,c,h,_⟩:=hG;⟨a,_,c,h⟩
 have C0:=Hd hG
 have Cc:=Hd (Br.out.later Ad)
 have F6:=Hd Ad
 clear hG Ad Dk HF
 clear x0 x1 x2 v0 v1 v2 v3 v4 v5 v6 v7 v8 v9 As Ao Ap Ak
 have A4:=Hd (show Below W7.heap.size W7 WB from Bt E1.out F6.out)
 by_cases h1:foldE s Q set=0
 rotate_left
 ·obtain rfl:D8=0:=by
   have hg:=C0.out
   unfold foldR at hg
   rw [if_neg h1] at hg
   obtain ⟨_,_,e,_⟩:=hg
   simp only [Value.slice.injEq,List.length_nil] at e
   exact e.2.1
  generalize foldE s Q set=E at *
  have e1:((E:Int) != (0:Int))=true:=by rw [bne_iff_ne];omega
  go_wp2_with (fail)
  go_ret
  exact ⟨rfl,Cc.out.below⟩
 rw [h1]
 have Di:=Hd h1
 have C9:=Hd (Cv.out.ag (Ag.new _ (Bt A0.out A4.out)))
 have C4:=Hd (Dw.out.ag (Ag.new _ (Bt A0.out A4.out)))
 obtain ⟨A7,A8⟩:=Cc.out.set1 4 (.int .i64 0) _ rfl
 have C1:=(can14 Cc.out.k1).2 4 (by omega)
 have u4:=(can14 Cc.out.k1).1.2.2.2.2.1
 obtain ⟨WC,Da⟩:∃ WC,WB.setCell ⟨w.heap.size + 1,4,none⟩ (.int .i64 0)=WC:=⟨_,rfl⟩
 rw [Da] at A7 A8
 have E0:=Hd A8
 have D0:=Hd A7
 have Ey:=Hd (C9.out.ag A8)
 have Fa:=Hd ((C4.out.ag A8).every 0)
 have Fm:=Hd (Cz.out.ag (Ag.trans (Ag.new _ A4.out) A8))
 have Ge:w.heap.size + 1 < WC.heap.size:=A7.lt
 obtain ⟨x0,x1,x2⟩:=(can3 A7.k0).1
 obtain ⟨v0,v1,v2,v3,v4,v5,v6,v7,v8,v9,As,Ao,Ap,Ak⟩:=(can14 A7.k1).1
 clear A7 A8 h1
 go_wp2_with (fail)
 clear u4 C1
 have Gr:w.heap.size < WC.heap.size:=by omega
 refine FlowT.wp_region 9 [9,10,11,12,13,14] [10,11,12] 13 14 (Flow.specs [.inl ?_,.inl ?_,.inl ?_,.inl ?_,.inl ?_,.inl ?_,.inl ?_,.inl ?_,.inr (nP WC.heap.size (.slice Bo Bl Ax))]) (by kernel_rfl) (by kernel_rfl) ?_ rfl rfl rfl ?_
 rotate_left 8
 ·refine Flow.specs_mono ?_
  repeat (first | exact Flow.lmono_nil | refine Flow.lmono_inl ?_ | refine Flow.lmono_inr (nPm _ _) ?_)
 all_goals try simp only [List.take_succ_cons,List.take_zero]
 iterate 8 (refine Flow.tree_valK rfl (fun K hK=>⟨fun w' hw hG => ?_,?_⟩);(have Cg:=Flow.bcell hw;clear hG hw;unfold Flow.Runs Flow.yields;go_simp;try rfl);go_simp;refine hK _ ?_;clear hK K)
 (refine Flow.tree_varK rfl (fun K hK=>⟨fun w' hw hG => ?_,?_⟩);(have HW:=Hd hw;clear hG hw;unfold Flow.Runs Flow.yields;go_simp;exact ⟨(laid1 _ _).2.2,nPm2 _ _ _ HW.out.size⟩);intro vz;go_simp;refine hK _ _ ?_;clear hK K)
 refine Flow.tree_nil fun WD hBD hG => ?_
 have Dh:=(show nP WC.heap.size (.slice Bo Bl Ax) vz WD by simpa [Flow.upd] using hG 8)
 clear hG
 have Cb:=Hd (D0.out.later hBD)
 have El:=Hd (Ey.out.ag (Ag.new _ hBD))
 have E7:=Hd (Fa.out.ag (Ag.new _ hBD))
 have Ar:=po2 Dh (Fm.out.ag (Ag.new _ hBD)) (fun _ h=>h) (Dq.of D0.out.lt)
 have D9:=Hd hBD
 obtain ⟨g1,rfl,Aq,A1,Gv⟩:=Dh
 clear x0 x1 x2 v0 v1 v2 v3 v4 v5 v6 v7 v8 v9 As Ao Ap Ak hBD Da
 have HF:=Hd (fold_any (T:=T) a0 a1 (Dq w) 8 _ _ _ s { Q with every:=0 } ((2 ^ Q.names.length - 1:Nat):Int) [Tess.rollP s.grain R] _ _ _ _ _ _ _ _ _ _ _ WD (HL.out.below Cb.out.below).vars (HL.out.below Cb.out.below).vn (HL.out.below Cb.out.below).et El.out E7.out (by omega) Cf Af Ar (by simp) (fun _ C hC=>by obtain rfl:=List.mem_singleton.1 hC;exact Bw.out) B1.out)
 clear Ar
 go_wp2_with (fail)
 rw [wa2 Af]
 go_at_call 15
 refine HF.out.mono ?_
 rintro e WE ⟨gv,rfl,hG,Ad⟩
 obtain ⟨Gj,Gb,Gt,rfl⟩:∃ a n c,gv = .slice a n c:=let ⟨a,c,h,_⟩:=hG;⟨a,_,c,h⟩
 have D5:=Hd hG
 have Cd:=Hd (Cb.out.later Ad)
 have Es:=Hd Ad
 clear hG Ad HF
 go_wp2_with (fail)
 refine ⟨rfl,_,_,rfl,rfl,(fun w=>by go_simp;try rfl),_,_,rfl,rfl,(fun w=>by go_simp;try rfl),_,_,rfl,rfl,(fun w=>by go_simp;try rfl),?_⟩
 apply both_ways
 ·intro h
  go_wp2_with (fail)
  exact ⟨rfl,h⟩
 ·intro h
  go_wp2_with (fail)
  exact ⟨rfl,h⟩
 rw [fEw Di.out]
 have Aq:=(((C0.out.weak (Dq.of Br.out.lt)).ag E0.out).ag (Ag.new _ D9.out)).ag (Ag.new _ Es.out)
 have A1:=D5.out
 have Aw:=fRo (s:=s) (q:=Q) (set:=set) (C:=Tess.rollP s.grain R) Bw.out.each Af
 have Am:=fRo (s:=s) (q:={ Q with every:=0 }) (set:=((2 ^ Q.names.length - 1:Nat):Int)) (C:=Tess.rollP s.grain R) Bw.out.each Af
 have hT:=to2 (C:=Tess.rollP s.grain R) Bw.out.each Di.out
 have Ai:=fRk (s:=s) (q:=Q) (set:=set) (C:=Tess.rollP s.grain R)
 have Ac:=fRk (s:=s) (q:={ Q with every:=0 }) (set:=((2 ^ Q.names.length - 1:Nat):Int)) (C:=Tess.rollP s.grain R)
 have Aj:∀ L:List Grp,foldR s Q set (Tess.rollP s.grain R)=L→∀ j (h:j + 1 < L.length),L[j].2.1.1=L[j + 1].2.1.1→Tess.Kl.lex Tess.vLt L[j].2.1.2 L[j + 1].2.1.2=true:=fun L e j h ht=>by subst e;exact fRa j h ht
 have Do:=B1.out
 rw [show [Tess.rollP s.grain R].flatten=Tess.rollP s.grain R by simp] at Aq A1 Do
 clear C0 D5 D6 Cz C6 B1 Dl
 rcases hT with ⟨hA,hB⟩ | ⟨a,A,b,hA,hB,hT⟩
 ·rw [hA] at Aq
  rw [hB] at A1
  obtain ⟨_,_,e1,_⟩:=Aq
  obtain ⟨_,_,e2,_⟩:=A1
  simp only [Value.slice.injEq,List.length_nil] at e1 e2
  obtain ⟨_,rfl,_⟩:=e1
  obtain ⟨_,rfl,_⟩:=e2
  clear Aw Am Ai Ac Aj hA hB
  go_wp2_with (fail)
  go_loopw [16,17] (fun c i wr=>c = .int .i64 0∧i = .int .i64 0∧Below WE.heap.size WE wr) (fun _ _ _=>0)
  case atStart=>exact ⟨rfl,rfl,Below.refl _ _⟩
  case round=>
   obtain ⟨rfl,rfl,De⟩:=hrel
   have Fg:=Hd De
   clear De
   go_wp2_with (fail)
   go_ret
   exact ⟨rfl,Bt Cd.out.below Fg.out⟩
 obtain ⟨GA,A9⟩:∃ GA,a :: A=GA:=⟨_,rfl⟩
 replace Aj:=Aj GA (hA.trans A9)
 rw [hA] at Aq Aw Ai
 rw [hB] at A1 Am Ac
 rw [A9] at Aq Aw Ai hT
 have Cq:0 < GA.length:=by rw [← A9];simp
 have Az:totG GA≤1000:=by have:=Aw.2;omega
 have Bz:∀ m < s.mets.length,b.2.2.mins.getD m 0=(GA.map (·.2.2.mins.getD m 0)).foldl Min.min (GA[0].2.2.mins.getD m 0):=fun m hm=>by
  have:=hT.min m hm a A A9.symm
  rw [this]
  subst A9
  rfl
 have HT:=Hd hT
 have C3:=Hd Bz
 have C8:=Hd Aj
 have Al:=Hd Aw.1
 have Bv:=Hd Az
 obtain ⟨am,cm,e1,Ga,Dr⟩:=go2 (N:=Q.names.length) Aq Aw.1 Ai
 obtain ⟨bm,dm,e2,_,Dm⟩:=go2 (N:=Q.names.length) A1 Am.1 Ac
 obtain ⟨b2,o2,rfl,E8,E5,s3,Fd,s4,Fz,hI⟩:=Dm 0 (by simp)
 simp only [Value.slice.injEq,List.length_singleton] at e1 e2
 obtain ⟨rfl,B5,rfl⟩:=e1
 obtain ⟨rfl,Eb,rfl⟩:=e2
 subst B5 Eb
 rw [Nat.zero_mul,Nat.add_zero] at hI
 have HI:=Hd (show GI _ WE s.mets.length Q.names.length b b2 o2 E8 E5 s3 Fd s4 Fz from hI)
 have At:=Hd Dr
 have Gk:((GA.length:Int) == 0)=false:=by rw [beq_eq_false_iff_ne];omega
 clear Aw Am Ai Ac Aj hA hB A9 Aq A1 Dr Dm hI hT Bz Az Do
 go_wp2_with (fail)
 go_loopw [16,17] (fun c i wr => ∃ k:Nat,k≤GA.length∧i = .int .i64 k∧c = .int .i64 (totG (GA.take k))∧Below WE.heap.size WE wr) (fun _ i _=>GA.length - (intOf i).toNat)
 case atStart=>exact ⟨0,Nat.zero_le _,rfl,rfl,Below.refl _ _⟩
 case round=>
  obtain ⟨k,hk,rfl,rfl,Ab⟩:=hrel
  obtain ⟨wa,Et⟩:∃ wa,wa=wr:=⟨_,rfl⟩
  subst Et
  have Be:=Hd Ab
  have C7:=Hd (Cd.out.later Ab)
  clear Ab
  obtain ⟨x0,x1,x2⟩:=(can3 C7.out.k0).1
  obtain ⟨v0,v1,v2,v3,v4,v5,v6,v7,v8,v9,As,Ao,Ap,Ak⟩:=(can14 C7.out.k1).1
  by_cases hlt:k < GA.length
  ·have Fy:(k:Int) < (GA.length:Int):=by omega
   have An:=ss2 GA (·.2.2.n) k hlt
   have hb:=tGt Al.out (k + 1)
   have Gf:=tGt Al.out k
   have B5:=(Al.out _ (List.getElem_mem hlt)).pay.one
   have Az:=Bv.out
   have Cu:=Hd (show ∀ j (h:j + 1=k),GA[j].2.1.1=GA[k].2.1.1→Tess.Kl.lex Tess.vLt GA[j].2.1.2 GA[k].2.1.2=true from fun j h e=>by subst h;exact C8.out j hlt e)
   obtain ⟨b1,A5,rfl,ad,cd,a3,c3,a4,c4,Aa⟩:=At.out k hlt
   replace Aa:=Aa.later Be.out
   have hl:=Aa.lt
   have e1:=Aa.time
   have e2:=Aa.key
   have e3:=Aa.n
   have e4:=Aa.sums
   have C2:=Hd Aa.vals
   clear Aa
   rw [show ((GA.take (k + 1)).map (·.2.2.n)).sum=totG (GA.take (k + 1)) from rfl,show ((GA.take k).map (·.2.2.n)).sum=totG (GA.take k) from rfl] at An
   have Bc:=Hd An
   obtain ⟨t1,Co⟩:∃ t,totG (GA.take (k + 1))=t:=⟨_,rfl⟩
   have Cx:=Hd Co
   rw [Co] at An hb
   have Bd:0≤totG (GA.take k) + GA[k].2.2.n∧totG (GA.take k) + GA[k].2.2.n≤1000:=by omega
   clear Co Bc
   by_cases hk0:k=0
   ·subst hk0
    generalize totG (GA.take 0)=t0 at *
    generalize GA[0]=y at *
    obtain ⟨ys,⟨yt,yk⟩,⟨yn,y3,y4,y5⟩⟩:=y
    simp only at e1 e2 e3 e4 An B5 Bd
    have Bc:=Hd An
    clear An
    go_wp2_with (fail)
    go_quiet (fail)
    go_wp2_with (fail)
    go_roundw
    case rel=>exact ⟨0 + 1,by omega,by go_num,by rw [Cx.out,Bc.out],bd3 Be.out _⟩
    case measure=>simp [intOf];omega
   ·obtain ⟨j,rfl⟩:∃ j,k=j + 1:=⟨k - 1,by omega⟩
    obtain ⟨Gl,Du,eb,Cm,Fe,Ax,F5,F7,Ej,Aa⟩:=At.out j (by omega)
    simp only [Option.some.injEq,Addr.mk.injEq,and_true] at eb
    obtain ⟨rfl,rfl⟩:=eb
    replace Aa:=Aa.later Be.out
    have f1:=Aa.time
    have f2:=Aa.key
    have Cw:=Hd Aa.vals
    have Dn:=Hd (Cu.out j rfl)
    have Gu:(0:Int)≤(j:Int) + 1:=by omega
    have Gg:w.heap.size + 1 < wa.heap.size:=C7.out.lt
    have Gd:w.heap.size < wa.heap.size:=by omega
    have Gq:(j:Int) + 1 < (GA.length:Int):=by omega
    have Go:(j:Int) < (GA.length:Int):=by omega
    have Gw:IntKind.i64.wrap (j:Int)=(j:Int):=by rw [IntKind.wrap_i64];omega
    clear Aa hk0
    generalize totG (GA.take (j + 1))=t0 at *
    generalize GA[j + 1]=y at *
    generalize GA[j]=x at *
    obtain ⟨ys,⟨yt,yk⟩,⟨yn,y3,y4,y5⟩⟩:=y
    obtain ⟨xs,⟨xt,xk⟩,⟨xn,z3,z4,z5⟩⟩:=x
    simp only at e1 e2 e3 e4 An B5 Bd f1 f2 Cw C2 Dn
    have Bc:=Hd An
    clear An
    by_cases ht:xt=yt
    ·have et:(xt == yt)=true:=by rw [beq_iff_eq];exact ht
     have D1:=Hd (fun W (hW:Below wa.heap.size wa W)=>ra2 _ _ _ _ _ _ W (Cw.out.ag (Ag.new _ hW)).w (C2.out.ag (Ag.new _ hW)).w (ValsAt.sizes Cw.out) (ValsAt.sizes C2.out))
     rw [mvO,mvO,Dn.out ht] at D1
     clear ht
     go_wp2_with (fail)
     refine Flow.wp_region_flow_tail 51 (Flow.specs (.inl ?_ :: .inl ?_ :: .inl ?_ :: .inl ?_ :: .inl ?_ :: .inl ?_ :: .inl ?_ :: .inl ?_ :: .inl ?_ :: .inl ?_ :: .inl ?_ :: .inl ?_ :: .inl ?_ :: .inl ?_ :: .inl ?_ :: .inl ?_ :: .inl ?_ :: .inl ?_ :: .inl ?_ :: .inl ?_ :: .inl ?_ :: .inl ?_ :: .inl ?_ :: .inl ?_ :: .inl ?_ :: .inl ?_ :: .inl ?_ :: .inl ?_ :: .inl ?_ :: .inl ?_ :: .inl ?_ :: .inl ?_ :: .inl ?_ :: .inl ?_ :: .inl ?_ :: .inl ?_ :: .inl ?_ :: .inl ?_ :: .inl ?_ :: .inl ?_ :: .inl ?_ :: .inl ?_ :: .inl ?_ :: .inl ?_ :: .inl ?_ :: .inl ?_ :: .inl ?_ :: .inl ?_ :: .inl ?_ :: .inl ?_ :: .inl ?_ :: [])) (by kernel_rfl) (by kernel_rfl) ?mono ?main
     case mono=>
      refine Flow.specs_mono ?_
      repeat (first | exact Flow.lmono_nil | refine Flow.lmono_inl ?_)
     case' main=>skip
     all_goals try simp only [List.take_succ_cons,List.take_zero,List.drop_succ_cons,List.drop_zero]
     iterate 51 (refine Flow.tree_valK rfl (fun K hK=>⟨fun w hw hG => ?_,?_⟩);(have Cg:=Flow.bcell hw;clear hG hw;unfold Flow.Runs Flow.yields;go_simp;try rfl);go_simp;refine hK _ ?_;clear hK K)
     refine Flow.tree_nil fun WL hWL hG => ?_
     clear hG
     go_wp2_with (fail)
     go_at_call 17
     refine (D1.out _ hWL).mono ?_
     rintro e WM ⟨rfl,Dp⟩
     have Ae:=Hd (Bt (Bt Be.out hWL) Dp)
     clear hWL Dp x0 x1 x2 v0 v1 v2 v3 v4 v5 v6 v7 v8 v9 As Ao Ap Ak e1 e2 e3 e4 f1 f2
     go_wp2_with (fail)
     go_roundw
     case rel=>exact ⟨j + 1 + 1,by omega,by go_num,by rw [Cx.out,Bc.out],Ae.out⟩
     case measure=>simp [intOf];omega
    ·have et:(xt == yt)=false:=by rw [beq_eq_false_iff_ne];exact ht
     clear ht
     go_wp2_with (fail)
     go_quiet (fail)
     go_wp2_with (fail)
     go_roundw
     case rel=>exact ⟨j + 1 + 1,by omega,by go_num,by rw [Cx.out,Bc.out],bd3 Be.out _⟩
     case measure=>simp [intOf];omega
  ·have Fy:¬ (k:Int) < (GA.length:Int):=by omega
   rw [List.take_of_length_le (show GA.length≤k by omega)]
   clear hk hlt
   go_wp2_with (fail)
   have F8:=Hd (show Below WE.heap.size WE wa from Be.out)
   go_loopw [18] (fun i wr => ∃ m:Nat,m≤s.mets.length∧i = .int .i64 m∧Below WE.heap.size WE wr) (fun i _=>s.mets.length - (intOf i).toNat)
   case atStart=>exact ⟨0,Nat.zero_le _,rfl,F8.out⟩
   case round=>
    obtain ⟨m,hm,rfl,Dc⟩:=hrel
    obtain ⟨wb,Fk⟩:∃ wb,wb=wr:=⟨_,rfl⟩
    subst Fk
    have Ae:=Hd Dc
    have Ed:=Hd (Cd.out.later Dc)
    clear Dc x0 x1 x2 v0 v1 v2 v3 v4 v5 v6 v7 v8 v9 As Ao Ap Ak
    obtain ⟨x0,x1,x2⟩:=(can3 Ed.out.k0).1
    by_cases hmt:m < s.mets.length
    ·have Ft:(m:Int) < (s.mets.length:Int):=by omega
     obtain ⟨WZ,F2⟩:∃ WZ,wb.alloc (.cells #[.int .i64 0,.int .u64 0] 60)=WZ:=⟨_,rfl⟩
     obtain ⟨z0,zS,zB⟩:=laid1 wb (.cells #[.int .i64 0,.int .u64 0] 60)
     rw [F2] at z0 zS zB
     obtain ⟨b1,A5,E3,ad,cd,a3,c3,a4,c4,Aa⟩:=At.out 0 Cq
     replace Aa:=(Aa.later Ae.out).later zB
     have Gs:=Aa.lt
     have e5:=Aa.mins
     obtain ⟨bn,on,rfl,F9,B8⟩:=Aa.min m hmt
     have Ea:=Hd zB
     have Ff:=Hd z0
     obtain ⟨⟨p0,p1⟩,Ew,Fx⟩:=can2 z0
     have Eq:=set_sameK (o:=0) (v:=.int .i64 0) z0 rfl
     have Eo:=set_sameK (o:=1) (v:=.int .u64 0) z0 rfl
     clear Aa zB z0 zS
     subst E3
     rw [Nat.zero_mul,Nat.add_zero] at e5
     go_wp2_with (fail)
     clear p0 p1 Ew Fx Eq Eo e5 B8
     go_loopw [20,21] (fun l i wr => ∃ k:Nat,k≤GA.length∧i = .int .i64 k∧l = .int .i64 (((GA.take k).map (·.2.2.mins.getD m 0)).foldl Min.min (GA[0].2.2.mins.getD m 0))∧wr.heap[wb.heap.size]? = some (.cells #[.int .i64 (wHi ((GA.take k).map (·.2.2.sums.getD m 0)).sum),.int .u64 (wLo ((GA.take k).map (·.2.2.sums.getD m 0)).sum)] 60 (0,0))∧Below wb.heap.size wb wr) (fun _ i _=>GA.length - (intOf i).toNat)
     case atStart=>exact ⟨0,Nat.zero_le _,rfl,rfl,Ff.out,Ea.out⟩
     case round=>
      obtain ⟨k,hk,rfl,rfl,hg,Ab⟩:=hrel
      obtain ⟨wc,E4⟩:∃ wc,wc=wr:=⟨_,rfl⟩
      subst E4
      have Dz:=Hd hg
      have Ck:=Hd Ab
      have Em:wb.heap.size < wc.heap.size:=(Array.getElem?_eq_some_iff.1 hg).1
      by_cases hkt:k < GA.length
      ·have Fo:(k:Int) < (GA.length:Int):=by omega
       obtain ⟨b3,Fl,eb,Cm,Fe,Ax,F5,F7,Ej,Aa⟩:=At.out k hkt
       simp only [Option.some.injEq,Addr.mk.injEq,and_true] at eb
       obtain ⟨rfl,rfl⟩:=eb
       replace Aa:=Aa.later Ae.out
       have Ba:=Aa.lt
       have Ds:=Aa.sums
       have Dj:=Aa.mins
       obtain ⟨bs,os,rfl,A6,Bn,Bf⟩:=Aa.sum m hmt
       obtain ⟨bq,oq,rfl,Ce,Bx⟩:=Aa.min m hmt
       have e4:=(Ab.cell (p:=⟨b1,A5 + k * 7 + 4,none⟩) Ba).trans Ds
       have B4:=(Ab.cell (p:=⟨bs,os + m * 2,none⟩) A6).trans Bn
       have B2:=(Ab.cell (p:=⟨bs,os + m * 2 + 1,none⟩) A6).trans Bf
       have Db:b1 < wc.heap.size:=Nat.lt_of_lt_of_le Ba Ab.size
       have Cp:bs < wc.heap.size:=Nat.lt_of_lt_of_le A6 Ab.size
       have Fw:=Hd Dj
       have Ec:=Hd Bx
       have Dg:=Hd (And.intro Ba Ce)
       clear Ds Dj Bn Bf Bx Ba A6 Ce
       obtain ⟨⟨p0,p1⟩,_⟩:=can2 hg
       have A3:((GA.take (k + 1)).map (·.2.2.sums.getD m 0)).sum=((GA.take k).map (·.2.2.sums.getD m 0)).sum + GA[k].2.2.sums.getD m 0:=ss2 GA _ k hkt
       have B8:((GA.take (k + 1)).map (·.2.2.mins.getD m 0)).foldl Min.min (GA[0].2.2.mins.getD m 0)=min (((GA.take k).map (·.2.2.mins.getD m 0)).foldl Min.min (GA[0].2.2.mins.getD m 0)) (GA[k].2.2.mins.getD m 0):=ms2 GA _ _ k hkt
       have hw:=st3 hmt Al.out Bv.out (k + 1)
       rw [A3] at hw
       have Ch:=Hd A3
       have F1:=Hd B8
       have Fs:=Hd (fun W=>rAa2 _ _ hw W)
       clear Aa hg A3 B8 hw Ab
       generalize ((GA.take k).map (·.2.2.sums.getD m 0)).sum=S at *
       generalize ((GA.take k).map (·.2.2.mins.getD m 0)).foldl Min.min (GA[0].2.2.mins.getD m 0)=L at *
       generalize GA[k]=y at *
       generalize y.2.2.sums.getD m 0=ys at *
       generalize y.2.2.mins.getD m 0=ym at *
       go_wp2_with (fail)
       refine Flow.wp_region_flow_tail 9 (Flow.specs [.inl ?_,.inl ?_,.inl ?_,.inl ?_,.inl ?_,.inl ?_,.inl ?_,.inl ?_,.inl ?_]) (by kernel_rfl) (by kernel_rfl) ?_ ?_
       rotate_left 9
       ·refine Flow.specs_mono ?_
        repeat (first | exact Flow.lmono_nil | refine Flow.lmono_inl ?_)
       all_goals try simp only [List.take_succ_cons,List.take_zero,List.drop_succ_cons,List.drop_zero]
       iterate 9 (refine Flow.tree_valK rfl (fun K hK=>⟨fun w hw hG => ?_,?_⟩);(have Cg:=Flow.bcell hw;clear hG hw;unfold Flow.Runs Flow.yields;go_simp;try rfl);go_simp;refine hK _ ?_;clear hK K)
       refine Flow.tree_nil fun W1 hW1 hG => ?_
       clear hG
       have Ek:=Hd hW1
       clear hW1 e4 B4 B2 p0 p1 Db Cp
       go_wp2_with (fail)
       go_at_call 18
       refine (Fs.out _).mono ?_
       rintro e W2 ⟨rfl,Dv⟩
       have Bb:=Bt Ek.out Dv
       have h2:=(Bb.block _ Em).trans Dz.out
       obtain ⟨⟨q0,q1⟩,Gi,Gp⟩:=can2 h2
       obtain ⟨W3,Ci⟩:∃ W3,(W2.setCell ⟨wb.heap.size,0,none⟩ (.int .i64 (wHi (S + ys)))).setCell ⟨wb.heap.size,1,none⟩ (.int .u64 (wLo (S + ys)))=W3:=⟨_,rfl⟩
       have h3:=heap_setCell_same _ _ 1 _ _ (.int .u64 (wLo (S + ys))) (heap_setCell_same _ _ 0 _ _ (.int .i64 (wHi (S + ys))) h2)
       have Bi:=((Bt Ck.out Bb).setCell (p:=⟨wb.heap.size,0,none⟩) (Nat.le_refl _) (.int .i64 (wHi (S + ys)))).setCell (p:=⟨wb.heap.size,1,none⟩) (Nat.le_refl _) (.int .u64 (wLo (S + ys)))
       rw [Ci] at h3 Bi
       have e5:=(Bi.cell (p:=⟨b1,A5 + k * 7 + 5,none⟩) Dg.out.1).trans Fw.out
       have Cl:=(Bi.cell (p:=⟨bq,oq + m,none⟩) Dg.out.2).trans Ec.out
       have Ev:=Hd Bi
       have H3:=Hd h3
       clear h3 Bi Bb h2 Dv
       go_wp2_with (fail)
       go_roundw
       case rel=>
        refine ⟨k + 1,by omega,by go_num,?_,?_,Ev.out⟩
        ·rw [F1.out]
        ·rw [Ch.out]
         exact H3.out
       case measure=>simp [intOf];omega
      ·have Fo:¬ (k:Int) < (GA.length:Int):=by omega
       obtain ⟨bs,os,rfl,A6,B4,B2⟩:=(HI.out.later Ae.out).sum m hmt
       obtain ⟨bq,oq,rfl,Ce,Cl⟩:=(HI.out.later Ae.out).min m hmt
       have Bd:=(HI.out.later Ae.out).lt
       have e4:=(Ab.cell (p:=⟨b2,o2 + 4,none⟩) Bd).trans (HI.out.later Ae.out).sums
       have e5:=(Ab.cell (p:=⟨b2,o2 + 5,none⟩) Bd).trans (HI.out.later Ae.out).mins
       replace B4:=(Ab.cell (p:=⟨bs,os + m * 2,none⟩) A6).trans B4
       replace B2:=(Ab.cell (p:=⟨bs,os + m * 2 + 1,none⟩) A6).trans B2
       replace Cl:=(Ab.cell (p:=⟨bq,oq + m,none⟩) Ce).trans Cl
       rw [List.take_of_length_le (show GA.length≤k by omega),← C3.out m hmt]
       rw [List.take_of_length_le (show GA.length≤k by omega),← HT.out.sum m hmt] at hg
       obtain ⟨⟨p0,p1⟩,_⟩:=can2 hg
       have Eu:=Hd (show Below WE.heap.size WE wc from Ae.out.trans (Ab.mono Ae.out.size))
       clear hg Ab Dz
       generalize b.2.2.sums.getD m 0=S at *
       generalize b.2.2.mins.getD m 0=L at *
       have Er:=fun W=>neq_wide S S W
       rw [decide_eq_true rfl] at Er
       go_wp2_with (fail)
       go_quiet (fail)
       go_wp2_with (fail)
       go_roundw
       case rel=>exact ⟨m + 1,by omega,by go_num,bd3 Eu.out _⟩
       case measure=>simp [intOf];omega
    ·have Ft:¬ (m:Int) < (s.mets.length:Int):=by omega
     have Bd:=(HI.out.later Ae.out).lt
     have e3:=(HI.out.later Ae.out).n
     rw [HT.out.n] at e3
     generalize totG GA=z at *
     go_wp2_with (fail)
     go_ret
     exact ⟨rfl,Bt Cd.out.below Ae.out⟩
end Go.Proofs.YtaddkkkchkdgkaaGreatDoor
namespace Go.Proofs.YtaddkkkchkdgkaaGreatDoor
open Go.RowKit Go.Sort
open Tess (Que)
theorem GTW {vs vq vr:Value} {rows0:List Tess.Row} {s0:Tess.Sch} {q0:Que} {P0:Prop} (set:Int) (w:World) (hV:∃ a0 a1,Lw Lib.goPrintTabs a0 a1 w) (hs:SchAt (fun _=>True) w vs s0) (hq:QueOk w vq q0) (hr:RowsIn (fun _=>True) w vr rows0) (hrng:∀ r ∈ rows0,r.rng) (_:P0) :
  Calls Tryz.prog 5 #[vs,vq,vr,.int .i64 set] w fun e w'=>e = .returned (.bool true)∧Below w.heap.size w w':=by
 obtain ⟨a0,a1,hL⟩:=hV
 exact GTa a0 a1 w hL hs hq hr hrng
end Go.Proofs.YtaddkkkchkdgkaaGreatDoor
