/- Joined by mergeQ.py: Q51, Q52, Q53 -/
import Derived.Test.YtbbgjjjeecfnoaaGreatDoorXQ47
import Derived.Test.YtbbgjjjeecfnoaaGreatDoorXQ50
import Derived.Test.YtbbgjjjeecfnoaaGreatDoorXPE
namespace Go.Proofs.YtbbgjjjeecfnoaaGreatDoor
open Go.RowKit Go.Sort
open Tess (Tok Fil Que)
set_option maxRecDepth 100000 in
set_option maxHeartbeats 8000000 in
theorem print_any (p:Nat→Prop) (n:Nat) (v:Value) (q:Que) (va vb vs f0 f1 f2 f3 f4 f5 vh vo:Value) (w:World) (hV:Vy w) (hq:QueAt p n w v q va vb vs f0 f1 f2 f3 f4 f5 vh vo) (hs:SmallQ q) :
  Calls Tryz.prog 29 #[v] w fun e w'=>e = .returned (.tuple #[.string (Tess.Prs.print q).1,.int .i64 (Tess.Prs.print q).2])∧Below w.heap.size w w':=by
 have HQ:=Lib.hid hq
 have hv:=hq.e
 subst hv
 have hsz:(Tok.ofL (Tess.Wr.written q)).size≤9223372036854775807:=by rw [Tess.Tok.size_ofL];have:=hs.w;omega
 have HP1:=Lib.hid (fun (h:Tess.Prs.parse (Tok.ofL (Tess.Wr.written q))=(q,0,0))=>Tess.Prs.print_some h)
 have HP0:=Lib.hid (fun (h:Tess.Prs.parse (Tok.ofL (Tess.Wr.written q))≠(q,0,0))=>Tess.Prs.print_none h)
 have HPK:=Lib.hid (fun (q':Que) (k:Nat) (h:Tess.Prs.parse (Tok.ofL (Tess.Wr.written q))=(q',k,0))=>Tess.Prs.parse_ok h)
 have HWR:=Lib.hid (fun W (h:Below w.heap.size w W)=>written_any p n _ q va vb vs f0 f1 f2 f3 f4 f5 vh vo W (hV.below h).z (HQ.out.ag (Ag.new p h)) hs)
 have HPA:=Lib.hid (fun W (h:Below w.heap.size w W)=>parse_any (Tok.ofL (Tess.Wr.written q)) W (hV.below h) hsz)
 obtain ⟨a1,k1,a2,k2,a3,k3,wa,wn,wc,a4,k4,a5,k5,a6,k6,rfl,rfl,rfl,rfl,rfl,rfl,rfl,rfl,rfl,rfl,rfl⟩:=hq.shapesS
 clear hq hs hV hsz
 unfold ParsePost at HPA
 generalize Tess.Prs.print q=PR at *
 obtain ⟨⟨q',K,C⟩,hPP⟩:∃ P,Tess.Prs.parse (Tok.ofL (Tess.Wr.written q))=P:=⟨_,rfl⟩
 rw [hPP] at HPA HP1 HP0 HPK
 simp only at HPA
 clear hPP
 generalize Tok.ofL (Tess.Wr.written q)=S at *
 obtain ⟨l1,l2,l3⟩:=laid1 w (.cells #[.slice a1 q.aggs.length k1,.slice a2 q.names.length k2,.int .i64 q.mode,.slice a3 q.sets.length k3,.int .i64 q.every,.int .i64 q.fil.kind,.string q.fil.name,.slice wa wn wc,.int .i64 q.fil.frm,.int .i64 q.fil.to,.slice a4 q.fil.l.length k4,.slice a5 q.conds.length k5,.slice a6 q.keys.length k6,.int .i64 q.limit] 35)
 obtain ⟨W0,hW0⟩:∃ W0,w.alloc (.cells #[.slice a1 q.aggs.length k1,.slice a2 q.names.length k2,.int .i64 q.mode,.slice a3 q.sets.length k3,.int .i64 q.every,.int .i64 q.fil.kind,.string q.fil.name,.slice wa wn wc,.int .i64 q.fil.frm,.int .i64 q.fil.to,.slice a4 q.fil.l.length k4,.slice a5 q.conds.length k5,.slice a6 q.keys.length k6,.int .i64 q.limit] 35)=W0:=⟨_,rfl⟩
 rw [hW0] at l1 l2 l3
 have HB0:=Lib.hid l3
 have HKX:=Lib.hid (fun X (hX:Below W0.heap.size W0 X)=>(can14 ((hX.block _ (by omega)).trans l1)).1)
 obtain ⟨c0,c1,c2,c3,c4,c5,c6,c7,c8,c9,ca,cb,cc,cd⟩:=HKX.out W0 (Below.refl _ _)
 clear l1 l2 l3
 go_enter Tryz.func29,Tryz.ntmps29
 go_wp2_with (fail)
 go_at_call 56
 refine (HWR.out _ HB0.out).mono ?_
 rintro e w1 ⟨rfl,hB1⟩
 have HB1:=Lib.hid hB1
 clear hB1 c0 c1 c2 c3 c4 c5 c6 c7 c8 c9 ca cb cc cd
 go_wp2_with (fail)
 go_at_call 30
 refine (HPA.out _ (Bt HB0.out HB1.out)).mono ?_
 rintro e w2 ⟨ua,ub,us,g0,g1,g2,g3,g4,g5,uh,uo,rfl,hq2,hB2⟩
 have HQ2:=Lib.hid hq2
 obtain ⟨b1,j1,b2,j2,b3,j3,xa,xn,xc,b4,j4,b5,j5,b6,j6,rfl,rfl,rfl,rfl,rfl,rfl,rfl,rfl,rfl,rfl,rfl⟩:=hq2.shapesS
 have HB2:=Lib.hid (Bt HB1.out hB2)
 obtain ⟨m1,m2,m3⟩:=laid1 w2 (.cells #[.slice b1 q'.aggs.length j1,.slice b2 q'.names.length j2,.int .i64 q'.mode,.slice b3 q'.sets.length j3,.int .i64 q'.every,.int .i64 q'.fil.kind,.string q'.fil.name,.slice xa xn xc,.int .i64 q'.fil.frm,.int .i64 q'.fil.to,.slice b4 q'.fil.l.length j4,.slice b5 q'.conds.length j5,.slice b6 q'.keys.length j6,.int .i64 q'.limit] 35)
 obtain ⟨W3,hW3⟩:∃ W3,w2.alloc (.cells #[.slice b1 q'.aggs.length j1,.slice b2 q'.names.length j2,.int .i64 q'.mode,.slice b3 q'.sets.length j3,.int .i64 q'.every,.int .i64 q'.fil.kind,.string q'.fil.name,.slice xa xn xc,.int .i64 q'.fil.frm,.int .i64 q'.fil.to,.slice b4 q'.fil.l.length j4,.slice b5 q'.conds.length j5,.slice b6 q'.keys.length j6,.int .i64 q'.limit] 35)=W3:=⟨_,rfl⟩
 rw [hW3] at m1 m2 m3
 have HB3:=Lib.hid (Bt HB2.out m3)
 obtain ⟨c0,c1,c2,c3,c4,c5,c6,c7,c8,c9,ca,cb,cc,cd⟩:=HKX.out W3 HB3.out
 obtain ⟨d0,d1,d2,d3,d4,d5,d6,d7,d8,d9,da,db,dc,dd⟩:=(can14 m1).1
 by_cases hC:C=0
 ·subst hC
  obtain rfl:=HPK.out q' K rfl
  have HSM:=Lib.hid (qsame_any _ p 1000000 n _ _ q' q _ _ _ _ _ _ _ _ _ _ _ _ _ _ _ _ _ _ _ _ _ _ W3 (HQ2.out.ag (Ag.new _ m3)) (HQ.out.ag (Ag.new p (Bt HB0.out HB3.out))))
  clear hq2 hB2 m1 m2 m3 HPA HWR HKX HPK
  by_cases hqq:q'=q
  ·subst hqq
   rw [sameQ_true rfl] at HSM
   have HR:=Lib.hid (HP1.out rfl)
   clear HP0 HP1
   go_wp2_with (go_at_call 31;refine HSM.out.mono ?_;rintro e w4 ⟨rfl,hb4⟩;have HB4:=Lib.hid (Bt HB3.out hb4);clear hb4)
   go_ret2
   exact ⟨by rw [HR.out];rfl,Bt HB0.out HB4.out⟩
  ·rw [sameQ_false hqq] at HSM
   have HR:=Lib.hid (HP0.out fun h=>hqq (Prod.mk.inj h).1)
   clear HP0 HP1 hqq
   go_wp2_with (go_at_call 31;refine HSM.out.mono ?_;rintro e w4 ⟨rfl,hb4⟩;have HB4:=Lib.hid (Bt HB3.out hb4);clear hb4)
   go_ret2
   exact ⟨by rw [HR.out];rfl,Bt HB0.out HB4.out⟩
 ·have hCb:(((C:Nat):Int) != 0)=true:=by rw [bne_iff_ne];omega
  have HR:=Lib.hid (HP0.out fun h=>hC (Prod.mk.inj (Prod.mk.inj h).2).2)
  clear hq2 hB2 m1 m2 m3 HPA HWR HKX HPK HP0 HP1 hC
  go_wp2
  go_ret2
  exact ⟨by rw [HR.out];rfl,Bt HB0.out HB3.out⟩
end Go.Proofs.YtbbgjjjeecfnoaaGreatDoor
namespace Go.Proofs.YtbbgjjjeecfnoaaGreatDoor
open Tess (Tok Fil Que)
open Tess.Prs (wR GoodQ GoodF GoodFL GoodA GoodC GoodK)
open Tess.Wr (sep aggR namesR setR condR keyR wordsR askR askRL queR optR)
theorem smallFL_of {l:List Fil} (h:∀ x ∈ l,SmallF x):SmallFL l:=by
 induction l with
 | nil=>unfold SmallFL;trivial
 | cons f r ih=>unfold SmallFL;exact ⟨h f List.mem_cons_self,ih fun x hx=>h x (List.mem_cons_of_mem _ hx)⟩
end Go.Proofs.YtbbgjjjeecfnoaaGreatDoor
namespace Go.Proofs.YtbbgjjjeecfnoaaGreatDoor
open Go.RowKit Go.Sort
open Tess (Tok Fil Que)
theorem T1_small:SmallQ Tess.Prs.Q1 where
 a1:=by decide
 a2:=by decide
 a3:=by decide +kernel
 n1:=by decide
 n2:=by decide
 n3:=by decide +kernel
 s1:=by decide
 s2:=by decide
 s3:=by decide +kernel
 e:=by decide
 f1:=by simp only [Tess.Prs.Q1,SmallF,SmallFL];decide
 f2:=by decide +kernel
 c1:=by decide
 c2:=by decide
 c3:=by decide +kernel
 k1:=by decide
 k2:=by decide
 k3:=by decide +kernel
 l:=by decide
 w:=by decide +kernel
set_option maxRecDepth 100000 in
set_option maxHeartbeats 8000000 in
theorem shown15_any (w:World) (hV:Vy w):Calls Tryz.prog 27 #[] w fun e w'=>e = .returned (.bool true)∧Below w.heap.size w w':=by
 have HP1:=Lib.hid (fun W (h:Below w.heap.size w W)=>parse_any Tess.Prs.T1 W (hV.below h) (by decide))
 have HP2:=Lib.hid (fun W (h:Below w.heap.size w W)=>parse_any Tess.Prs.T2 W (hV.below h) (by decide))
 have HPR:=Lib.hid (fun va vb vs f0 f1 f2 f3 f4 f5 vh vo v p W (h:Below w.heap.size w W) (hq:QueAt p 1000000 W v Tess.Prs.Q1 va vb vs f0 f1 f2 f3 f4 f5 vh vo)=>print_any p 1000000 v Tess.Prs.Q1 va vb vs f0 f1 f2 f3 f4 f5 vh vo W (hV.below h) hq T1_small)
 unfold ParsePost at HP1 HP2
 rw [Tess.Prs.parse_T1] at HP1
 rw [Tess.Prs.parse_T2] at HP2
 rw [Tess.Prs.print_Q1] at HPR
 unfold Tess.Prs.T1w at HPR
 simp only at HP1 HP2 HPR
 have HL:=Lib.hid (show Tess.Prs.Q1.limit=5 from rfl)
 have HA:=Lib.hid (show Tess.Prs.Q1.aggs.length=2 from rfl)
 generalize Tess.Prs.Q1=q at *
 generalize Tess.Prs.noQue=z at *
 clear hV
 go_enter Tryz.func27,Tryz.ntmps27
 go_wp2_with (fail)
 go_at_call 30
 refine (HP1.out _ (Below.refl _ _)).mono ?_
 rintro e w1 ⟨u0,u1,u2,u3,u4,u5,u6,u7,u8,u9,ua,rfl,hq1,hB1⟩
 have HQ1:=Lib.hid hq1
 obtain ⟨a1,ac1,a2,ac2,a3,ac3,a4,an4,ac4,a5,ac5,a6,ac6,a7,ac7,rfl,rfl,rfl,rfl,rfl,rfl,rfl,rfl,rfl,rfl,rfl⟩:=hq1.shapesS
 obtain ⟨m1,m2,m3⟩:=laid1 w1 (.cells #[.slice a1 q.aggs.length ac1,.slice a2 q.names.length ac2,.int .i64 q.mode,.slice a3 q.sets.length ac3,.int .i64 q.every,.int .i64 q.fil.kind,.string q.fil.name,.slice a4 an4 ac4,.int .i64 q.fil.frm,.int .i64 q.fil.to,.slice a5 q.fil.l.length ac5,.slice a6 q.conds.length ac6,.slice a7 q.keys.length ac7,.int .i64 q.limit] 35)
 obtain ⟨W1,hW1⟩:∃ W1,w1.alloc (.cells #[.slice a1 q.aggs.length ac1,.slice a2 q.names.length ac2,.int .i64 q.mode,.slice a3 q.sets.length ac3,.int .i64 q.every,.int .i64 q.fil.kind,.string q.fil.name,.slice a4 an4 ac4,.int .i64 q.fil.frm,.int .i64 q.fil.to,.slice a5 q.fil.l.length ac5,.slice a6 q.conds.length ac6,.slice a7 q.keys.length ac7,.int .i64 q.limit] 35)=W1:=⟨_,rfl⟩
 rw [hW1] at m1 m2 m3
 have HK1:=Lib.hid m1
 have HB1:=Lib.hid (hB1)
 have HC1:=Lib.hid (Bt HB1.out m3)
 have HM1:=Lib.hid m3
 clear hq1 hB1 m1 m2 m3
 obtain ⟨⟨c0,c1,c2,c3,c4,c5,c6,c7,c8,c9,ca,cb,cc,cd⟩,_⟩:=can14 HK1.out
 go_wp2_with (fail)
 go_at_call 29
 refine (HPR.out _ _ _ _ _ _ _ _ _ _ _ _ _ W1 HC1.out (HQ1.out.ag (Ag.new _ HM1.out))).mono ?_
 rintro e w3 ⟨rfl,hB3⟩
 have HB3:=Lib.hid (Bt HC1.out hB3)
 have HM3:=Lib.hid (Bt HM1.out hB3)
 have HK3:=Lib.hid ((hB3.block _ (Array.getElem?_eq_some_iff.1 HK1.out).1).trans HK1.out)
 clear hB3 c0 c1 c2 c3 c4 c5 c6 c7 c8 c9 ca cb cc cd
 go_wp2_with (fail)
 go_at_call 30
 refine (HP2.out _ HB3.out).mono ?_
 rintro e w4 ⟨u0,u1,u2,u3,u4,u5,u6,u7,u8,u9,ua,rfl,hq4,hB4⟩
 have HQ4:=Lib.hid hq4
 obtain ⟨b1,bc1,b2,bc2,b3,bc3,b4,bn4,bc4,b5,bc5,b6,bc6,b7,bc7,rfl,rfl,rfl,rfl,rfl,rfl,rfl,rfl,rfl,rfl,rfl⟩:=hq4.shapesS
 obtain ⟨m1,m2,m3⟩:=laid1 w4 (.cells #[.slice b1 z.aggs.length bc1,.slice b2 z.names.length bc2,.int .i64 z.mode,.slice b3 z.sets.length bc3,.int .i64 z.every,.int .i64 z.fil.kind,.string z.fil.name,.slice b4 bn4 bc4,.int .i64 z.fil.frm,.int .i64 z.fil.to,.slice b5 z.fil.l.length bc5,.slice b6 z.conds.length bc6,.slice b7 z.keys.length bc7,.int .i64 z.limit] 35)
 obtain ⟨W4,hW4⟩:∃ W4,w4.alloc (.cells #[.slice b1 z.aggs.length bc1,.slice b2 z.names.length bc2,.int .i64 z.mode,.slice b3 z.sets.length bc3,.int .i64 z.every,.int .i64 z.fil.kind,.string z.fil.name,.slice b4 bn4 bc4,.int .i64 z.fil.frm,.int .i64 z.fil.to,.slice b5 z.fil.l.length bc5,.slice b6 z.conds.length bc6,.slice b7 z.keys.length bc7,.int .i64 z.limit] 35)=W4:=⟨_,rfl⟩
 rw [hW4] at m1 m2 m3
 have HK4:=Lib.hid m1
 have HB4:=Lib.hid (Bt HB3.out hB4)
 have hB4k:=(hB4.block _ (Array.getElem?_eq_some_iff.1 HK3.out).1).trans HK3.out
 have HC4:=Lib.hid (Bt HB4.out m3)
 have HM4:=Lib.hid m3
 clear hq4 hB4 m1 m2 m3
 have hK5:=(HM4.out.block _ (Array.getElem?_eq_some_iff.1 hB4k).1).trans hB4k
 obtain ⟨⟨c0,c1,c2,c3,c4,c5,c6,c7,c8,c9,ca,cb,cc,cd⟩,_⟩:=can14 hK5
 have hl5:(q.limit == 5)=true:=by rw [HL.out];rfl
 have ha2:((q.aggs.length:Int) == 2)=true:=by rw [HA.out];rfl
 clear hK5 hB4k
 go_wp2
 go_ret
 exact ⟨rfl,HC4.out⟩
end Go.Proofs.YtbbgjjjeecfnoaaGreatDoor
