/- The law QueryBack: walked. -/
import Derived.Test.YtmfnhjdeoklnlaaGreatDoorYQK
import Derived.Test.YtmfnhjdeoklnlaaGreatDoorYQI
namespace Go.Proofs.YtmfnhjdeoklnlaaGreatDoor
open Go.RowKit Go.Sort
open Tess (Tok Fil Que)
theorem SetsAt.lt' {p:Nat→Prop} {w:World} {v:Value} {l:List (List ByteArray)} (h:SetsAt p w v l):SetsAt (fun b=>p b∧b < w.heap.size) w v l:=by
 obtain ⟨a,cap,hv,h1,h2,h3,h4⟩:=h
 refine ⟨a,cap,hv,h1,h2,h3,fun hl => ?_⟩
 obtain ⟨b,off,ha,hb,hp,hc⟩:=h4 hl
 refine ⟨b,off,ha,hb,⟨hp,hb⟩,fun j hj => ?_⟩
 obtain ⟨c,e1,e2,e3⟩:=hc j hj
 exact ⟨c,e1,e2.lt,e3⟩
theorem QueAt.ltQ' {p:Nat→Prop} {n:Nat} {w:World} {v:Value} {q:Que} {va vb vS f0 f1 f2 f3 f4 f5 vh vo:Value} (h:QueAt p n w v q va vb vS f0 f1 f2 f3 f4 f5 vh vo):QueAt (fun b=>p b∧b < w.heap.size) n w v q va vb vS f0 f1 f2 f3 f4 f5 vh vo:=
 ⟨h.e,h.aggs.lt,h.mets,h.names.lt,h.small,h.sets.lt',h.fil.lt,h.conds.lt,h.keys.lt⟩
set_option maxRecDepth 100000 in
set_option maxHeartbeats 8000000 in
theorem QueryBack_any {v:Value} {q0:Que} (w:World) (hV:Vy w) (hq:QueOk15 w v q0):Calls Tryz.prog 3 #[v] w fun e w'=>e = .returned (.bool true)∧Below w.heap.size w w':=by
 obtain ⟨⟨n,va,vb,vs,f0,f1,f2,f3,f4,f5,vh,vo,hqa⟩,hI,hE,hL,hC,hK⟩:=hq
 have hsm:=small_few hI hE hL hC hK
 clear hI hE hL hC hK
 have HSH:=Lib.hid (fun W (h:Below w.heap.size w W)=>shown15_any W (hV.below h))
 have HFW:=Lib.hid (fun W (h:Below w.heap.size w W)=>few15_any (fun b=>True∧b < w.heap.size) n v q0 va vb vs f0 f1 f2 f3 f4 f5 vh vo W (hqa.ltQ'.ag (Ag.new _ h)))
 unfold FewPost at HFW
 obtain ⟨q,hqe⟩:∃ q,Que.few q0=q:=⟨_,rfl⟩
 rw [hqe] at HFW hsm
 have HPR:=Lib.hid (fun (p:Nat→Prop) va vb vs f0 f1 f2 f3 f4 f5 vh vo v W (h:Below w.heap.size w W) (hq:QueAt p 8 W v q va vb vs f0 f1 f2 f3 f4 f5 vh vo)=>print_any p 8 v q va vb vs f0 f1 f2 f3 f4 f5 vh vo W (hV.below h) hq hsm)
 have hsz:(Tok.ofL (Tess.Wr.written q)).size≤9223372036854775807:=by rw [Tok.size_ofL];have:=hsm.w;omega
 have HP2:=Lib.hid (fun W (h:Below w.heap.size w W)=>parse_any (Tok.ofL (Tess.Wr.written q)) W (hV.below h) hsz)
 unfold ParsePost at HP2
 obtain ⟨z1,y1,z2,y2,z3,y3,z4,n4,y4,z5,y5,z6,y6,z7,y7,rfl,rfl,rfl,rfl,rfl,rfl,rfl,rfl,rfl,rfl,rfl⟩:=hqa.shapesS
 have hve:=hqa.e
 subst hve
 clear hqa hsz hsm hqe hV
 by_cases hw:Tess.Prs.parse (Tok.ofL (Tess.Wr.written q))=(q,0,0)
 ·rw [Tess.Prs.print_some hw] at HPR
  rw [hw] at HP2
  simp only at HP2 HPR
  generalize Tok.ofL (Tess.Wr.written q)=T at *
  clear hw
  obtain ⟨m1,m2,m3⟩:=laid1 w (.cells #[.slice z1 q0.aggs.length y1,.slice z2 q0.names.length y2,.int .i64 q0.mode,.slice z3 q0.sets.length y3,.int .i64 q0.every,.int .i64 q0.fil.kind,.string q0.fil.name,.slice z4 n4 y4,.int .i64 q0.fil.frm,.int .i64 q0.fil.to,.slice z5 q0.fil.l.length y5,.slice z6 q0.conds.length y6,.slice z7 q0.keys.length y7,.int .i64 q0.limit] 33)
  obtain ⟨W0,hW0⟩:∃ W0,w.alloc (.cells #[.slice z1 q0.aggs.length y1,.slice z2 q0.names.length y2,.int .i64 q0.mode,.slice z3 q0.sets.length y3,.int .i64 q0.every,.int .i64 q0.fil.kind,.string q0.fil.name,.slice z4 n4 y4,.int .i64 q0.fil.frm,.int .i64 q0.fil.to,.slice z5 q0.fil.l.length y5,.slice z6 q0.conds.length y6,.slice z7 q0.keys.length y7,.int .i64 q0.limit] 33)=W0:=⟨_,rfl⟩
  rw [hW0] at m1 m2 m3
  have HK0:=Lib.hid m1
  have HB0:=Lib.hid m3
  have HS0:=Lib.hid m2
  clear m1 m2 m3
  go_enter Tryz.func3,Tryz.ntmps3
  go_wp2_with (fail)
  go_at_call 9
  refine (HSH.out _ HB0.out).mono ?_
  rintro e w1 ⟨rfl,hB1⟩
  have HB1:=Lib.hid (Bt HB0.out hB1)
  have hK1:=(hB1.block _ (Array.getElem?_eq_some_iff.1 HK0.out).1).trans HK0.out
  have HK1:=Lib.hid hK1
  obtain ⟨⟨c0,c1,c2,c3,c4,c5,c6,c7,c8,c9,ca,cb,cc,cd⟩,_⟩:=can14 hK1
  clear hB1 hK1
  go_wp2_with (fail)
  go_at_call 10
  refine (HFW.out _ HB1.out).mono ?_
  rintro e w2 ⟨v',u0,u1,u2,u3,u4,u5,u6,u7,u8,u9,ua,rfl,hq2,_,hB2⟩
  have HQ2:=Lib.hid hq2
  have hv2:=hq2.e
  obtain ⟨a1,ac1,a2,ac2,a3,ac3,a4,an4,ac4,a5,ac5,a6,ac6,a7,ac7,rfl,rfl,rfl,rfl,rfl,rfl,rfl,rfl,rfl,rfl,rfl⟩:=hq2.shapesS
  subst hv2
  have hK2:=(hB2.block _ (Array.getElem?_eq_some_iff.1 HK1.out).1).trans HK1.out
  have HB2:=Lib.hid (Bt HB1.out hB2)
  clear hq2 c0 c1 c2 c3 c4 c5 c6 c7 c8 c9 ca cb cc cd
  obtain ⟨⟨c0,c1,c2,c3,c4,c5,c6,c7,c8,c9,ca,cb,cc,cd⟩,_⟩:=can14 hK2
  obtain ⟨W3,hW3,hk3,ho3,hs3,hb3⟩:=box14 (.slice a1 q.aggs.length ac1) (.slice a2 q.names.length ac2) (.int .i64 q.mode) (.slice a3 q.sets.length ac3) (.int .i64 q.every) (.int .i64 q.fil.kind) (.string q.fil.name) (.slice a4 an4 ac4) (.int .i64 q.fil.frm) (.int .i64 q.fil.to) (.slice a5 q.fil.l.length ac5) (.slice a6 q.conds.length ac6) (.slice a7 q.keys.length ac7) (.int .i64 q.limit) hK2
  have hgt:w.heap.size < w1.heap.size:=(Array.getElem?_eq_some_iff.1 HK1.out).1
  have HK3:=Lib.hid hk3
  have HB3:=Lib.hid (hb3 w HB2.out (Nat.le_refl _))
  have HQ3:=Lib.hid (HQ2.out.ag (w':=W3) ⟨by omega,fun b _ hb=>ho3 b fun e=>by rcases hb with hb | hb <;> omega⟩)
  clear hK2 hk3 ho3 hs3 hb3 hgt
  obtain ⟨⟨e0,e1,e2,e3,e4,e5,e6,e7,e8,e9,ea,eb,ee,ed⟩,_⟩:=can14 HK3.out
  go_wp2_with (fail)
  go_at_call 11
  refine (HPR.out _ _ _ _ _ _ _ _ _ _ _ _ _ W3 HB3.out HQ3.out).mono ?_
  rintro e w4 ⟨rfl,hB4⟩
  have HB4:=Lib.hid (Bt HB3.out hB4)
  have HM4:=Lib.hid hB4
  have HK4:=Lib.hid ((hB4.block _ (Array.getElem?_eq_some_iff.1 HK3.out).1).trans HK3.out)
  clear hB4 e0 e1 e2 e3 e4 e5 e6 e7 e8 e9 ea eb ee ed c0 c1 c2 c3 c4 c5 c6 c7 c8 c9 ca cb cc cd
  go_wp2_with (fail)
  go_at_call 12
  refine (HP2.out _ HB4.out).mono ?_
  rintro e w5 ⟨u0,u1,u2,u3,u4,u5,u6,u7,u8,u9,ua,rfl,hq5,hB5⟩
  have HQ5:=Lib.hid hq5
  obtain ⟨b1,bc1,b2,bc2,b3,bc3,b4,bn4,bc4,b5,bc5,b6,bc6,b7,bc7,rfl,rfl,rfl,rfl,rfl,rfl,rfl,rfl,rfl,rfl,rfl⟩:=hq5.shapesS
  obtain ⟨m1,m2,m3⟩:=laid1 w5 (.cells #[.slice b1 q.aggs.length bc1,.slice b2 q.names.length bc2,.int .i64 q.mode,.slice b3 q.sets.length bc3,.int .i64 q.every,.int .i64 q.fil.kind,.string q.fil.name,.slice b4 bn4 bc4,.int .i64 q.fil.frm,.int .i64 q.fil.to,.slice b5 q.fil.l.length bc5,.slice b6 q.conds.length bc6,.slice b7 q.keys.length bc7,.int .i64 q.limit] 33)
  obtain ⟨W5,hW5⟩:∃ W5,w5.alloc (.cells #[.slice b1 q.aggs.length bc1,.slice b2 q.names.length bc2,.int .i64 q.mode,.slice b3 q.sets.length bc3,.int .i64 q.every,.int .i64 q.fil.kind,.string q.fil.name,.slice b4 bn4 bc4,.int .i64 q.fil.frm,.int .i64 q.fil.to,.slice b5 q.fil.l.length bc5,.slice b6 q.conds.length bc6,.slice b7 q.keys.length bc7,.int .i64 q.limit] 33)=W5:=⟨_,rfl⟩
  rw [hW5] at m1 m2 m3
  have HK5:=Lib.hid m1
  have hBX:=hB5
  have HB5:=Lib.hid (Bt HB4.out (hB5))
  have HC5:=Lib.hid (Bt HB5.out m3)
  have HB5k:=Lib.hid (Bt hBX m3)
  clear hBX
  have HM5:=Lib.hid m3
  clear hq5 hB5 m1 m2 m3
  have hK6:=(HB5k.out.block _ (Array.getElem?_eq_some_iff.1 HK4.out).1).trans HK4.out
  obtain ⟨⟨c0,c1,c2,c3,c4,c5,c6,c7,c8,c9,ca,cb,cc,cd⟩,_⟩:=can14 HK5.out
  obtain ⟨⟨d0,d1,d2,d3,d4,d5,d6,d7,d8,d9,da,db,dd,dd⟩,_⟩:=can14 hK6
  have hM35:=Bt HM4.out HB5k.out
  have HSM:=Lib.hid (qsame_any _ _ 1000000 8 _ _ q q _ _ _ _ _ _ _ _ _ _ _ _ _ _ _ _ _ _ _ _ _ _ W5 (HQ5.out.ag (Ag.new _ HM5.out)) (HQ3.out.ag (Ag.new _ hM35)))
  rw [sameQ_true rfl] at HSM
  clear hK6 hM35
  go_wp2_with (go_at_call 13;refine HSM.out.mono ?_;rintro e w6 ⟨rfl,hb6⟩;have HB6:=Lib.hid (Bt HC5.out hb6);clear hb6)
  go_ret
  exact ⟨rfl,HB6.out⟩
 ·rw [Tess.Prs.print_none hw] at HPR
  simp only at HPR
  clear hw HP2
  obtain ⟨m1,m2,m3⟩:=laid1 w (.cells #[.slice z1 q0.aggs.length y1,.slice z2 q0.names.length y2,.int .i64 q0.mode,.slice z3 q0.sets.length y3,.int .i64 q0.every,.int .i64 q0.fil.kind,.string q0.fil.name,.slice z4 n4 y4,.int .i64 q0.fil.frm,.int .i64 q0.fil.to,.slice z5 q0.fil.l.length y5,.slice z6 q0.conds.length y6,.slice z7 q0.keys.length y7,.int .i64 q0.limit] 33)
  obtain ⟨W0,hW0⟩:∃ W0,w.alloc (.cells #[.slice z1 q0.aggs.length y1,.slice z2 q0.names.length y2,.int .i64 q0.mode,.slice z3 q0.sets.length y3,.int .i64 q0.every,.int .i64 q0.fil.kind,.string q0.fil.name,.slice z4 n4 y4,.int .i64 q0.fil.frm,.int .i64 q0.fil.to,.slice z5 q0.fil.l.length y5,.slice z6 q0.conds.length y6,.slice z7 q0.keys.length y7,.int .i64 q0.limit] 33)=W0:=⟨_,rfl⟩
  rw [hW0] at m1 m2 m3
  have HK0:=Lib.hid m1
  have HB0:=Lib.hid m3
  have HS0:=Lib.hid m2
  clear m1 m2 m3
  go_enter Tryz.func3,Tryz.ntmps3
  go_wp2_with (fail)
  go_at_call 9
  refine (HSH.out _ HB0.out).mono ?_
  rintro e w1 ⟨rfl,hB1⟩
  have HB1:=Lib.hid (Bt HB0.out hB1)
  have hK1:=(hB1.block _ (Array.getElem?_eq_some_iff.1 HK0.out).1).trans HK0.out
  have HK1:=Lib.hid hK1
  obtain ⟨⟨c0,c1,c2,c3,c4,c5,c6,c7,c8,c9,ca,cb,cc,cd⟩,_⟩:=can14 hK1
  clear hB1 hK1
  go_wp2_with (fail)
  go_at_call 10
  refine (HFW.out _ HB1.out).mono ?_
  rintro e w2 ⟨v',u0,u1,u2,u3,u4,u5,u6,u7,u8,u9,ua,rfl,hq2,_,hB2⟩
  have HQ2:=Lib.hid hq2
  have hv2:=hq2.e
  obtain ⟨a1,ac1,a2,ac2,a3,ac3,a4,an4,ac4,a5,ac5,a6,ac6,a7,ac7,rfl,rfl,rfl,rfl,rfl,rfl,rfl,rfl,rfl,rfl,rfl⟩:=hq2.shapesS
  subst hv2
  have hK2:=(hB2.block _ (Array.getElem?_eq_some_iff.1 HK1.out).1).trans HK1.out
  have HB2:=Lib.hid (Bt HB1.out hB2)
  clear hq2 c0 c1 c2 c3 c4 c5 c6 c7 c8 c9 ca cb cc cd
  obtain ⟨⟨c0,c1,c2,c3,c4,c5,c6,c7,c8,c9,ca,cb,cc,cd⟩,_⟩:=can14 hK2
  obtain ⟨W3,hW3,hk3,ho3,hs3,hb3⟩:=box14 (.slice a1 q.aggs.length ac1) (.slice a2 q.names.length ac2) (.int .i64 q.mode) (.slice a3 q.sets.length ac3) (.int .i64 q.every) (.int .i64 q.fil.kind) (.string q.fil.name) (.slice a4 an4 ac4) (.int .i64 q.fil.frm) (.int .i64 q.fil.to) (.slice a5 q.fil.l.length ac5) (.slice a6 q.conds.length ac6) (.slice a7 q.keys.length ac7) (.int .i64 q.limit) hK2
  have hgt:w.heap.size < w1.heap.size:=(Array.getElem?_eq_some_iff.1 HK1.out).1
  have HK3:=Lib.hid hk3
  have HB3:=Lib.hid (hb3 w HB2.out (Nat.le_refl _))
  have HQ3:=Lib.hid (HQ2.out.ag (w':=W3) ⟨by omega,fun b _ hb=>ho3 b fun e=>by rcases hb with hb | hb <;> omega⟩)
  clear hK2 hk3 ho3 hs3 hb3 hgt
  obtain ⟨⟨e0,e1,e2,e3,e4,e5,e6,e7,e8,e9,ea,eb,ee,ed⟩,_⟩:=can14 HK3.out
  go_wp2_with (fail)
  go_at_call 11
  refine (HPR.out _ _ _ _ _ _ _ _ _ _ _ _ _ W3 HB3.out HQ3.out).mono ?_
  rintro e w4 ⟨rfl,hB4⟩
  have HB4:=Lib.hid (Bt HB3.out hB4)
  have HM4:=Lib.hid hB4
  have HK4:=Lib.hid ((hB4.block _ (Array.getElem?_eq_some_iff.1 HK3.out).1).trans HK3.out)
  clear hB4 e0 e1 e2 e3 e4 e5 e6 e7 e8 e9 ea eb ee ed c0 c1 c2 c3 c4 c5 c6 c7 c8 c9 ca cb cc cd
  go_wp2
  go_ret
  exact ⟨rfl,HB4.out⟩
end Go.Proofs.YtmfnhjdeoklnlaaGreatDoor
