/- Is a query a schema's: walked. -/
import Derived.Test.YtaddkkkchkdgkaaGreatDoorCC38
import Derived.Test.YtaddkkkchkdgkaaGreatDoorCC06
namespace Go.Proofs.YtaddkkkchkdgkaaGreatDoor
open Go.RowKit Go.Sort
open Tess (Fil Que)
theorem isAll_agg (p:Nat→Prop) (va vd vm:Value) (s:Tess.Sch) (l:List Tess.Agg) (B:Nat) (W:World) (hb:W.heap[B]? = some (.cells #[vd,vm,.int .i64 s.grain] 24 (0,0))) (hs:SA p W (.agg #[vd,vm,.int .i64 s.grain]) s) (hl:RA 2 aggF p W va l) :
  Calls Tryz.prog 117 #[va,.func (.func 118) #[] #[.pointer (some ⟨B,0,none⟩)]] W fun e w'=>e = .returned (.bool (l.all (Que.iT s)))∧Below W.heap.size W w':=by
 obtain ⟨a,Ad,rfl,Ab,_,_,hc⟩:=hl
 refine all_agg _ l a Ad _ W Ab fun k hk => ?_
 obtain ⟨b,Ae,ha,Ac,_,Aa⟩:=hc (by omega)
 exact ⟨b,Ae,ha,Ac,_,_,⟨Aa k hk 0 (by omega),Aa k hk 1 (by omega)⟩,fun X hX=>clo1_any p s vd vm B X ((hX.block _ (Array.getElem?_eq_some_iff.1 hb).1).trans hb) (hs.ag (Ag.new p hX)) l[k].kind l[k].met⟩
theorem isAll_name (p:Nat→Prop) (vb vd vm:Value) (s:Tess.Sch) (l:List ByteArray) (B:Nat) (W:World) (hb:W.heap[B]? = some (.cells #[vd,vm,.int .i64 s.grain] 24 (0,0))) (hs:SA p W (.agg #[vd,vm,.int .i64 s.grain]) s) (hl:SlP p W vb (l.map .string)) :
  Calls Tryz.prog 121 #[vb,.func (.func 122) #[] #[.pointer (some ⟨B,0,none⟩)]] W fun e w'=>e = .returned (.bool (l.all fun x=>(Tess.dimW s x).2))∧Below W.heap.size W w':=by
 obtain ⟨a,Ad,rfl,Ac,hc⟩:=so2 hl.1
 refine all_name _ l a Ad _ W (by unfold maxLen;omega) fun k hk => ?_
 obtain ⟨b,Ae,ha,Ab,Aa⟩:=hc k hk
 exact ⟨b,Ae,ha,Ab,_,Aa,fun X hX=>clo2_any p s vd vm B X ((hX.block _ (Array.getElem?_eq_some_iff.1 hb).1).trans hb) (hs.ag (Ag.new p hX)) l[k]⟩
theorem isAll_set (p:Nat→Prop) (vS vb:Value) (l:List (List ByteArray)) (names:List ByteArray) (B:Nat) (W:World) (hlt:B < W.heap.size) (hb:W.cell? ⟨B,1,none⟩=some vb) (hn:SlP p W vb (names.map .string)) (hl:SA2 p W vS l) :
  Calls Tryz.prog 123 #[vS,.func (.func 124) #[] #[.pointer (some ⟨B,0,none⟩)]] W fun e w'=>e = .returned (.bool (l.all fun x=>Que.iO x names))∧Below W.heap.size W w':=by
 obtain ⟨a,Ad,rfl,Ab,_,_,hc⟩:=hl
 refine all_set _ l a Ad _ W Ab fun k hk => ?_
 obtain ⟨b,Ae,ha,Ac,_,Aa⟩:=hc (by omega)
 obtain ⟨c,e1,e2,_⟩:=Aa k hk
 exact ⟨b,Ae,ha,Ac,c,e1,fun X hX=>clo3_any c vb l[k] names B X ((hX.cell (p:=⟨B,1,none⟩) hlt).trans hb) (e2.1.below hX) (hn.1.below hX)⟩
theorem isAll_cond (p:Nat→Prop) (vh:Value) (l:List Tess.Cond) (aa:Option Addr) (na ca:Nat) (hna:na≤9223372036854775807) (B:Nat) (W:World) (hlt:B < W.heap.size) (hb:W.cell? ⟨B,0,none⟩=some (.slice aa na ca)) (hl:RA 3 condF p W vh l) :
  Calls Tryz.prog 125 #[vh,.func (.func 126) #[] #[.pointer (some ⟨B,0,none⟩)]] W fun e w'=>e = .returned (.bool (l.all (Que.cO na)))∧Below W.heap.size W w':=by
 obtain ⟨a,Ad,rfl,Ab,_,_,hc⟩:=hl
 refine all_cond _ l a Ad _ W Ab fun k hk => ?_
 obtain ⟨b,Ae,ha,Ac,_,Aa⟩:=hc (by omega)
 exact ⟨b,Ae,ha,Ac,_,_,_,⟨Aa k hk 0 (by omega),Aa k hk 1 (by omega),Aa k hk 2 (by omega)⟩,fun X hX=>clo4_any l[k] aa na ca hna B X (Nat.lt_of_lt_of_le hlt hX.size) ((hX.cell (p:=⟨B,0,none⟩) hlt).trans hb)⟩
theorem isAll_key (p:Nat→Prop) (vo:Value) (l:List Tess.Key) (aa ab:Option Addr) (na ca nb cb:Nat) (hna:na≤9223372036854775807) (hnb:nb≤9223372036854775807) (B:Nat) (W:World) (hlt:B < W.heap.size) (hb:W.cell? ⟨B,0,none⟩=some (.slice aa na ca)) (hb1:W.cell? ⟨B,1,none⟩=some (.slice ab nb cb)) (hl:RA 3 keyF p W vo l) :
  Calls Tryz.prog 127 #[vo,.func (.func 128) #[] #[.pointer (some ⟨B,0,none⟩)]] W fun e w'=>e = .returned (.bool (l.all (Que.keyOk na nb)))∧Below W.heap.size W w':=by
 obtain ⟨a,Ad,rfl,Ab,_,_,hc⟩:=hl
 refine all_key _ l a Ad _ W Ab fun k hk => ?_
 obtain ⟨b,Ae,ha,Ac,_,Aa⟩:=hc (by omega)
 exact ⟨b,Ae,ha,Ac,_,_,_,⟨Aa k hk 0 (by omega),Aa k hk 1 (by omega),Aa k hk 2 (by omega)⟩,fun X hX=>clo5_any l[k] aa ab na ca nb cb hna hnb B X (Nat.lt_of_lt_of_le hlt hX.size) ((hX.cell (p:=⟨B,0,none⟩) hlt).trans hb) ((hX.cell (p:=⟨B,1,none⟩) hlt).trans hb1)⟩
theorem first6 (b1 b2 b3 b4 b5 b6:Bool):b1=false∨(b1=true∧b2=false)∨(b1=true∧b2=true∧b3=false)∨(b1=true∧b2=true∧b3=true∧b4=false)∨(b1=true∧b2=true∧b3=true∧b4=true∧b5=false)∨(b1=true∧b2=true∧b3=true∧b4=true∧b5=true∧b6=false)∨(b1=true∧b2=true∧b3=true∧b4=true∧b5=true∧b6=true):=by
 cases b1 <;> cases b2 <;> cases b3 <;> cases b4 <;> cases b5 <;> cases b6 <;> simp
set_option maxRecDepth 100000 in
set_option maxHeartbeats 4000000 in
theorem isOf_any (p:Nat→Prop) (n:Nat) (vs v:Value) (s:Tess.Sch) (q:Que) (va vb vS f0 f1 f2 f3 f4 f5 vh vo:Value) (w:World) (hs:SA p w vs s) (hq:QA p n w v q va vb vS f0 f1 f2 f3 f4 f5 vh vo) :
  Calls Tryz.prog 78 #[vs,v] w fun e w'=>e = .returned (.bool (Que.isOf s q))∧Below w.heap.size w w':=by
 have Ay:=hq.aggs.len
 have Bb:=hq.sets.len
 have A9:=hq.conds.len
 have Ba:=hq.keys.len
 obtain ⟨ab,cb,eb,A8,Aq⟩:=so2 hq.names.1
 clear Aq
 obtain ⟨aa,ca,ea⟩:=hq.aggs.shape
 obtain ⟨aS,cS,eS⟩:=hq.sets.shape
 obtain ⟨ah,ch,eh⟩:=hq.conds.shape
 obtain ⟨ao,co,eo⟩:=hq.keys.shape
 obtain ⟨vd,vm,rfl,hd,hm,A2,Ax⟩:=hs
 have hs:SA p w (.agg #[vd,vm,.int .i64 s.grain]) s:=⟨vd,vm,rfl,hd,hm,A2,Ax⟩
 obtain ⟨W0,A6⟩:∃ W0,(w.alloc (.cells #[vd,vm,.int .i64 s.grain] 24)).alloc (.cells #[va,vb,.int .i64 q.mode,vS,.int .i64 q.every,f0,f1,f2,f3,f4,f5,vh,vo,.int .i64 q.limit] 35)=W0:=⟨_,rfl⟩
 obtain ⟨h1,h2,Ar,Ao⟩:=la3 w (.cells #[vd,vm,.int .i64 s.grain] 24) (.cells #[va,vb,.int .i64 q.mode,vS,.int .i64 q.every,f0,f1,f2,f3,f4,f5,vh,vo,.int .i64 q.limit] 35)
 rw [A6] at h1 h2 Ar Ao
 have hv:=hq.e
 have Ad:=Hd (fun X (hX:Below W0.heap.size W0 X)=>(ca2 ((hX.block _ (Array.getElem?_eq_some_iff.1 h2).1).trans h2)).1)
 have q0:=fun X (hX:Below W0.heap.size W0 X)=>hs.ag (Ag.new p (Bt Ao hX))
 have q1:=fun X (hX:Below W0.heap.size W0 X)=>hq.ag (Ag.new p (Bt Ao hX))
 have b0:=fun X (hX:Below W0.heap.size W0 X)=>(hX.block _ (Array.getElem?_eq_some_iff.1 h1).1).trans h1
 have Ap:=fun X (hX:Below W0.heap.size W0 X)=>Nat.lt_of_lt_of_le (Array.getElem?_eq_some_iff.1 h2).1 hX.size
 have HA:=Hd (fun X (hX:Below W0.heap.size W0 X)=>isAll_agg p va vd vm s q.aggs w.heap.size X (b0 X hX) (q0 X hX) (q1 X hX).aggs)
 have HO:=Hd (fun X (hX:Below W0.heap.size W0 X)=>iOa vb vb q.names q.names X (q1 X hX).names.1 (q1 X hX).names.1)
 have HN:=Hd (fun X (hX:Below W0.heap.size W0 X)=>isAll_name p vb vd vm s q.names w.heap.size X (b0 X hX) (q0 X hX) (q1 X hX).names)
 have HS:=Hd (fun X (hX:Below W0.heap.size W0 X)=>isAll_set p vS vb q.sets q.names (w.heap.size + 1) X (Ap X hX) (Ad.out X hX).2.1 (q1 X hX).names (q1 X hX).sets)
 have HC:=Hd (fun X (hX:Below W0.heap.size W0 X)=>isAll_cond p vh q.conds aa q.aggs.length ca Ay (w.heap.size + 1) X (Ap X hX) (by rw [← ea];exact (Ad.out X hX).1) (q1 X hX).conds)
 have HK:=Hd (fun X (hX:Below W0.heap.size W0 X)=>isAll_key p vo q.keys aa ab q.aggs.length ca q.names.length cb Ay A8 (w.heap.size + 1) X (Ap X hX) (by rw [← ea];exact (Ad.out X hX).1) (by rw [← eb];exact (Ad.out X hX).2.1) (q1 X hX).keys)
 have HR:RowKit.Hid (Que.isOf s q=(Que.sO4 q && q.aggs.all (Que.iT s) && Que.iO q.names q.names && q.names.all (fun x=>(Tess.dimW s x).2) && q.sets.all (fun l=>Que.iO l q.names) && q.conds.all (Que.cO q.aggs.length) && q.keys.all (Que.keyOk q.aggs.length q.names.length))):=Hd rfl
 have HZ:RowKit.Hid (Que.sO4 q=(Tess.within q.aggs.length 1 6 && decide (q.names.length≤6) && Tess.within q.mode 1 4 && Tess.within q.sets.length (if q.mode=4 then 1 else 0) (if q.mode=4 then 8 else 0) && decide (q.conds.length≤4) && decide (q.keys.length≤4) && Tess.within q.limit 0 1000)):=Hd rfl
 generalize Que.isOf s q=r at *
 generalize Que.sO4 q=z at *
 generalize q.aggs.all (Que.iT s)=c1 at *
 generalize Que.iO q.names q.names=c2 at *
 generalize q.names.all (fun x=>(Tess.dimW s x).2)=c3 at *
 generalize q.sets.all (fun l=>Que.iO l q.names)=c4 at *
 generalize q.conds.all (Que.cO q.aggs.length)=c5 at *
 generalize q.keys.all (Que.keyOk q.aggs.length q.names.length)=c6 at *
 have Af:=Hd Ao
 have Ah:=Below.refl W0.heap.size W0
 subst hv
 clear hs hd hm A2 Ax h1 h2 Ar Ao q0 q1 b0 Ap hq
 generalize q.aggs.length=na at *
 generalize q.names.length=nb at *
 generalize q.sets.length=nS at *
 generalize q.conds.length=nh at *
 generalize q.keys.length=no at *
 generalize q.mode=mode at *
 generalize q.every=every at *
 generalize q.limit=limit at *
 subst ea eb eS eh eo
 have HW:=Hd (fun a b c=>qa2 a b c W0)
 have i2:decide ((nb:Int)≤6)=decide (nb≤6):=decide_eq_decide.2 (by omega)
 have i5:decide ((nh:Int)≤4)=decide (nh≤4):=decide_eq_decide.2 (by omega)
 have i6:decide ((no:Int)≤4)=decide (no≤4):=decide_eq_decide.2 (by omega)
 obtain ⟨y0,y1,y2,y3,y4,y5,y6,y7,y8,y9,ya,yb,yc,yd⟩:=Ad.out W0 Ah
 obtain ⟨Ae,Ac⟩:∃ Ae:Int,(if mode=4 then (8:Int) else 0)=Ae:=⟨_,rfl⟩
 obtain ⟨Ab,Aa⟩:∃ Ab:Int,(if mode=4 then (1:Int) else 0)=Ab:=⟨_,rfl⟩
 rw [Ac,Aa] at HZ
 obtain ⟨s1,e1⟩:∃ b,Tess.within (na:Int) 1 6=b:=⟨_,rfl⟩
 obtain ⟨s2,e2⟩:∃ b,decide (nb≤6)=b:=⟨_,rfl⟩
 obtain ⟨s3,e3⟩:∃ b,Tess.within mode 1 4=b:=⟨_,rfl⟩
 obtain ⟨s4,e4⟩:∃ b,Tess.within (nS:Int) Ab Ae=b:=⟨_,rfl⟩
 obtain ⟨s5,e5⟩:∃ b,decide (nh≤4)=b:=⟨_,rfl⟩
 obtain ⟨s6,e6⟩:∃ b,decide (no≤4)=b:=⟨_,rfl⟩
 obtain ⟨s7,e7⟩:∃ b,Tess.within limit 0 1000=b:=⟨_,rfl⟩
 rw [e1,e2,e3,e4,e5,e6,e7] at HZ
 have Aw:=Hd (e1 ▸ HW.out (na:Int) 1 6)
 have A1:=Hd (e3 ▸ HW.out mode 1 4)
 have A4:=Hd (e4 ▸ HW.out (nS:Int) Ab Ae)
 have As:=Hd (e7 ▸ HW.out limit 0 1000)
 rw [e2] at i2
 rw [e5] at i5
 rw [e6] at i6
 clear e1 e3 e4 e7 HW
 have HM:=Hd (And.intro Ac Aa)
 clear Ac Aa
 rcases (show (mode=4∧(mode == 4)=true)∨(¬ mode=4∧(mode == 4)=false) by
  by_cases h:mode=4
  ·exact .inl ⟨h,by simp [h]⟩
  ·exact .inr ⟨h,by simp [h]⟩) with ⟨hm4,hm4b⟩ | ⟨hm4,hm4b⟩
 all_goals
  have A5:=HM.out
  simp only [hm4,if_true,if_false] at A5
  obtain ⟨rfl,rfl⟩:=A5
  clear HM hm4
  by_cases hz:z=false
  ·have HF:=Hd (show r=false by rw [HR.out,hz];rfl)
   have Ak:=HZ.out
   rw [hz] at Ak
   clear HR HZ hz HA HO HN HS HC HK
   rcases first6 s1 s2 s3 s4 s5 s6 with rfl | ⟨rfl,rfl⟩ | ⟨rfl,rfl,rfl⟩ | ⟨rfl,rfl,rfl,rfl⟩ | ⟨rfl,rfl,rfl,rfl,rfl⟩ | ⟨rfl,rfl,rfl,rfl,rfl,rfl⟩ | ⟨rfl,rfl,rfl,rfl,rfl,rfl⟩
   rotate_left 6
   obtain rfl:s7=false:=by simpa using Ak.symm
   all_goals
    clear Ak
    go_enter Tryz.func78,Tryz.ntmps78
    go_wp2_with (go_at_call 116;first | (with_reducible refine Aw.out.mono ?_;rintro e w2 ⟨rfl,rfl⟩) | (with_reducible refine A1.out.mono ?_;rintro e w2 ⟨rfl,rfl⟩) | (with_reducible refine A4.out.mono ?_;rintro e w2 ⟨rfl,rfl⟩) | (with_reducible refine As.out.mono ?_;rintro e w2 ⟨rfl,rfl⟩))
    go_ret
    exact ⟨rb2 HF.out.symm,Af.out⟩
  ·obtain rfl:z=true:=by simpa using hz
   have Ak:=HZ.out
   simp only [Bool.true_eq,Bool.and_eq_true] at Ak
   obtain ⟨⟨⟨⟨⟨⟨rfl,rfl⟩,rfl⟩,rfl⟩,rfl⟩,rfl⟩,rfl⟩:=Ak
   have HR:=Hd (show r=(c1 && c2 && c3 && c4 && c5 && c6) by rw [HR.out,Bool.true_and])
   clear HZ hz
   go_enter Tryz.func78,Tryz.ntmps78
   go_wp2_with (go_at_call 116;first | (with_reducible refine Aw.out.mono ?_;rintro e w2 ⟨rfl,rfl⟩) | (with_reducible refine A1.out.mono ?_;rintro e w2 ⟨rfl,rfl⟩) | (with_reducible refine A4.out.mono ?_;rintro e w2 ⟨rfl,rfl⟩) | (with_reducible refine As.out.mono ?_;rintro e w2 ⟨rfl,rfl⟩))
   go_at_call 117
   refine (HA.out W0 Ah).mono ?_
   rintro e W1 ⟨rfl,hx⟩
   have Aj:=Bt Ah hx
   clear hx y0 y1 y2 y3 y4 y5 y6 y7 y8 y9 ya yb yc yd
   obtain ⟨y0,y1,y2,y3,y4,y5,y6,y7,y8,y9,ya,yb,yc,yd⟩:=Ad.out W1 Aj
   have At:=Hd Aj
   clear Aj
   cases c1
   ·have HF:=Hd (show r=false by rw [HR.out];simp)
    go_wp2
    go_ret
    exact ⟨rb2 HF.out.symm,Bt Af.out At.out⟩
   have Aj:=At.out
   go_wp2_with (fail)
   go_at_call 120
   refine (HO.out W1 Aj).mono ?_
   rintro e W2 ⟨rfl,hx⟩
   have Am:=Bt Aj hx
   clear hx y0 y1 y2 y3 y4 y5 y6 y7 y8 y9 ya yb yc yd
   obtain ⟨y0,y1,y2,y3,y4,y5,y6,y7,y8,y9,ya,yb,yc,yd⟩:=Ad.out W2 Am
   have A3:=Hd Am
   clear Am
   cases c2
   ·have HF:=Hd (show r=false by rw [HR.out];simp)
    go_wp2
    go_ret
    exact ⟨rb2 HF.out.symm,Bt Af.out A3.out⟩
   have Am:=A3.out
   go_wp2_with (fail)
   go_at_call 121
   refine (HN.out W2 Am).mono ?_
   rintro e W3 ⟨rfl,hx⟩
   have An:=Bt Am hx
   clear hx y0 y1 y2 y3 y4 y5 y6 y7 y8 y9 ya yb yc yd
   obtain ⟨y0,y1,y2,y3,y4,y5,y6,y7,y8,y9,ya,yb,yc,yd⟩:=Ad.out W3 An
   have Av:=Hd An
   clear An
   cases c3
   ·have HF:=Hd (show r=false by rw [HR.out];simp)
    go_wp2
    go_ret
    exact ⟨rb2 HF.out.symm,Bt Af.out Av.out⟩
   have An:=Av.out
   go_wp2_with (fail)
   go_at_call 123
   refine (HS.out W3 An).mono ?_
   rintro e W4 ⟨rfl,hx⟩
   have Al:=Bt An hx
   clear hx y0 y1 y2 y3 y4 y5 y6 y7 y8 y9 ya yb yc yd
   obtain ⟨y0,y1,y2,y3,y4,y5,y6,y7,y8,y9,ya,yb,yc,yd⟩:=Ad.out W4 Al
   have A0:=Hd Al
   clear Al
   cases c4
   ·have HF:=Hd (show r=false by rw [HR.out];simp)
    go_wp2
    go_ret
    exact ⟨rb2 HF.out.symm,Bt Af.out A0.out⟩
   have Al:=A0.out
   go_wp2_with (fail)
   go_at_call 125
   refine (HC.out W4 Al).mono ?_
   rintro e W5 ⟨rfl,hx⟩
   have Ai:=Bt Al hx
   clear hx y0 y1 y2 y3 y4 y5 y6 y7 y8 y9 ya yb yc yd
   obtain ⟨y0,y1,y2,y3,y4,y5,y6,y7,y8,y9,ya,yb,yc,yd⟩:=Ad.out W5 Ai
   have Az:=Hd Ai
   clear Ai
   cases c5
   ·have HF:=Hd (show r=false by rw [HR.out];simp)
    go_wp2
    go_ret
    exact ⟨rb2 HF.out.symm,Bt Af.out Az.out⟩
   have Ai:=Az.out
   go_wp2_with (fail)
   go_at_call 127
   refine (HK.out W5 Ai).mono ?_
   rintro e W6 ⟨rfl,hx⟩
   have Au:=Bt Ai hx
   clear hx y0 y1 y2 y3 y4 y5 y6 y7 y8 y9 ya yb yc yd
   obtain ⟨y0,y1,y2,y3,y4,y5,y6,y7,y8,y9,ya,yb,yc,yd⟩:=Ad.out W6 Au
   have A7:=Hd Au
   have HF:=Hd (show r=c6 by rw [HR.out];simp)
   go_wp2
   go_ret
   exact ⟨rb2 HF.out.symm,Bt Af.out A7.out⟩
end Go.Proofs.YtaddkkkchkdgkaaGreatDoor
