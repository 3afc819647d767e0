/- Is a query a schema's: walked. -/
import Derived.Test.YtaddkkkchkdgkaaGreatDoorWC39
import Derived.Test.YtaddkkkchkdgkaaGreatDoorWC08
namespace Go.Proofs.YtaddkkkchkdgkaaGreatDoor
open Go.RowKit Go.Sort
open Tess (Fil Que)
theorem isAll_agg (p:Nat→Prop) (va vd vm:Value) (s:Tess.Sch) (l:List Tess.Agg) (B:Nat) (W:World) (hb:W.heap[B]? = some (.cells #[vd,vm,.int .i64 s.grain] 24 (0,0))) (hs:SchAt p W (.agg #[vd,vm,.int .i64 s.grain]) s) (hl:RowsAt 2 aggF p W va l) :
  Calls Tryz.prog 117 #[va,.func (.func 118) #[] #[.pointer (some ⟨B,0,none⟩)]] W fun e w'=>e = .returned (.bool (l.all (Que.isTyped s)))∧Below W.heap.size W w':=by
 obtain ⟨a,cap,rfl,hlen,_,_,hc⟩:=hl
 refine all_agg _ l a cap _ W hlen fun k hk => ?_
 obtain ⟨b,off,ha,hb',_,hcell⟩:=hc (by omega)
 exact ⟨b,off,ha,hb',_,_,⟨hcell k hk 0 (by omega),hcell k hk 1 (by omega)⟩,fun X hX=>clo1_any p s vd vm B X ((hX.block _ (Array.getElem?_eq_some_iff.1 hb).1).trans hb) (hs.ag (Ag.new p hX)) l[k].kind l[k].met⟩
theorem isAll_name (p:Nat→Prop) (vb vd vm:Value) (s:Tess.Sch) (l:List ByteArray) (B:Nat) (W:World) (hb:W.heap[B]? = some (.cells #[vd,vm,.int .i64 s.grain] 24 (0,0))) (hs:SchAt p W (.agg #[vd,vm,.int .i64 s.grain]) s) (hl:SlP p W vb (l.map .string)) :
  Calls Tryz.prog 121 #[vb,.func (.func 122) #[] #[.pointer (some ⟨B,0,none⟩)]] W fun e w'=>e = .returned (.bool (l.all fun x=>(Tess.dimW s x).2))∧Below W.heap.size W w':=by
 obtain ⟨a,cap,rfl,hlen,hc⟩:=sls_open hl.1
 refine all_name _ l a cap _ W (by unfold maxLen;omega) fun k hk => ?_
 obtain ⟨b,off,ha,hb',hcell⟩:=hc k hk
 exact ⟨b,off,ha,hb',_,hcell,fun X hX=>clo2_any p s vd vm B X ((hX.block _ (Array.getElem?_eq_some_iff.1 hb).1).trans hb) (hs.ag (Ag.new p hX)) l[k]⟩
theorem isAll_set (p:Nat→Prop) (vS vb:Value) (l:List (List ByteArray)) (names:List ByteArray) (B:Nat) (W:World) (hlt:B < W.heap.size) (hb:W.cell? ⟨B,1,none⟩=some vb) (hn:SlP p W vb (names.map .string)) (hl:SetsAt p W vS l) :
  Calls Tryz.prog 123 #[vS,.func (.func 124) #[] #[.pointer (some ⟨B,0,none⟩)]] W fun e w'=>e = .returned (.bool (l.all fun x=>Que.inOrder x names))∧Below W.heap.size W w':=by
 obtain ⟨a,cap,rfl,hlen,_,_,hc⟩:=hl
 refine all_set _ l a cap _ W hlen fun k hk => ?_
 obtain ⟨b,off,ha,hb',_,hcell⟩:=hc (by omega)
 obtain ⟨c,e1,e2,_⟩:=hcell k hk
 exact ⟨b,off,ha,hb',c,e1,fun X hX=>clo3_any c vb l[k] names B X ((hX.cell (p:=⟨B,1,none⟩) hlt).trans hb) (e2.1.below hX) (hn.1.below hX)⟩
theorem isAll_cond (p:Nat→Prop) (vh:Value) (l:List Tess.Cond) (aa:Option Addr) (na ca:Nat) (hna:na≤9223372036854775807) (B:Nat) (W:World) (hlt:B < W.heap.size) (hb:W.cell? ⟨B,0,none⟩=some (.slice aa na ca)) (hl:RowsAt 3 condF p W vh l) :
  Calls Tryz.prog 125 #[vh,.func (.func 126) #[] #[.pointer (some ⟨B,0,none⟩)]] W fun e w'=>e = .returned (.bool (l.all (Que.condOk na)))∧Below W.heap.size W w':=by
 obtain ⟨a,cap,rfl,hlen,_,_,hc⟩:=hl
 refine all_cond _ l a cap _ W hlen fun k hk => ?_
 obtain ⟨b,off,ha,hb',_,hcell⟩:=hc (by omega)
 exact ⟨b,off,ha,hb',_,_,_,⟨hcell k hk 0 (by omega),hcell k hk 1 (by omega),hcell k hk 2 (by omega)⟩,fun X hX=>clo4_any l[k] aa na ca hna B X (Nat.lt_of_lt_of_le hlt hX.size) ((hX.cell (p:=⟨B,0,none⟩) hlt).trans hb)⟩
theorem isAll_key (p:Nat→Prop) (vo:Value) (l:List Tess.Key) (aa ab:Option Addr) (na ca nb cb:Nat) (hna:na≤9223372036854775807) (hnb:nb≤9223372036854775807) (B:Nat) (W:World) (hlt:B < W.heap.size) (hb:W.cell? ⟨B,0,none⟩=some (.slice aa na ca)) (hb1:W.cell? ⟨B,1,none⟩=some (.slice ab nb cb)) (hl:RowsAt 3 keyF p W vo l) :
  Calls Tryz.prog 127 #[vo,.func (.func 128) #[] #[.pointer (some ⟨B,0,none⟩)]] W fun e w'=>e = .returned (.bool (l.all (Que.keyOk na nb)))∧Below W.heap.size W w':=by
 obtain ⟨a,cap,rfl,hlen,_,_,hc⟩:=hl
 refine all_key _ l a cap _ W hlen fun k hk => ?_
 obtain ⟨b,off,ha,hb',_,hcell⟩:=hc (by omega)
 exact ⟨b,off,ha,hb',_,_,_,⟨hcell k hk 0 (by omega),hcell k hk 1 (by omega),hcell k hk 2 (by omega)⟩,fun X hX=>clo5_any l[k] aa ab na ca nb cb hna hnb B X (Nat.lt_of_lt_of_le hlt hX.size) ((hX.cell (p:=⟨B,0,none⟩) hlt).trans hb) ((hX.cell (p:=⟨B,1,none⟩) hlt).trans hb1)⟩
theorem first6 (b1 b2 b3 b4 b5 b6:Bool):b1=false∨(b1=true∧b2=false)∨(b1=true∧b2=true∧b3=false)∨(b1=true∧b2=true∧b3=true∧b4=false)∨(b1=true∧b2=true∧b3=true∧b4=true∧b5=false)∨(b1=true∧b2=true∧b3=true∧b4=true∧b5=true∧b6=false)∨(b1=true∧b2=true∧b3=true∧b4=true∧b5=true∧b6=true):=by
 cases b1 <;> cases b2 <;> cases b3 <;> cases b4 <;> cases b5 <;> cases b6 <;> simp
set_option maxRecDepth 100000 in
set_option maxHeartbeats 4000000 in
theorem isOf_any (p:Nat→Prop) (n:Nat) (vs v:Value) (s:Tess.Sch) (q:Que) (va vb vS f0 f1 f2 f3 f4 f5 vh vo:Value) (w:World) (hs:SchAt p w vs s) (hq:QueAt p n w v q va vb vS f0 f1 f2 f3 f4 f5 vh vo) :
  Calls Tryz.prog 78 #[vs,v] w fun e w'=>e = .returned (.bool (Que.isOf s q))∧Below w.heap.size w w':=by
 have hna:=hq.aggs.len
 have hnS:=hq.sets.len
 have hnh:=hq.conds.len
 have hno:=hq.keys.len
 obtain ⟨ab,cb,eb,hnb,hdum⟩:=sls_open hq.names.1
 clear hdum
 obtain ⟨aa,ca,ea⟩:=hq.aggs.shape
 obtain ⟨aS,cS,eS⟩:=hq.sets.shape
 obtain ⟨ah,ch,eh⟩:=hq.conds.shape
 obtain ⟨ao,co,eo⟩:=hq.keys.shape
 obtain ⟨vd,vm,rfl,hd,hm,hd1,hm1⟩:=hs
 have hs:SchAt p w (.agg #[vd,vm,.int .i64 s.grain]) s:=⟨vd,vm,rfl,hd,hm,hd1,hm1⟩
 obtain ⟨W0,hW0⟩:∃ W0,(w.alloc (.cells #[vd,vm,.int .i64 s.grain] 24)).alloc (.cells #[va,vb,.int .i64 q.mode,vS,.int .i64 q.every,f0,f1,f2,f3,f4,f5,vh,vo,.int .i64 q.limit] 35)=W0:=⟨_,rfl⟩
 obtain ⟨h1,h2,hS0,hB0⟩:=laid2 w (.cells #[vd,vm,.int .i64 s.grain] 24) (.cells #[va,vb,.int .i64 q.mode,vS,.int .i64 q.every,f0,f1,f2,f3,f4,f5,vh,vo,.int .i64 q.limit] 35)
 rw [hW0] at h1 h2 hS0 hB0
 have hv:=hq.e
 have HBX:=Lib.hid (fun X (hX:Below W0.heap.size W0 X)=>(can14 ((hX.block _ (Array.getElem?_eq_some_iff.1 h2).1).trans h2)).1)
 have q0:=fun X (hX:Below W0.heap.size W0 X)=>hs.ag (Ag.new p (Bt hB0 hX))
 have q1:=fun X (hX:Below W0.heap.size W0 X)=>hq.ag (Ag.new p (Bt hB0 hX))
 have b0:=fun X (hX:Below W0.heap.size W0 X)=>(hX.block _ (Array.getElem?_eq_some_iff.1 h1).1).trans h1
 have lt1:=fun X (hX:Below W0.heap.size W0 X)=>Nat.lt_of_lt_of_le (Array.getElem?_eq_some_iff.1 h2).1 hX.size
 have HA:=Lib.hid (fun X (hX:Below W0.heap.size W0 X)=>isAll_agg p va vd vm s q.aggs w.heap.size X (b0 X hX) (q0 X hX) (q1 X hX).aggs)
 have HO:=Lib.hid (fun X (hX:Below W0.heap.size W0 X)=>inOrder_any vb vb q.names q.names X (q1 X hX).names.1 (q1 X hX).names.1)
 have HN:=Lib.hid (fun X (hX:Below W0.heap.size W0 X)=>isAll_name p vb vd vm s q.names w.heap.size X (b0 X hX) (q0 X hX) (q1 X hX).names)
 have HS:=Lib.hid (fun X (hX:Below W0.heap.size W0 X)=>isAll_set p vS vb q.sets q.names (w.heap.size + 1) X (lt1 X hX) (HBX.out X hX).2.1 (q1 X hX).names (q1 X hX).sets)
 have HC:=Lib.hid (fun X (hX:Below W0.heap.size W0 X)=>isAll_cond p vh q.conds aa q.aggs.length ca hna (w.heap.size + 1) X (lt1 X hX) (by rw [← ea];exact (HBX.out X hX).1) (q1 X hX).conds)
 have HK:=Lib.hid (fun X (hX:Below W0.heap.size W0 X)=>isAll_key p vo q.keys aa ab q.aggs.length ca q.names.length cb hna hnb (w.heap.size + 1) X (lt1 X hX) (by rw [← ea];exact (HBX.out X hX).1) (by rw [← eb];exact (HBX.out X hX).2.1) (q1 X hX).keys)
 have HR:RowKit.Hid (Que.isOf s q=(Que.sizesOk q && q.aggs.all (Que.isTyped s) && Que.inOrder q.names q.names && q.names.all (fun x=>(Tess.dimW s x).2) && q.sets.all (fun l=>Que.inOrder l q.names) && q.conds.all (Que.condOk q.aggs.length) && q.keys.all (Que.keyOk q.aggs.length q.names.length))):=Lib.hid rfl
 have HZ:RowKit.Hid (Que.sizesOk q=(Tess.within q.aggs.length 1 6 && decide (q.names.length≤6) && Tess.within q.mode 1 4 && Tess.within q.sets.length (if q.mode=4 then 1 else 0) (if q.mode=4 then 8 else 0) && decide (q.conds.length≤4) && decide (q.keys.length≤4) && Tess.within q.limit 0 1000)):=Lib.hid rfl
 generalize Que.isOf s q=r at *
 generalize Que.sizesOk q=z at *
 generalize q.aggs.all (Que.isTyped s)=c1 at *
 generalize Que.inOrder q.names q.names=c2 at *
 generalize q.names.all (fun x=>(Tess.dimW s x).2)=c3 at *
 generalize q.sets.all (fun l=>Que.inOrder l q.names)=c4 at *
 generalize q.conds.all (Que.condOk q.aggs.length)=c5 at *
 generalize q.keys.all (Que.keyOk q.aggs.length q.names.length)=c6 at *
 have HB0:=Lib.hid hB0
 have hB00:=Below.refl W0.heap.size W0
 subst hv
 clear hs hd hm hd1 hm1 h1 h2 hS0 hB0 q0 q1 b0 lt1 hq
 generalize q.aggs.length=na at *
 generalize q.names.length=nb at *
 generalize q.sets.length=nS at *
 generalize q.conds.length=nh at *
 generalize q.keys.length=no at *
 generalize q.mode=mode at *
 generalize q.every=every at *
 generalize q.limit=limit at *
 subst ea eb eS eh eo
 have HW:=Lib.hid (fun a b c=>qwithin_any a b c W0)
 have i2:decide ((nb:Int)≤6)=decide (nb≤6):=decide_eq_decide.2 (by omega)
 have i5:decide ((nh:Int)≤4)=decide (nh≤4):=decide_eq_decide.2 (by omega)
 have i6:decide ((no:Int)≤4)=decide (no≤4):=decide_eq_decide.2 (by omega)
 obtain ⟨y0,y1,y2,y3,y4,y5,y6,y7,y8,y9,ya,yb,yc,yd⟩:=HBX.out W0 hB00
 obtain ⟨most,hmost⟩:∃ most:Int,(if mode=4 then (8:Int) else 0)=most:=⟨_,rfl⟩
 obtain ⟨least,hleast⟩:∃ least:Int,(if mode=4 then (1:Int) else 0)=least:=⟨_,rfl⟩
 rw [hmost,hleast] at HZ
 obtain ⟨s1,e1⟩:∃ b,Tess.within (na:Int) 1 6=b:=⟨_,rfl⟩
 obtain ⟨s2,e2⟩:∃ b,decide (nb≤6)=b:=⟨_,rfl⟩
 obtain ⟨s3,e3⟩:∃ b,Tess.within mode 1 4=b:=⟨_,rfl⟩
 obtain ⟨s4,e4⟩:∃ b,Tess.within (nS:Int) least most=b:=⟨_,rfl⟩
 obtain ⟨s5,e5⟩:∃ b,decide (nh≤4)=b:=⟨_,rfl⟩
 obtain ⟨s6,e6⟩:∃ b,decide (no≤4)=b:=⟨_,rfl⟩
 obtain ⟨s7,e7⟩:∃ b,Tess.within limit 0 1000=b:=⟨_,rfl⟩
 rw [e1,e2,e3,e4,e5,e6,e7] at HZ
 have HW1:=Lib.hid (e1 ▸ HW.out (na:Int) 1 6)
 have HW3:=Lib.hid (e3 ▸ HW.out mode 1 4)
 have HW4:=Lib.hid (e4 ▸ HW.out (nS:Int) least most)
 have HW7:=Lib.hid (e7 ▸ HW.out limit 0 1000)
 rw [e2] at i2
 rw [e5] at i5
 rw [e6] at i6
 clear e1 e3 e4 e7 HW
 have HM:=Lib.hid (And.intro hmost hleast)
 clear hmost hleast
 rcases (show (mode=4∧(mode == 4)=true)∨(¬ mode=4∧(mode == 4)=false) by
  by_cases h:mode=4
  ·exact .inl ⟨h,by simp [h]⟩
  ·exact .inr ⟨h,by simp [h]⟩) with ⟨hm4,hm4b⟩ | ⟨hm4,hm4b⟩
 all_goals
  have hmm:=HM.out
  simp only [hm4,if_true,if_false] at hmm
  obtain ⟨rfl,rfl⟩:=hmm
  clear HM hm4
  by_cases hz:z=false
  ·have HF:=Lib.hid (show r=false by rw [HR.out,hz];rfl)
   have hz2:=HZ.out
   rw [hz] at hz2
   clear HR HZ hz HA HO HN HS HC HK
   rcases first6 s1 s2 s3 s4 s5 s6 with rfl | ⟨rfl,rfl⟩ | ⟨rfl,rfl,rfl⟩ | ⟨rfl,rfl,rfl,rfl⟩ | ⟨rfl,rfl,rfl,rfl,rfl⟩ | ⟨rfl,rfl,rfl,rfl,rfl,rfl⟩ | ⟨rfl,rfl,rfl,rfl,rfl,rfl⟩
   rotate_left 6
   obtain rfl:s7=false:=by simpa using hz2.symm
   all_goals
    clear hz2
    go_enter Tryz.func78,Tryz.ntmps78
    go_wp2_with (go_at_call 116;first | (with_reducible refine HW1.out.mono ?_;rintro e w2 ⟨rfl,rfl⟩) | (with_reducible refine HW3.out.mono ?_;rintro e w2 ⟨rfl,rfl⟩) | (with_reducible refine HW4.out.mono ?_;rintro e w2 ⟨rfl,rfl⟩) | (with_reducible refine HW7.out.mono ?_;rintro e w2 ⟨rfl,rfl⟩))
    go_ret
    exact ⟨ret_bool' HF.out.symm,HB0.out⟩
  ·obtain rfl:z=true:=by simpa using hz
   have hz2:=HZ.out
   simp only [Bool.true_eq,Bool.and_eq_true] at hz2
   obtain ⟨⟨⟨⟨⟨⟨rfl,rfl⟩,rfl⟩,rfl⟩,rfl⟩,rfl⟩,rfl⟩:=hz2
   have HR:=Lib.hid (show r=(c1 && c2 && c3 && c4 && c5 && c6) by rw [HR.out,Bool.true_and])
   clear HZ hz
   go_enter Tryz.func78,Tryz.ntmps78
   go_wp2_with (go_at_call 116;first | (with_reducible refine HW1.out.mono ?_;rintro e w2 ⟨rfl,rfl⟩) | (with_reducible refine HW3.out.mono ?_;rintro e w2 ⟨rfl,rfl⟩) | (with_reducible refine HW4.out.mono ?_;rintro e w2 ⟨rfl,rfl⟩) | (with_reducible refine HW7.out.mono ?_;rintro e w2 ⟨rfl,rfl⟩))
   go_at_call 117
   refine (HA.out W0 hB00).mono ?_
   rintro e W1 ⟨rfl,hx⟩
   have hB1:=Bt hB00 hx
   clear hx y0 y1 y2 y3 y4 y5 y6 y7 y8 y9 ya yb yc yd
   obtain ⟨y0,y1,y2,y3,y4,y5,y6,y7,y8,y9,ya,yb,yc,yd⟩:=HBX.out W1 hB1
   have HB1:=Lib.hid hB1
   clear hB1
   cases c1
   ·have HF:=Lib.hid (show r=false by rw [HR.out];simp)
    go_wp2
    go_ret
    exact ⟨ret_bool' HF.out.symm,Bt HB0.out HB1.out⟩
   have hB1:=HB1.out
   go_wp2_with (fail)
   go_at_call 120
   refine (HO.out W1 hB1).mono ?_
   rintro e W2 ⟨rfl,hx⟩
   have hB2:=Bt hB1 hx
   clear hx y0 y1 y2 y3 y4 y5 y6 y7 y8 y9 ya yb yc yd
   obtain ⟨y0,y1,y2,y3,y4,y5,y6,y7,y8,y9,ya,yb,yc,yd⟩:=HBX.out W2 hB2
   have HB2:=Lib.hid hB2
   clear hB2
   cases c2
   ·have HF:=Lib.hid (show r=false by rw [HR.out];simp)
    go_wp2
    go_ret
    exact ⟨ret_bool' HF.out.symm,Bt HB0.out HB2.out⟩
   have hB2:=HB2.out
   go_wp2_with (fail)
   go_at_call 121
   refine (HN.out W2 hB2).mono ?_
   rintro e W3 ⟨rfl,hx⟩
   have hB3:=Bt hB2 hx
   clear hx y0 y1 y2 y3 y4 y5 y6 y7 y8 y9 ya yb yc yd
   obtain ⟨y0,y1,y2,y3,y4,y5,y6,y7,y8,y9,ya,yb,yc,yd⟩:=HBX.out W3 hB3
   have HB3:=Lib.hid hB3
   clear hB3
   cases c3
   ·have HF:=Lib.hid (show r=false by rw [HR.out];simp)
    go_wp2
    go_ret
    exact ⟨ret_bool' HF.out.symm,Bt HB0.out HB3.out⟩
   have hB3:=HB3.out
   go_wp2_with (fail)
   go_at_call 123
   refine (HS.out W3 hB3).mono ?_
   rintro e W4 ⟨rfl,hx⟩
   have hB4:=Bt hB3 hx
   clear hx y0 y1 y2 y3 y4 y5 y6 y7 y8 y9 ya yb yc yd
   obtain ⟨y0,y1,y2,y3,y4,y5,y6,y7,y8,y9,ya,yb,yc,yd⟩:=HBX.out W4 hB4
   have HB4:=Lib.hid hB4
   clear hB4
   cases c4
   ·have HF:=Lib.hid (show r=false by rw [HR.out];simp)
    go_wp2
    go_ret
    exact ⟨ret_bool' HF.out.symm,Bt HB0.out HB4.out⟩
   have hB4:=HB4.out
   go_wp2_with (fail)
   go_at_call 125
   refine (HC.out W4 hB4).mono ?_
   rintro e W5 ⟨rfl,hx⟩
   have hB5:=Bt hB4 hx
   clear hx y0 y1 y2 y3 y4 y5 y6 y7 y8 y9 ya yb yc yd
   obtain ⟨y0,y1,y2,y3,y4,y5,y6,y7,y8,y9,ya,yb,yc,yd⟩:=HBX.out W5 hB5
   have HB5:=Lib.hid hB5
   clear hB5
   cases c5
   ·have HF:=Lib.hid (show r=false by rw [HR.out];simp)
    go_wp2
    go_ret
    exact ⟨ret_bool' HF.out.symm,Bt HB0.out HB5.out⟩
   have hB5:=HB5.out
   go_wp2_with (fail)
   go_at_call 127
   refine (HK.out W5 hB5).mono ?_
   rintro e W6 ⟨rfl,hx⟩
   have hB6:=Bt hB5 hx
   clear hx y0 y1 y2 y3 y4 y5 y6 y7 y8 y9 ya yb yc yd
   obtain ⟨y0,y1,y2,y3,y4,y5,y6,y7,y8,y9,ya,yb,yc,yd⟩:=HBX.out W6 hB6
   have HB6:=Lib.hid hB6
   have HF:=Lib.hid (show r=c6 by rw [HR.out];simp)
   go_wp2
   go_ret
   exact ⟨ret_bool' HF.out.symm,Bt HB0.out HB6.out⟩
end Go.Proofs.YtaddkkkchkdgkaaGreatDoor
