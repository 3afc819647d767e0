/- Are two queries the same: query.Same: walked. Written by genQ50.py. -/
import Derived.Test.YtbbgjjjeecfnoaaGreatDoorXQ49
namespace Go.Proofs.YtbbgjjjeecfnoaaGreatDoor
open Go.RowKit Go.Sort
open Tess (Fil Que)
set_option maxRecDepth 100000 in
set_option maxHeartbeats 4000000 in
theorem eqS_any (p q:Nat→Prop) (va vb:Value) (l1 l2:List (List ByteArray)) (w:World) (ha:SetsAt p w va l1) (hb:SetsAt q w vb l2) :
  Calls Tryz.prog 63 #[va,vb,.func (.func 62) #[] #[]] w fun e w'=>e = .returned (.bool (decide (l1=l2)))∧Below w.heap.size w w':=by
 obtain ⟨xa,ca,rfl,hm1,_,_,hc1⟩:=ha
 obtain ⟨xb,cb,rfl,hm2,_,_,hc2⟩:=hb
 have hlm1:l1.length≤9223372036854775807:=by unfold maxLen at hm1;omega
 have hlm2:l2.length≤9223372036854775807:=by unfold maxLen at hm2;omega
 have HC1:=Lib.hid hc1
 have HC2:=Lib.hid hc2
 clear hc1 hc2 hm1 hm2
 by_cases hl:l1.length=l2.length
 ·have hl':((l1.length:Int) != (l2.length:Int))=false:=by rw [bne_eq_false_iff_eq];omega
  have HL:=Lib.hid hl
  clear hl
  go_enter Tryz.func63,Tryz.ntmps63
  go_wp2
  go_loopw [17] (fun i wr => ∃ k:Nat,k≤l1.length∧i = .int .i64 k∧(∀ j (h1:j < l1.length) (h2:j < l2.length),j < k→l1[j]=l2[j])∧Below w.heap.size w wr) (fun i _=>l1.length - (intOf i).toNat)
  case atStart=>exact ⟨0,Nat.zero_le _,rfl,fun j _ _ h=>absurd h (Nat.not_lt_zero _),Below.refl _ _⟩
  case round=>
   obtain ⟨k,hk,rfl,hall,hBr⟩:=hrel
   have HALL:=Lib.hid hall
   have HBr:=Lib.hid hBr
   clear hall hBr
   by_cases hlt:k < l1.length
   ·have hlt2:k < l2.length:=by have:=HL.out;omega
    obtain ⟨b,off,rfl,hb,_,g1⟩:=HC1.out (by omega)
    obtain ⟨b',off',rfl,hb',_,g2⟩:=HC2.out (by omega)
    obtain ⟨c,hcell,hsl,_⟩:=g1 k hlt
    obtain ⟨c',hcell',hsl',_⟩:=g2 k hlt2
    have hki:(k:Int) < (l1.length:Int):=by omega
    have hki2:(k:Int) < (l2.length:Int):=by omega
    have HT:=Lib.hid (fun W (hB:Below w.heap.size w W)=>equal_any p q c c' l1[k] l2[k] W (hsl.ag (Ag.new p hB)) (hsl'.ag (Ag.new q hB)))
    obtain ⟨z0,z1,z2,rfl⟩:=hsl.shape
    obtain ⟨y0,y1,y2,rfl⟩:=hsl'.shape
    have r0:=(HBr.out.cell (p:=⟨b,off + k,none⟩) hb).trans hcell
    have t0:=(HBr.out.cell (p:=⟨b',off' + k,none⟩) hb').trans hcell'
    have HEQ0:=Lib.hid (show ∀ h:l1[k]=l2[k],∀ j (h1:j < l1.length) (h2:j < l2.length),j < k + 1→l1[j]=l2[j] from fun h j h1 h2 hj=>by
     by_cases hjk:j < k
     ·exact HALL.out j h1 h2 hjk
     ·obtain rfl:j=k:=by omega
      exact h)
    have HNE0:=Lib.hid (show l1[k]≠l2[k]→l1≠l2 from fun h e=>h (by subst e;rfl))
    clear g1 g2 hcell hcell' hsl hsl'
    generalize l1[k]=u1 at *
    generalize l2[k]=u2 at *
    by_cases he:u1=u2
    ·rw [decide_eq_true he] at HT
     have HEQ:=Lib.hid (HEQ0.out he)
     clear he
     go_wp2_with (go_at_call 62;refine (HT.out _ HBr.out).mono ?_;rintro e w6 ⟨rfl,hB6⟩;have HB6:=Lib.hid (Bt HBr.out hB6);clear hB6)
     go_roundw
     case rel=>exact ⟨k + 1,by omega,by go_num,HEQ.out,HB6.out⟩
     case measure=>simp [intOf];omega
    ·rw [decide_eq_false he] at HT
     have HNE:=Lib.hid (HNE0.out he)
     clear he
     go_wp2_with (go_at_call 62;refine (HT.out _ HBr.out).mono ?_;rintro e w6 ⟨rfl,hB6⟩;have HB6:=Lib.hid (Bt HBr.out hB6);clear hB6)
     go_ret
     exact ⟨ret_bool' (decide_eq_false HNE.out).symm,HB6.out⟩
   ·have hki:¬ (k:Int) < (l1.length:Int):=by omega
    have HEL:=Lib.hid (show l1=l2 from List.ext_getElem HL.out fun j h1 h2=>HALL.out j h1 h2 (by omega))
    go_wp2
    go_ret
    exact ⟨ret_bool' (decide_eq_true HEL.out).symm,HBr.out⟩
 ·have hl':((l1.length:Int) != (l2.length:Int))=true:=by rw [bne_iff_ne];omega
  have HN:=Lib.hid (show l1≠l2 from fun e=>hl (by rw [e]))
  clear hl
  go_enter Tryz.func63,Tryz.ntmps63
  go_wp2
  go_ret
  exact ⟨ret_bool' (decide_eq_false HN.out).symm,Below.refl _ _⟩
theorem QueAt.shapesS {p:Nat→Prop} {n:Nat} {w:World} {v:Value} {q:Que} {va vb vs f0 f1 f2 f3 f4 f5 vh vo:Value} (h:QueAt p n w v q va vb vs f0 f1 f2 f3 f4 f5 vh vo) :
  ∃ a1 c1 a2 c2 a3 c3 wa wn wc a4 c4 a5 c5 a6 c6,va = .slice a1 q.aggs.length c1∧vb = .slice a2 q.names.length c2∧vs = .slice a3 q.sets.length c3∧f0 = .int .i64 q.fil.kind∧f1 = .string q.fil.name∧f2 = .slice wa wn wc∧f3 = .int .i64 q.fil.frm∧f4 = .int .i64 q.fil.to∧f5 = .slice a4 q.fil.l.length c4∧vh = .slice a5 q.conds.length c5∧vo = .slice a6 q.keys.length c6:=by
 obtain ⟨a1,c1,h1,_⟩:=h.aggs
 obtain ⟨a2,c2,h2,_⟩:=sls_open h.names.1
 obtain ⟨a3,c3,h3,_⟩:=h.sets
 obtain ⟨wa,wn,wc,a4,c4,h4⟩:=FilAt.shape6 h.fil
 obtain ⟨a5,c5,h5,_⟩:=h.conds
 obtain ⟨a6,c6,h6,_⟩:=h.keys
 simp only [Value.agg.injEq,Array.mk.injEq,List.cons.injEq,and_true] at h4
 obtain ⟨e0,e1,e2,e3,e4,e5⟩:=h4
 exact ⟨a1,c1,a2,c2,a3,c3,wa,wn,wc,a4,c4,a5,c5,a6,c6,h1,h2,h3,e0,e1,e2,e3,e4,e5,h5,h6⟩
noncomputable def sameQ (f g:Que):Bool:=@decide (f=g) (Classical.propDecidable _)
theorem sameQ_true {f g:Que} (h:f=g):sameQ f g=true:=by unfold sameQ;exact @decide_eq_true _ (Classical.propDecidable _) h
theorem sameQ_false {f g:Que} (h:f≠g):sameQ f g=false:=by unfold sameQ;exact @decide_eq_false _ (Classical.propDecidable _) h
set_option maxRecDepth 100000 in
set_option maxHeartbeats 16000000 in
theorem qsame_any (p q:Nat→Prop) (n m:Nat) (v u:Value) (x y:Que) (va vb vs f0 f1 f2 f3 f4 f5 vh vo ua ub us g0 g1 g2 g3 g4 g5 uh uo:Value) (w:World) (hx:QueAt p n w v x va vb vs f0 f1 f2 f3 f4 f5 vh vo) (hy:QueAt q m w u y ua ub us g0 g1 g2 g3 g4 g5 uh uo) :
  Calls Tryz.prog 31 #[v,u] w fun e w'=>e = .returned (.bool (sameQ x y))∧Below w.heap.size w w':=by
 have HX:=Lib.hid hx
 have HY:=Lib.hid hy
 have hv:=hx.e
 have hu:=hy.e
 subst hv hu
 obtain ⟨a1,ac1,a2,ac2,a3,ac3,a4,an4,ac4,a5,ac5,a6,ac6,a7,ac7,rfl,rfl,rfl,rfl,rfl,rfl,rfl,rfl,rfl,rfl,rfl⟩:=hx.shapesS
 obtain ⟨b1,bc1,b2,bc2,b3,bc3,b4,bn4,bc4,b5,bc5,b6,bc6,b7,bc7,rfl,rfl,rfl,rfl,rfl,rfl,rfl,rfl,rfl,rfl,rfl⟩:=hy.shapesS
 clear hx hy
 have HAX:=Lib.hid (fun W (h:Below w.heap.size w W)=>HX.out.ag (Ag.new p h))
 have HAY:=Lib.hid (fun W (h:Below w.heap.size w W)=>HY.out.ag (Ag.new q h))
 have H1:=Lib.hid (fun W (h:Below w.heap.size w W)=>equal_agg p q _ _ x.aggs y.aggs W (HAX.out W h).aggs (HAY.out W h).aggs)
 have H2:=Lib.hid (fun W (h:Below w.heap.size w W)=>equal_any p q _ _ x.names y.names W (HAX.out W h).names (HAY.out W h).names)
 have H3:=Lib.hid (fun W (h:Below w.heap.size w W)=>eqS_any p q _ _ x.sets y.sets W (HAX.out W h).sets (HAY.out W h).sets)
 have H4:=Lib.hid (fun W (h:Below w.heap.size w W)=>pSame_any p q n m _ _ x.fil y.fil W (HAX.out W h).fil (HAY.out W h).fil)
 have H5:=Lib.hid (fun W (h:Below w.heap.size w W)=>equal_cnd p q _ _ x.conds y.conds W (HAX.out W h).conds (HAY.out W h).conds)
 have H6:=Lib.hid (fun W (h:Below w.heap.size w W)=>equal_key p q _ _ x.keys y.keys W (HAX.out W h).keys (HAY.out W h).keys)
 clear HAX HAY HX HY
 have HNE:=Lib.hid (show ¬ (x.aggs=y.aggs∧x.names=y.names∧x.mode=y.mode∧x.sets=y.sets∧x.every=y.every∧x.fil=y.fil∧x.conds=y.conds∧x.keys=y.keys∧x.limit=y.limit)→sameQ x y=false from fun h=>sameQ_false fun e=>h (by subst e;exact ⟨rfl,rfl,rfl,rfl,rfl,rfl,rfl,rfl,rfl⟩))
 have HEQ:=Lib.hid (show x.aggs=y.aggs→x.names=y.names→x.mode=y.mode→x.sets=y.sets→x.every=y.every→x.fil=y.fil→x.conds=y.conds→x.keys=y.keys→x.limit=y.limit→sameQ x y=true from fun h1 h2 h3 h4 h5 h6 h7 h8 h9=>sameQ_true (by
  obtain ⟨_,_,_,_,_,_,_,_,_⟩:=x
  obtain ⟨_,_,_,_,_,_,_,_,_⟩:=y
  simp only at h1 h2 h3 h4 h5 h6 h7 h8 h9
  subst h1 h2 h3 h4 h5 h6 h7 h8 h9
  rfl))
 generalize sameQ x y=R at *
 obtain ⟨W0,hW0⟩:∃ W0,(w.alloc (.cells #[.slice a1 x.aggs.length ac1,.slice a2 x.names.length ac2,.int .i64 x.mode,.slice a3 x.sets.length ac3,.int .i64 x.every,.int .i64 x.fil.kind,.string x.fil.name,.slice a4 an4 ac4,.int .i64 x.fil.frm,.int .i64 x.fil.to,.slice a5 x.fil.l.length ac5,.slice a6 x.conds.length ac6,.slice a7 x.keys.length ac7,.int .i64 x.limit] 35)).alloc (.cells #[.slice b1 y.aggs.length bc1,.slice b2 y.names.length bc2,.int .i64 y.mode,.slice b3 y.sets.length bc3,.int .i64 y.every,.int .i64 y.fil.kind,.string y.fil.name,.slice b4 bn4 bc4,.int .i64 y.fil.frm,.int .i64 y.fil.to,.slice b5 y.fil.l.length bc5,.slice b6 y.conds.length bc6,.slice b7 y.keys.length bc7,.int .i64 y.limit] 35)=W0:=⟨_,rfl⟩
 obtain ⟨l1,l2,l3,l4⟩:=laid2 w (.cells #[.slice a1 x.aggs.length ac1,.slice a2 x.names.length ac2,.int .i64 x.mode,.slice a3 x.sets.length ac3,.int .i64 x.every,.int .i64 x.fil.kind,.string x.fil.name,.slice a4 an4 ac4,.int .i64 x.fil.frm,.int .i64 x.fil.to,.slice a5 x.fil.l.length ac5,.slice a6 x.conds.length ac6,.slice a7 x.keys.length ac7,.int .i64 x.limit] 35) (.cells #[.slice b1 y.aggs.length bc1,.slice b2 y.names.length bc2,.int .i64 y.mode,.slice b3 y.sets.length bc3,.int .i64 y.every,.int .i64 y.fil.kind,.string y.fil.name,.slice b4 bn4 bc4,.int .i64 y.fil.frm,.int .i64 y.fil.to,.slice b5 y.fil.l.length bc5,.slice b6 y.conds.length bc6,.slice b7 y.keys.length bc7,.int .i64 y.limit] 35)
 rw [hW0] at l1 l2 l3 l4
 have HB:=Lib.hid l4
 have HKX:=Lib.hid (fun X (hX:Below W0.heap.size W0 X)=>And.intro (can14 ((hX.block _ (by omega)).trans l1)).1 (can14 ((hX.block _ (by omega)).trans l2)).1)
 obtain ⟨⟨c0,c1,c2,c3,c4,c5,c6,c7,c8,c9,ca,cb,cc,cd⟩,d0,d1,d2,d3,d4,d5,d6,d7,d8,d9,da,db,dc,dd⟩:=HKX.out W0 (Below.refl _ _)
 have HB0:=Lib.hid (Below.refl W0.heap.size W0)
 clear l1 l2 l3 l4
 go_enter Tryz.func31,Tryz.ntmps31
 go_wp2_with (fail)
 go_at_call 61
 refine (H1.out _ (Bt HB.out HB0.out)).mono ?_
 rintro e w9 ⟨rfl,hB9⟩
 have HB9:=Lib.hid (Bt HB0.out hB9)
 clear hB9 HB0 c0 c1 c2 c3 c4 c5 c6 c7 c8 c9 ca cb cc cd d0 d1 d2 d3 d4 d5 d6 d7 d8 d9 da db dc dd
 have HB0:=HB9
 clear HB9
 obtain ⟨⟨c0,c1,c2,c3,c4,c5,c6,c7,c8,c9,ca,cb,cc,cd⟩,d0,d1,d2,d3,d4,d5,d6,d7,d8,d9,da,db,dc,dd⟩:=HKX.out _ HB0.out
 by_cases hq0:x.aggs=y.aggs
 rotate_left
 ·have HR:=Lib.hid (HNE.out fun h=>hq0 h.1)
  rw [decide_eq_false hq0]
  clear hq0
  go_wp2
  go_ret
  exact ⟨ret_bool' HR.out.symm,Bt HB.out HB0.out⟩
 rw [decide_eq_true hq0]
 have HQ0:=Lib.hid hq0
 clear hq0
 go_wp2_with (fail)
 go_at_call 62
 refine (H2.out _ (Bt HB.out HB0.out)).mono ?_
 rintro e w9 ⟨rfl,hB9⟩
 have HB9:=Lib.hid (Bt HB0.out hB9)
 clear hB9 HB0 c0 c1 c2 c3 c4 c5 c6 c7 c8 c9 ca cb cc cd d0 d1 d2 d3 d4 d5 d6 d7 d8 d9 da db dc dd
 have HB0:=HB9
 clear HB9
 obtain ⟨⟨c0,c1,c2,c3,c4,c5,c6,c7,c8,c9,ca,cb,cc,cd⟩,d0,d1,d2,d3,d4,d5,d6,d7,d8,d9,da,db,dc,dd⟩:=HKX.out _ HB0.out
 by_cases hq1:x.names=y.names
 rotate_left
 ·have HR:=Lib.hid (HNE.out fun h=>hq1 h.2.1)
  rw [decide_eq_false hq1]
  clear hq1
  go_wp2
  go_ret
  exact ⟨ret_bool' HR.out.symm,Bt HB.out HB0.out⟩
 rw [decide_eq_true hq1]
 have HQ1:=Lib.hid hq1
 clear hq1
 by_cases hq2:x.mode=y.mode
 rotate_left
 ·have HR:=Lib.hid (HNE.out fun h=>hq2 h.2.2.1)
  have hn2:(x.mode == y.mode)=false:=beq_eq_false_iff_ne.2 hq2
  clear hq2
  go_wp2
  go_ret
  exact ⟨ret_bool' HR.out.symm,Bt HB.out HB0.out⟩
 have hn2:(x.mode == y.mode)=true:=beq_iff_eq.2 hq2
 have HQ2:=Lib.hid hq2
 clear hq2
 go_wp2_with (fail)
 go_at_call 63
 refine (H3.out _ (Bt HB.out HB0.out)).mono ?_
 rintro e w9 ⟨rfl,hB9⟩
 have HB9:=Lib.hid (Bt HB0.out hB9)
 clear hB9 HB0 c0 c1 c2 c3 c4 c5 c6 c7 c8 c9 ca cb cc cd d0 d1 d2 d3 d4 d5 d6 d7 d8 d9 da db dc dd
 have HB0:=HB9
 clear HB9
 obtain ⟨⟨c0,c1,c2,c3,c4,c5,c6,c7,c8,c9,ca,cb,cc,cd⟩,d0,d1,d2,d3,d4,d5,d6,d7,d8,d9,da,db,dc,dd⟩:=HKX.out _ HB0.out
 by_cases hq3:x.sets=y.sets
 rotate_left
 ·have HR:=Lib.hid (HNE.out fun h=>hq3 h.2.2.2.1)
  rw [decide_eq_false hq3]
  clear hq3
  go_wp2
  go_ret
  exact ⟨ret_bool' HR.out.symm,Bt HB.out HB0.out⟩
 rw [decide_eq_true hq3]
 have HQ3:=Lib.hid hq3
 clear hq3
 by_cases hq4:x.every=y.every
 rotate_left
 ·have HR:=Lib.hid (HNE.out fun h=>hq4 h.2.2.2.2.1)
  have hn4:(x.every == y.every)=false:=beq_eq_false_iff_ne.2 hq4
  clear hq4
  go_wp2
  go_ret
  exact ⟨ret_bool' HR.out.symm,Bt HB.out HB0.out⟩
 have hn4:(x.every == y.every)=true:=beq_iff_eq.2 hq4
 have HQ4:=Lib.hid hq4
 clear hq4
 go_wp2_with (fail)
 go_at_call 64
 refine (H4.out _ (Bt HB.out HB0.out)).mono ?_
 rintro e w9 ⟨rfl,hB9⟩
 have HB9:=Lib.hid (Bt HB0.out hB9)
 clear hB9 HB0 c0 c1 c2 c3 c4 c5 c6 c7 c8 c9 ca cb cc cd d0 d1 d2 d3 d4 d5 d6 d7 d8 d9 da db dc dd
 have HB0:=HB9
 clear HB9
 obtain ⟨⟨c0,c1,c2,c3,c4,c5,c6,c7,c8,c9,ca,cb,cc,cd⟩,d0,d1,d2,d3,d4,d5,d6,d7,d8,d9,da,db,dc,dd⟩:=HKX.out _ HB0.out
 by_cases hq5:x.fil=y.fil
 rotate_left
 ·have HR:=Lib.hid (HNE.out fun h=>hq5 h.2.2.2.2.2.1)
  rw [sameB_false hq5]
  clear hq5
  go_wp2
  go_ret
  exact ⟨ret_bool' HR.out.symm,Bt HB.out HB0.out⟩
 rw [sameB_true hq5]
 have HQ5:=Lib.hid hq5
 clear hq5
 go_wp2_with (fail)
 go_at_call 65
 refine (H5.out _ (Bt HB.out HB0.out)).mono ?_
 rintro e w9 ⟨rfl,hB9⟩
 have HB9:=Lib.hid (Bt HB0.out hB9)
 clear hB9 HB0 c0 c1 c2 c3 c4 c5 c6 c7 c8 c9 ca cb cc cd d0 d1 d2 d3 d4 d5 d6 d7 d8 d9 da db dc dd
 have HB0:=HB9
 clear HB9
 obtain ⟨⟨c0,c1,c2,c3,c4,c5,c6,c7,c8,c9,ca,cb,cc,cd⟩,d0,d1,d2,d3,d4,d5,d6,d7,d8,d9,da,db,dc,dd⟩:=HKX.out _ HB0.out
 by_cases hq6:x.conds=y.conds
 rotate_left
 ·have HR:=Lib.hid (HNE.out fun h=>hq6 h.2.2.2.2.2.2.1)
  rw [decide_eq_false hq6]
  clear hq6
  go_wp2
  go_ret
  exact ⟨ret_bool' HR.out.symm,Bt HB.out HB0.out⟩
 rw [decide_eq_true hq6]
 have HQ6:=Lib.hid hq6
 clear hq6
 go_wp2_with (fail)
 go_at_call 66
 refine (H6.out _ (Bt HB.out HB0.out)).mono ?_
 rintro e w9 ⟨rfl,hB9⟩
 have HB9:=Lib.hid (Bt HB0.out hB9)
 clear hB9 HB0 c0 c1 c2 c3 c4 c5 c6 c7 c8 c9 ca cb cc cd d0 d1 d2 d3 d4 d5 d6 d7 d8 d9 da db dc dd
 have HB0:=HB9
 clear HB9
 obtain ⟨⟨c0,c1,c2,c3,c4,c5,c6,c7,c8,c9,ca,cb,cc,cd⟩,d0,d1,d2,d3,d4,d5,d6,d7,d8,d9,da,db,dc,dd⟩:=HKX.out _ HB0.out
 by_cases hq7:x.keys=y.keys
 rotate_left
 ·have HR:=Lib.hid (HNE.out fun h=>hq7 h.2.2.2.2.2.2.2.1)
  rw [decide_eq_false hq7]
  clear hq7
  go_wp2
  go_ret
  exact ⟨ret_bool' HR.out.symm,Bt HB.out HB0.out⟩
 rw [decide_eq_true hq7]
 have HQ7:=Lib.hid hq7
 clear hq7
 by_cases hq8:x.limit=y.limit
 rotate_left
 ·have HR:=Lib.hid (HNE.out fun h=>hq8 h.2.2.2.2.2.2.2.2)
  have hn8:(x.limit == y.limit)=false:=beq_eq_false_iff_ne.2 hq8
  clear hq8
  go_wp2
  go_ret
  exact ⟨ret_bool' HR.out.symm,Bt HB.out HB0.out⟩
 have hn8:(x.limit == y.limit)=true:=beq_iff_eq.2 hq8
 have HQ8:=Lib.hid hq8
 clear hq8
 have HR:=Lib.hid (HEQ.out HQ0.out HQ1.out HQ2.out HQ3.out HQ4.out HQ5.out HQ6.out HQ7.out HQ8.out)
 go_wp2
 go_ret
 exact ⟨ret_bool' HR.out.symm,Bt HB.out HB0.out⟩
end Go.Proofs.YtbbgjjjeecfnoaaGreatDoor
