/- Joined by mergeK.py: H12, H10, K57, K60, K61, K62 -/
import Derived.Test.YtaddkkkchkdgkaaGreatDoorWC40
import Derived.Test.YtaddkkkchkdgkaaGreatDoorWC37
import Derived.Test.YtaddkkkchkdgkaaGreatDoorWC20
import Derived.Test.YtaddkkkchkdgkaaGreatDoorWC24
import Derived.Test.YtaddkkkchkdgkaaGreatDoorWC17
namespace Go.Proofs.YtaddkkkchkdgkaaGreatDoor
open Go.RowKit Go.Sort
open Tess (Fil Que)
set_option maxRecDepth 100000 in
set_option maxHeartbeats 4000000 in
theorem qcheck_any (a0 a1:Addr) (p:Nat→Prop) (n:Nat) (vs v:Value) (s:Tess.Sch) (q:Que) (va vb vS f0 f1 f2 f3 f4 f5 vh vo:Value) (w:World) (hV:Vars a0 a1 w) (hs:SchAt p w vs s) (hq:QueAt p n w v q va vb vS f0 f1 f2 f3 f4 f5 vh vo) (hn:n≤100) (hK:kindsOk q.fil) :
  Calls Tryz.prog 44 #[vs,v] w fun e w'=>e = .returned (.int .i64 (Que.check s q:Nat))∧Below w.heap.size w w':=by
 have HR:=Lib.hid (fun W (hB:Below w.heap.size w W)=>schRight_any vs s p W (hs.ag (Ag.new p hB)))
 have HI:=Lib.hid (fun W (hB:Below w.heap.size w W)=>isOf_any p n vs v s q va vb vS f0 f1 f2 f3 f4 f5 vh vo W (hs.ag (Ag.new p hB)) (hq.ag (Ag.new p hB)))
 have HF:=Lib.hid (fun W (hB:Below w.heap.size w W)=>check_any a0 a1 p n vs (.agg #[f0,f1,f2,f3,f4,f5]) s q.fil W (hV.below hB) (hs.ag (Ag.new p hB)) (hq.fil.ag (Ag.new p hB)) hn hK)
 have HE:RowKit.Hid (Que.check s q=if Tess.schOk s then (if Que.isOf s q then (if decide (q.every≠0) && !Tess.coarser s.grain q.every then 110 else Fil.checkE s q.fil) else 152) else 100):=Lib.hid rfl
 obtain ⟨vd,vm,rfl,_,_,_,_⟩:=hs
 have hv:=hq.e
 subst hv
 clear hq hV
 obtain ⟨W0,hW0⟩:∃ W0,(w.alloc (.cells #[vd,vm,.int .i64 s.grain] 24)).alloc (.cells #[va,vb,.int .i64 q.mode,vS,.int .i64 q.every,f0,f1,f2,f3,f4,f5,vh,vo,.int .i64 q.limit] 35)=W0:=⟨_,rfl⟩
 obtain ⟨h1,h2,hS0,hB0⟩:=laid2 w (.cells #[vd,vm,.int .i64 s.grain] 24) (.cells #[va,vb,.int .i64 q.mode,vS,.int .i64 q.every,f0,f1,f2,f3,f4,f5,vh,vo,.int .i64 q.limit] 35)
 rw [hW0] at h1 h2 hS0 hB0
 have HBX:=Lib.hid (fun X (hX:Below W0.heap.size W0 X)=>And.intro (can3 ((hX.block _ (Array.getElem?_eq_some_iff.1 h1).1).trans h1)).1 (can14 ((hX.block _ (Array.getElem?_eq_some_iff.1 h2).1).trans h2)).1)
 have HG:=Lib.hid (fun W=>coarser_any s.grain q.every W)
 have HB0:=Lib.hid hB0
 have hB00:=Below.refl W0.heap.size W0
 clear h1 h2 hS0 hB0
 obtain ⟨⟨x0,x1,x2⟩,y0,y1,y2,y3,y4,y5,y6,y7,y8,y9,ya,yb,yc,yd⟩:=HBX.out W0 hB00
 generalize Que.check s q=r at *
 generalize Tess.schOk s=c1 at *
 generalize Que.isOf s q=c2 at *
 generalize Tess.coarser s.grain q.every=c3 at *
 generalize Fil.checkE s q.fil=c4 at *
 go_enter Tryz.func44,Tryz.ntmps44
 go_wp2_with (fail)
 go_at_call 30
 refine (HR.out W0 HB0.out).mono ?_
 rintro e W1 ⟨rfl,hx⟩
 have hB1:=Bt hB00 hx
 clear hx x0 x1 x2 y0 y1 y2 y3 y4 y5 y6 y7 y8 y9 ya yb yc yd
 obtain ⟨⟨x0,x1,x2⟩,y0,y1,y2,y3,y4,y5,y6,y7,y8,y9,ya,yb,yc,yd⟩:=HBX.out W1 hB1
 have HB1:=Lib.hid hB1
 clear hB1
 cases c1
 ·have HZ:=Lib.hid (show r=100 from HE.out)
  go_wp2
  go_ret
  exact ⟨ret_int (by rw [HZ.out];rfl),Bt HB0.out HB1.out⟩
 have HE:=Lib.hid (show r=if c2 then (if decide (q.every≠0) && !c3 then 110 else c4) else 152 from HE.out)
 go_wp2_with (fail)
 go_at_call 78
 refine (HI.out W1 (Bt HB0.out HB1.out)).mono ?_
 rintro e W2 ⟨rfl,hx⟩
 have hB2:=Bt HB1.out hx
 clear hx x0 x1 x2 y0 y1 y2 y3 y4 y5 y6 y7 y8 y9 ya yb yc yd
 obtain ⟨⟨x0,x1,x2⟩,y0,y1,y2,y3,y4,y5,y6,y7,y8,y9,ya,yb,yc,yd⟩:=HBX.out W2 hB2
 have HB2:=Lib.hid hB2
 clear hB2
 cases c2
 ·have HZ:=Lib.hid (show r=152 from HE.out)
  go_wp2
  go_ret
  exact ⟨ret_int (by rw [HZ.out];rfl),Bt HB0.out HB2.out⟩
 have HE:=Lib.hid (show r=if decide (q.every≠0) && !c3 then 110 else c4 from HE.out)
 by_cases h0:q.every=0
 ·have HZ:=Lib.hid (show r=c4 by rw [HE.out];simp [h0])
  have h0b:(q.every != 0)=false:=by simp [h0]
  clear h0
  go_wp2_with (go_at_call 80;refine (HF.out _ (Bt HB0.out HB2.out)).mono ?_;rintro e W3 ⟨rfl,hx⟩;have HB3:=Lib.hid (Bt HB2.out hx);clear hx)
  go_ret
  exact ⟨ret_int (by rw [HZ.out]),Bt HB0.out HB3.out⟩
 ·have h0b:(q.every != 0)=true:=by simp [h0]
  have HZ:=Lib.hid (show r=if c3 then c4 else 110 by rw [HE.out];cases c3 <;> simp [h0])
  clear h0
  go_wp2_with (fail)
  go_at_call 79
  refine (HG.out W2).mono ?_
  rintro e W3 ⟨rfl,hx⟩
  have hB3:=Bt HB2.out hx
  clear hx x0 x1 x2 y0 y1 y2 y3 y4 y5 y6 y7 y8 y9 ya yb yc yd
  obtain ⟨⟨x0,x1,x2⟩,y0,y1,y2,y3,y4,y5,y6,y7,y8,y9,ya,yb,yc,yd⟩:=HBX.out W3 hB3
  have HB3:=Lib.hid hB3
  clear hB3
  cases c3
  ·go_wp2
   go_ret
   exact ⟨ret_int (by rw [HZ.out];rfl),Bt HB0.out HB3.out⟩
  ·go_wp2_with (go_at_call 80;refine (HF.out _ (Bt HB0.out HB3.out)).mono ?_;rintro e W4 ⟨rfl,hx⟩;have HB4:=Lib.hid (Bt HB3.out hx);clear hx)
   go_ret
   exact ⟨ret_int (by rw [HZ.out];rfl),Bt HB0.out HB4.out⟩
end Go.Proofs.YtaddkkkchkdgkaaGreatDoor
namespace Tess
open Go
namespace Que
end Que
end Tess
namespace Go.Proofs.YtaddkkkchkdgkaaGreatDoor
open Go.RowKit Go.Sort
open Tess (Fil Que)
theorem pow_small (n:Nat) (h:n≤10):(2:Int) ^ n=((2 ^ n:Nat):Int)∧1≤2 ^ n∧2 ^ n≤1024:=by
 refine ⟨by simp,Nat.one_le_two_pow,?_⟩
 calc 2 ^ n≤2 ^ 10:=Nat.pow_le_pow_right (by omega) h
  _=1024:=rfl
end Go.Proofs.YtaddkkkchkdgkaaGreatDoor
namespace Go.Proofs.YtaddkkkchkdgkaaGreatDoor
open Go.RowKit Go.Sort Go.Shelf
open Tess (CK Pay PayOk CelOk CelsOk Que Fil)
abbrev folC (va vb vS f0 f1 f2 f3 f4 f5 vh vo s0 s1 vp:Value) (q:Que) (g set:Int):Array Value:=#[va,vb,.int .i64 q.mode,vS,.int .i64 q.every,f0,f1,f2,f3,f4,f5,vh,vo,.int .i64 q.limit,s0,s1,.int .i64 g,.int .i64 set,vp]
set_option maxRecDepth 100000 in
set_option maxHeartbeats 8000000 in
theorem foldBad_any (a0 a1:Addr) (p:Nat→Prop) (n:Nat) (s:Tess.Sch) (q:Que) (set:Int) (va vb vS f0 f1 f2 f3 f4 f5 vh vo s0 s1 vp:Value) (w:World) (hV:Vars a0 a1 w) (hs:SchAt p w (.agg #[s0,s1,.int .i64 s.grain]) s) (hq:QueAt p n w (.agg #[va,vb,.int .i64 q.mode,vS,.int .i64 q.every,f0,f1,f2,f3,f4,f5,vh,vo,.int .i64 q.limit]) q va vb vS f0 f1 f2 f3 f4 f5 vh vo) (hn:n≤100) (hK:kindsOk q.fil) (hnm:q.names.length≤10) (hbad:foldE s q set≠0) :
  Calls Tryz.prog 34 #[.agg (folC va vb vS f0 f1 f2 f3 f4 f5 vh vo s0 s1 vp q s.grain set)] w fun e w'=>e = .returned (.tuple #[.slice none 0 0,.iface 143 (.agg #[.int .i64 (foldE s q set:Nat)])])∧Below w.heap.size w w':=by
 have HC:=Lib.hid (fun W (hB:Below w.heap.size w W)=>qcheck_any a0 a1 p n _ _ s q va vb vS f0 f1 f2 f3 f4 f5 vh vo W (hV.below hB) (hs.ag (Ag.new p hB)) (hq.ag (Ag.new p hB)) hn hK)
 obtain ⟨⟨hln,ba,bc,rfl,hbc⟩,hbp,_⟩:=hq.names
 rw [List.length_map] at *
 obtain ⟨W0,hW0⟩:∃ W0,(w.alloc (.cells (folC va (.slice ba q.names.length bc) vS f0 f1 f2 f3 f4 f5 vh vo s0 s1 vp q s.grain set) 92)).alloc (.cells #[.slice none 0 0,.map none] 101)=W0:=⟨_,rfl⟩
 obtain ⟨k0,k1,kS,kB⟩:=laid2 w (.cells (folC va (.slice ba q.names.length bc) vS f0 f1 f2 f3 f4 f5 vh vo s0 s1 vp q s.grain set) 92) (.cells #[.slice none 0 0,.map none] 101)
 rw [hW0] at k0 k1 kS kB
 obtain ⟨⟨y0,y1,y2,y3,y4,y5,y6,y7,y8,y9,ya,yb,yc,yd⟩,⟨ye,yf,yg⟩,yh,yi⟩:=can19 k0
 have HK0:=Lib.hid k0
 have HKB:=Lib.hid kB
 have HKS:=Lib.hid kS
 have HBD:=Lib.hid hbad
 have HE:RowKit.Hid (foldE s q set=if Que.check s q≠0 then Que.check s q else if set < 0∨((2 ^ q.names.length:Nat):Int)≤set then 152 else 0):=Lib.hid rfl
 generalize foldE s q set=E at *
 generalize Que.check s q=c at *
 clear k0 k1 kS kB hV hs hq hbc hbp hln hbad hK
 by_cases hc:c=0
 ·subst hc
  obtain ⟨p1,p2,p3⟩:=pow_small q.names.length hnm
  have he:=HE.out
  rw [if_neg (by simp)] at he
  have hcase:set < 0∨((2 ^ q.names.length:Nat):Int)≤set:=Classical.byContradiction fun h=>HBD.out (by rw [he,if_neg h])
  rw [if_pos hcase] at he
  subst he
  obtain ⟨P,hP⟩:∃ P,P=2 ^ q.names.length:=⟨_,rfl⟩
  rw [← hP] at p1 p2 p3 hcase
  clear hP HE HBD
  by_cases h0:set < 0
  ·clear hcase
   go_enter Tryz.func34,Tryz.ntmps34
   go_wp2
   refine wp_scope_fwd 0 rfl ?_
   go_wp2_with (go_at_call 44;refine (HC.out W0 HKB.out).mono ?_;rintro e W1 ⟨rfl,hB1⟩;obtain ⟨⟨z0,z1,z2,z3,z4,z5,z6,z7,z8,z9,za,zb,zc,zd⟩,⟨ze,zf,zg⟩,zh,zi⟩:=can19 ((hB1.block _ (by rw [HKS.out];omega)).trans HK0.out);have hlw:=World.block_lt_of_cell? _ _ z0;have HB1:=Lib.hid (Bt HKB.out hB1);clear hB1)
   refine Flow.wp_region_flow_tail 11 (Flow.specs [.inl ?_,.inl ?_,.inl ?_,.inl ?_,.inl ?_,.inl ?_,.inl ?_,.inl ?_,.inl ?_,.inl ?_,.inl ?_]) (by kernel_rfl) (by kernel_rfl) ?_ ?_
   rotate_left 11
   ·refine Flow.specs_mono ?_
    repeat (first | exact Flow.lmono_nil | refine Flow.lmono_inl ?_)
   all_goals try simp only [List.take_succ_cons,List.take_zero,List.drop_succ_cons,List.drop_zero]
   iterate 11 (refine Flow.tree_valK rfl (fun K hK=>⟨fun w hw hG => ?_,?_⟩);(have hcl:=Flow.bcell hw;clear hG hw;unfold Flow.Runs Flow.yields;go_simp;try rfl);go_simp;refine hK _ ?_;clear hK K)
   refine Flow.tree_nil fun w2 hw2 hG => ?_
   clear hG
   have HB2:=Lib.hid (Bt HB1.out hw2)
   clear hw2
   go_wp2_with (fail)
   go_step3
   refine Exit.then_goto (Exit.fwd_goto ?_)
   go_wp2
   rw [Exit.noGoto_ret]
   go_ret2
   exact ⟨rfl,HB2.out⟩
  ·have hcase:(P:Int)≤set:=hcase.resolve_left h0
   go_enter Tryz.func34,Tryz.ntmps34
   go_wp2
   refine wp_scope_fwd 0 rfl ?_
   go_wp2_with (go_at_call 44;refine (HC.out W0 HKB.out).mono ?_;rintro e W1 ⟨rfl,hB1⟩;obtain ⟨⟨z0,z1,z2,z3,z4,z5,z6,z7,z8,z9,za,zb,zc,zd⟩,⟨ze,zf,zg⟩,zh,zi⟩:=can19 ((hB1.block _ (by rw [HKS.out];omega)).trans HK0.out);have hlw:=World.block_lt_of_cell? _ _ z0;have HB1:=Lib.hid (Bt HKB.out hB1);clear hB1)
   refine Flow.wp_region_flow_tail 11 (Flow.specs [.inl ?_,.inl ?_,.inl ?_,.inl ?_,.inl ?_,.inl ?_,.inl ?_,.inl ?_,.inl ?_,.inl ?_,.inl ?_]) (by kernel_rfl) (by kernel_rfl) ?_ ?_
   rotate_left 11
   ·refine Flow.specs_mono ?_
    repeat (first | exact Flow.lmono_nil | refine Flow.lmono_inl ?_)
   all_goals try simp only [List.take_succ_cons,List.take_zero,List.drop_succ_cons,List.drop_zero]
   iterate 11 (refine Flow.tree_valK rfl (fun K hK=>⟨fun w hw hG => ?_,?_⟩);(have hcl:=Flow.bcell hw;clear hG hw;unfold Flow.Runs Flow.yields;go_simp;try rfl);go_simp;refine hK _ ?_;clear hK K)
   refine Flow.tree_nil fun w2 hw2 hG => ?_
   clear hG
   have HB2:=Lib.hid (Bt HB1.out hw2)
   clear hw2
   go_wp2_with (fail)
   go_step3
   refine Exit.then_goto (Exit.fwd_goto ?_)
   go_wp2
   rw [Exit.noGoto_ret]
   go_ret2
   exact ⟨rfl,HB2.out⟩
 ·have he:=HE.out
  rw [if_pos hc] at he
  subst he
  have hne:((E:Int) != (0:Int))=true:=by rw [bne_iff_ne];omega
  clear HE HBD
  go_enter Tryz.func34,Tryz.ntmps34
  go_wp2
  refine wp_scope_fwd 0 rfl ?_
  go_wp2_with (go_at_call 44;refine (HC.out W0 HKB.out).mono ?_;rintro e W1 ⟨rfl,hB1⟩;have HB1:=Lib.hid (Bt HKB.out hB1);clear hB1)
  go_step3
  refine Exit.then_goto (Exit.fwd_goto ?_)
  go_wp2
  rw [Exit.noGoto_ret]
  go_ret2
  exact ⟨rfl,HB1.out⟩
end Go.Proofs.YtaddkkkchkdgkaaGreatDoor
namespace Go.Proofs.YtaddkkkchkdgkaaGreatDoor
open Go.RowKit Go.Sort
open Tess (CK Pay)
attribute [local go_sem] Oper.semAt_some
set_option maxRecDepth 100000 in
set_option maxHeartbeats 2000000 in
theorem rvals_any (p q:Nat→Prop) (va vb:Value) (l1 l2:List Tess.Val) (w:World) (ha:RowsW 2 valF p w va l1) (hb:RowsW 2 valF q w vb l2) :
  Calls Tryz.prog 47 #[va,vb] w fun e w'=>e = .returned (.bool (decide (l1=l2)))∧Below w.heap.size w w':=by
 obtain ⟨xa,ca,rfl,hm1,hc1⟩:=ha
 obtain ⟨xb,cb,rfl,hm2,hc2⟩:=hb
 have hlm1:l1.length≤9223372036854775807:=by unfold maxLen at hm1;omega
 have hlm2:l2.length≤9223372036854775807:=by unfold maxLen at hm2;omega
 have HC1:=Lib.hid hc1
 have HC2:=Lib.hid hc2
 clear hc1 hc2 hm1 hm2
 by_cases hl:l1.length=l2.length
 ·have hl':((l1.length:Int) != (l2.length:Int))=false:=by rw [bne_eq_false_iff_eq];omega
  have HL:=Lib.hid hl
  clear hl
  go_enter Tryz.func47,Tryz.ntmps47
  go_wp2
  go_loopw [5] (fun i wr => ∃ k:Nat,k≤l1.length∧i = .int .i64 k∧(∀ j (h1:j < l1.length) (h2:j < l2.length),j < k→l1[j]=l2[j])∧Below w.heap.size w wr) (fun i _=>l1.length - (intOf i).toNat)
  case atStart=>exact ⟨0,Nat.zero_le _,rfl,fun j _ _ h=>absurd h (Nat.not_lt_zero _),Below.refl _ _⟩
  case round=>
   obtain ⟨k,hk,rfl,hall,hBr⟩:=hrel
   have HALL:=Lib.hid hall
   have HBr:=Lib.hid hBr
   clear hall hBr
   by_cases hlt:k < l1.length
   ·have hlt2:k < l2.length:=by have:=HL.out;omega
    obtain ⟨b,off,rfl,hb,_,g1⟩:=HC1.out (by omega)
    obtain ⟨b',off',rfl,hb',_,g2⟩:=HC2.out (by omega)
    have hki:(k:Int) < (l1.length:Int):=by omega
    have hki2:(k:Int) < (l2.length:Int):=by omega
    have hbw:b < wr.heap.size:=Nat.lt_of_lt_of_le hb HBr.out.size
    have hbw':b' < wr.heap.size:=Nat.lt_of_lt_of_le hb' HBr.out.size
    have G1:=g1 k hlt
    have G2:=g2 k hlt2
    have HEQ0:=Lib.hid (show ∀ h:l1[k]=l2[k],∀ j (h1:j < l1.length) (h2:j < l2.length),j < k + 1→l1[j]=l2[j] from fun h j h1 h2 hj=>by
     by_cases hjk:j < k
     ·exact HALL.out j h1 h2 hjk
     ·obtain rfl:j=k:=by omega
      exact h)
    have HNE0:=Lib.hid (show l1[k]≠l2[k]→l1≠l2 from fun h e=>h (by subst e;rfl))
    clear g1 g2
    generalize l1[k]=u1 at *
    generalize l2[k]=u2 at *
    obtain ⟨x0,x1⟩:=u1
    obtain ⟨y0,y1⟩:=u2
    have r0:wr.cell? ⟨b,off + k * 2,none⟩=some (.string x0):=(HBr.out.cell (p:=⟨b,off + k * 2,none⟩) hb).trans (G1 0 (by omega))
    have t0:wr.cell? ⟨b',off' + k * 2,none⟩=some (.string y0):=(HBr.out.cell (p:=⟨b',off' + k * 2,none⟩) hb').trans (G2 0 (by omega))
    have r1:wr.cell? ⟨b,off + k * 2 + 1,none⟩=some (.bool x1):=(HBr.out.cell (p:=⟨b,off + k * 2 + 1,none⟩) hb).trans (G1 1 (by omega))
    have t1:wr.cell? ⟨b',off' + k * 2 + 1,none⟩=some (.bool y1):=(HBr.out.cell (p:=⟨b',off' + k * 2 + 1,none⟩) hb').trans (G2 1 (by omega))
    clear G1 G2
    have HNQ:=Lib.hid (fun W=>neq_val x0 y0 x1 y1 W)
    go_wp2_with (fail)
    refine Flow.wp_region_flow_tail 8 (Flow.specs [.inl ?_,.inl ?_,.inl ?_,.inl ?_,.inl ?_,.inl ?_,.inl ?_,.inl ?_]) (by kernel_rfl) (by kernel_rfl) ?_ ?_
    rotate_left 8
    ·refine Flow.specs_mono ?_
     repeat (first | exact Flow.lmono_nil | refine Flow.lmono_inl ?_)
    all_goals try simp only [List.take_succ_cons,List.take_zero,List.drop_succ_cons,List.drop_zero]
    iterate 8 (refine Flow.tree_valK rfl (fun K hK=>⟨fun w hw hG => ?_,?_⟩);(have hcl:=Flow.bcell hw;clear hG hw;unfold Flow.Runs Flow.yields;go_simp;try rfl);go_simp;refine hK _ ?_;clear hK K)
    refine Flow.tree_nil fun w2 hw2 hG => ?_
    clear hG
    have HB2:=Lib.hid (Bt HBr.out hw2)
    clear hw2
    have hnq:=HNQ.out
    by_cases he:(⟨x0,x1⟩:Tess.Val)=⟨y0,y1⟩
    ·rw [decide_eq_true he] at hnq
     have HEQ:=Lib.hid (HEQ0.out he)
     clear he HNQ
     go_wp2
     go_roundw
     case rel=>exact ⟨k + 1,by omega,by go_num,HEQ.out,HB2.out⟩
     case measure=>simp [intOf];omega
    ·rw [decide_eq_false he] at hnq
     have HNE:=Lib.hid (HNE0.out he)
     clear he HNQ
     go_wp2
     go_ret
     exact ⟨retB (decide_eq_false HNE.out).symm,HB2.out⟩
   ·have hki:¬ (k:Int) < (l1.length:Int):=by omega
    have HEL:=Lib.hid (show l1=l2 from List.ext_getElem HL.out fun j h1 h2=>HALL.out j h1 h2 (by omega))
    go_wp2
    go_ret
    exact ⟨retB (decide_eq_true HEL.out).symm,HBr.out⟩
 ·have hl':((l1.length:Int) != (l2.length:Int))=true:=by rw [bne_iff_ne];omega
  have HN:=Lib.hid (show l1≠l2 from fun e=>hl (by rw [e]))
  clear hl
  go_enter Tryz.func47,Tryz.ntmps47
  go_wp2
  go_ret
  exact ⟨retB (decide_eq_false HN.out).symm,Below.refl _ _⟩
set_option maxRecDepth 100000 in
set_option maxHeartbeats 2000000 in
theorem rwides_any (p q:Nat→Prop) (va vb:Value) (l1 l2:List Int) (w:World) (ha:RowsW 2 wideF p w va l1) (hb:RowsW 2 wideF q w vb l2) :
  Calls Tryz.prog 71 #[va,vb] w fun e w'=>e = .returned (.bool (decide (l1=l2)))∧Below w.heap.size w w':=by
 obtain ⟨xa,ca,rfl,hm1,hc1⟩:=ha
 obtain ⟨xb,cb,rfl,hm2,hc2⟩:=hb
 have hlm1:l1.length≤9223372036854775807:=by unfold maxLen at hm1;omega
 have hlm2:l2.length≤9223372036854775807:=by unfold maxLen at hm2;omega
 have HC1:=Lib.hid hc1
 have HC2:=Lib.hid hc2
 clear hc1 hc2 hm1 hm2
 by_cases hl:l1.length=l2.length
 ·have hl':((l1.length:Int) != (l2.length:Int))=false:=by rw [bne_eq_false_iff_eq];omega
  have HL:=Lib.hid hl
  clear hl
  go_enter Tryz.func71,Tryz.ntmps71
  go_wp2
  go_loopw [5] (fun i wr => ∃ k:Nat,k≤l1.length∧i = .int .i64 k∧(∀ j (h1:j < l1.length) (h2:j < l2.length),j < k→l1[j]=l2[j])∧Below w.heap.size w wr) (fun i _=>l1.length - (intOf i).toNat)
  case atStart=>exact ⟨0,Nat.zero_le _,rfl,fun j _ _ h=>absurd h (Nat.not_lt_zero _),Below.refl _ _⟩
  case round=>
   obtain ⟨k,hk,rfl,hall,hBr⟩:=hrel
   have HALL:=Lib.hid hall
   have HBr:=Lib.hid hBr
   clear hall hBr
   by_cases hlt:k < l1.length
   ·have hlt2:k < l2.length:=by have:=HL.out;omega
    obtain ⟨b,off,rfl,hb,_,g1⟩:=HC1.out (by omega)
    obtain ⟨b',off',rfl,hb',_,g2⟩:=HC2.out (by omega)
    have hki:(k:Int) < (l1.length:Int):=by omega
    have hki2:(k:Int) < (l2.length:Int):=by omega
    have hbw:b < wr.heap.size:=Nat.lt_of_lt_of_le hb HBr.out.size
    have hbw':b' < wr.heap.size:=Nat.lt_of_lt_of_le hb' HBr.out.size
    have G1:=g1 k hlt
    have G2:=g2 k hlt2
    have HEQ0:=Lib.hid (show ∀ h:l1[k]=l2[k],∀ j (h1:j < l1.length) (h2:j < l2.length),j < k + 1→l1[j]=l2[j] from fun h j h1 h2 hj=>by
     by_cases hjk:j < k
     ·exact HALL.out j h1 h2 hjk
     ·obtain rfl:j=k:=by omega
      exact h)
    have HNE0:=Lib.hid (show l1[k]≠l2[k]→l1≠l2 from fun h e=>h (by subst e;rfl))
    clear g1 g2
    generalize l1[k]=u1 at *
    generalize l2[k]=u2 at *
    have r0:wr.cell? ⟨b,off + k * 2,none⟩=some (.int .i64 (wHi u1)):=(HBr.out.cell (p:=⟨b,off + k * 2,none⟩) hb).trans (G1 0 (by omega))
    have t0:wr.cell? ⟨b',off' + k * 2,none⟩=some (.int .i64 (wHi u2)):=(HBr.out.cell (p:=⟨b',off' + k * 2,none⟩) hb').trans (G2 0 (by omega))
    have r1:wr.cell? ⟨b,off + k * 2 + 1,none⟩=some (.int .u64 (wLo u1)):=(HBr.out.cell (p:=⟨b,off + k * 2 + 1,none⟩) hb).trans (G1 1 (by omega))
    have t1:wr.cell? ⟨b',off' + k * 2 + 1,none⟩=some (.int .u64 (wLo u2)):=(HBr.out.cell (p:=⟨b',off' + k * 2 + 1,none⟩) hb').trans (G2 1 (by omega))
    clear G1 G2
    have HNQ:=Lib.hid (fun W=>neq_wide u1 u2 W)
    go_wp2_with (fail)
    refine Flow.wp_region_flow_tail 8 (Flow.specs [.inl ?_,.inl ?_,.inl ?_,.inl ?_,.inl ?_,.inl ?_,.inl ?_,.inl ?_]) (by kernel_rfl) (by kernel_rfl) ?_ ?_
    rotate_left 8
    ·refine Flow.specs_mono ?_
     repeat (first | exact Flow.lmono_nil | refine Flow.lmono_inl ?_)
    all_goals try simp only [List.take_succ_cons,List.take_zero,List.drop_succ_cons,List.drop_zero]
    iterate 8 (refine Flow.tree_valK rfl (fun K hK=>⟨fun w hw hG => ?_,?_⟩);(have hcl:=Flow.bcell hw;clear hG hw;unfold Flow.Runs Flow.yields;go_simp;try rfl);go_simp;refine hK _ ?_;clear hK K)
    refine Flow.tree_nil fun w2 hw2 hG => ?_
    clear hG
    have HB2:=Lib.hid (Bt HBr.out hw2)
    clear hw2
    have hnq:=HNQ.out
    by_cases he:u1=u2
    ·rw [decide_eq_true he] at hnq
     have HEQ:=Lib.hid (HEQ0.out he)
     clear he HNQ
     go_wp2
     go_roundw
     case rel=>exact ⟨k + 1,by omega,by go_num,HEQ.out,HB2.out⟩
     case measure=>simp [intOf];omega
    ·rw [decide_eq_false he] at hnq
     have HNE:=Lib.hid (HNE0.out he)
     clear he HNQ
     go_wp2
     go_ret
     exact ⟨retB (decide_eq_false HNE.out).symm,HB2.out⟩
   ·have hki:¬ (k:Int) < (l1.length:Int):=by omega
    have HEL:=Lib.hid (show l1=l2 from List.ext_getElem HL.out fun j h1 h2=>HALL.out j h1 h2 (by omega))
    go_wp2
    go_ret
    exact ⟨retB (decide_eq_true HEL.out).symm,HBr.out⟩
 ·have hl':((l1.length:Int) != (l2.length:Int))=true:=by rw [bne_iff_ne];omega
  have HN:=Lib.hid (show l1≠l2 from fun e=>hl (by rw [e]))
  clear hl
  go_enter Tryz.func71,Tryz.ntmps71
  go_wp2
  go_ret
  exact ⟨retB (decide_eq_false HN.out).symm,Below.refl _ _⟩
set_option maxRecDepth 100000 in
set_option maxHeartbeats 2000000 in
theorem rsame_any (p q:Nat→Prop) (va vb:Value) (l1 l2:List Int) (w:World) (ha:RowsW 1 intF p w va l1) (hb:RowsW 1 intF q w vb l2) :
  Calls Tryz.prog 72 #[va,vb] w fun e w'=>e = .returned (.bool (decide (l1=l2)))∧Below w.heap.size w w':=by
 obtain ⟨xa,ca,rfl,hm1,hc1⟩:=ha
 obtain ⟨xb,cb,rfl,hm2,hc2⟩:=hb
 have hlm1:l1.length≤9223372036854775807:=by unfold maxLen at hm1;omega
 have hlm2:l2.length≤9223372036854775807:=by unfold maxLen at hm2;omega
 have HC1:=Lib.hid hc1
 have HC2:=Lib.hid hc2
 clear hc1 hc2 hm1 hm2
 by_cases hl:l1.length=l2.length
 ·have hl':((l1.length:Int) != (l2.length:Int))=false:=by rw [bne_eq_false_iff_eq];omega
  have HL:=Lib.hid hl
  clear hl
  go_enter Tryz.func72,Tryz.ntmps72
  go_wp2
  go_loopw [5] (fun i wr => ∃ k:Nat,k≤l1.length∧i = .int .i64 k∧(∀ j (h1:j < l1.length) (h2:j < l2.length),j < k→l1[j]=l2[j])∧Below w.heap.size w wr) (fun i _=>l1.length - (intOf i).toNat)
  case atStart=>exact ⟨0,Nat.zero_le _,rfl,fun j _ _ h=>absurd h (Nat.not_lt_zero _),Below.refl _ _⟩
  case round=>
   obtain ⟨k,hk,rfl,hall,hBr⟩:=hrel
   have HALL:=Lib.hid hall
   have HBr:=Lib.hid hBr
   clear hall hBr
   by_cases hlt:k < l1.length
   ·have hlt2:k < l2.length:=by have:=HL.out;omega
    obtain ⟨b,off,rfl,hb,_,g1⟩:=HC1.out (by omega)
    obtain ⟨b',off',rfl,hb',_,g2⟩:=HC2.out (by omega)
    have hki:(k:Int) < (l1.length:Int):=by omega
    have hki2:(k:Int) < (l2.length:Int):=by omega
    have hbw:b < wr.heap.size:=Nat.lt_of_lt_of_le hb HBr.out.size
    have hbw':b' < wr.heap.size:=Nat.lt_of_lt_of_le hb' HBr.out.size
    have G1:=g1 k hlt
    have G2:=g2 k hlt2
    have HEQ0:=Lib.hid (show ∀ h:l1[k]=l2[k],∀ j (h1:j < l1.length) (h2:j < l2.length),j < k + 1→l1[j]=l2[j] from fun h j h1 h2 hj=>by
     by_cases hjk:j < k
     ·exact HALL.out j h1 h2 hjk
     ·obtain rfl:j=k:=by omega
      exact h)
    have HNE0:=Lib.hid (show l1[k]≠l2[k]→l1≠l2 from fun h e=>h (by subst e;rfl))
    clear g1 g2
    generalize l1[k]=u1 at *
    generalize l2[k]=u2 at *
    have r0:wr.cell? ⟨b,off + k,none⟩=some (.int .i64 u1):=by simpa [intF] using (HBr.out.cell (p:=⟨b,off + k * 1 + 0,none⟩) hb).trans (G1 0 (by omega))
    have t0:wr.cell? ⟨b',off' + k,none⟩=some (.int .i64 u2):=by simpa [intF] using (HBr.out.cell (p:=⟨b',off' + k * 1 + 0,none⟩) hb').trans (G2 0 (by omega))
    clear G1 G2
    have HNQ:=Lib.hid (show (u1 != u2)=(!decide (u1=u2)) by by_cases h:u1=u2 <;> simp [bne,h])
    go_wp2_with (fail)
    refine Flow.wp_region_flow_tail 8 (Flow.specs [.inl ?_,.inl ?_,.inl ?_,.inl ?_,.inl ?_,.inl ?_,.inl ?_,.inl ?_]) (by kernel_rfl) (by kernel_rfl) ?_ ?_
    rotate_left 8
    ·refine Flow.specs_mono ?_
     repeat (first | exact Flow.lmono_nil | refine Flow.lmono_inl ?_)
    all_goals try simp only [List.take_succ_cons,List.take_zero,List.drop_succ_cons,List.drop_zero]
    iterate 8 (refine Flow.tree_valK rfl (fun K hK=>⟨fun w hw hG => ?_,?_⟩);(have hcl:=Flow.bcell hw;clear hG hw;unfold Flow.Runs Flow.yields;go_simp;try rfl);go_simp;refine hK _ ?_;clear hK K)
    refine Flow.tree_nil fun w2 hw2 hG => ?_
    clear hG
    have HB2:=Lib.hid (Bt HBr.out hw2)
    clear hw2
    have hnq:=HNQ.out
    by_cases he:u1=u2
    ·rw [decide_eq_true he] at hnq
     have HEQ:=Lib.hid (HEQ0.out he)
     clear he HNQ
     go_wp2
     go_roundw
     case rel=>exact ⟨k + 1,by omega,by go_num,HEQ.out,HB2.out⟩
     case measure=>simp [intOf];omega
    ·rw [decide_eq_false he] at hnq
     have HNE:=Lib.hid (HNE0.out he)
     clear he HNQ
     go_wp2
     go_ret
     exact ⟨retB (decide_eq_false HNE.out).symm,HB2.out⟩
   ·have hki:¬ (k:Int) < (l1.length:Int):=by omega
    have HEL:=Lib.hid (show l1=l2 from List.ext_getElem HL.out fun j h1 h2=>HALL.out j h1 h2 (by omega))
    go_wp2
    go_ret
    exact ⟨retB (decide_eq_true HEL.out).symm,HBr.out⟩
 ·have hl':((l1.length:Int) != (l2.length:Int))=true:=by rw [bne_iff_ne];omega
  have HN:=Lib.hid (show l1≠l2 from fun e=>hl (by rw [e]))
  clear hl
  go_enter Tryz.func72,Tryz.ntmps72
  go_wp2
  go_ret
  exact ⟨retB (decide_eq_false HN.out).symm,Below.refl _ _⟩
end Go.Proofs.YtaddkkkchkdgkaaGreatDoor
namespace Go.Proofs.YtaddkkkchkdgkaaGreatDoor
open Go.RowKit Go.Sort
open Tess (CK Pay)
set_option maxRecDepth 100000 in
set_option maxHeartbeats 4000000 in
theorem rsameG_eq (p q:Nat→Prop) (cs ds:List Value) (x:Int×CK×Pay) (w:World) (hx:GrpAt p w cs x) (hy:GrpAt q w ds x) :
  Calls Tryz.prog 36 #[.agg cs.toArray,.agg ds.toArray] w fun e w'=>e = .returned (.bool true)∧Below w.heap.size w w':=by
 obtain ⟨vd,vs,vm,vx,rfl,hd,hp⟩:=hx
 obtain ⟨ud,us,um,ux,rfl,he,hq⟩:=hy
 have HQ1:=Lib.hid (fun W (hB:Below w.heap.size w W)=>rvals_any p q vd ud _ _ W (hd.ag (Ag.new p hB)).w (he.ag (Ag.new q hB)).w)
 have HQ2:=Lib.hid (fun W (hB:Below w.heap.size w W)=>rwides_any p q vs us _ _ W (hp.sums.ag (Ag.new p hB)).w (hq.sums.ag (Ag.new q hB)).w)
 have HQ3:=Lib.hid (fun W (hB:Below w.heap.size w W)=>rsame_any p q vm um _ _ W (hp.mins.ag (Ag.new p hB)).w (hq.mins.ag (Ag.new q hB)).w)
 have HQ4:=Lib.hid (fun W (hB:Below w.heap.size w W)=>rsame_any p q vx ux _ _ W (hp.maxs.ag (Ag.new p hB)).w (hq.maxs.ag (Ag.new q hB)).w)
 simp only at HQ1 HQ2 HQ3 HQ4
 obtain ⟨a2,c2,rfl⟩:=hd.shape
 obtain ⟨a4,c4,rfl⟩:=hp.sums.shape
 obtain ⟨a5,c5,rfl⟩:=hp.mins.shape
 obtain ⟨a6,c6,rfl⟩:=hp.maxs.shape
 obtain ⟨b2,d2,rfl⟩:=he.shape
 obtain ⟨b4,d4,rfl⟩:=hq.sums.shape
 obtain ⟨b5,d5,rfl⟩:=hq.mins.shape
 obtain ⟨b6,d6,rfl⟩:=hq.maxs.shape
 clear hd hp he hq
 generalize (x.2.1.2.map Tess.valOf).length=n2 at *
 generalize x.2.2.sums.length=n4 at *
 generalize x.2.2.mins.length=n5 at *
 generalize x.2.2.maxs.length=n6 at *
 generalize x.1=s1 at *
 generalize x.2.1.1=t1 at *
 generalize x.2.2.n=z1 at *
 obtain ⟨W0,hW0⟩:∃ W0,(w.alloc (.cells #[.int .i64 s1,.int .i64 t1,.slice a2 n2 c2,.int .i64 z1,.slice a4 n4 c4,.slice a5 n5 c5,.slice a6 n6 c6] 56)).alloc (.cells #[.int .i64 s1,.int .i64 t1,.slice b2 n2 d2,.int .i64 z1,.slice b4 n4 d4,.slice b5 n5 d5,.slice b6 n6 d6] 56)=W0:=⟨_,rfl⟩
 obtain ⟨k0,k1,kS,kB⟩:=laid2 w (.cells #[.int .i64 s1,.int .i64 t1,.slice a2 n2 c2,.int .i64 z1,.slice a4 n4 c4,.slice a5 n5 c5,.slice a6 n6 c6] 56) (.cells #[.int .i64 s1,.int .i64 t1,.slice b2 n2 d2,.int .i64 z1,.slice b4 n4 d4,.slice b5 n5 d5,.slice b6 n6 d6] 56)
 rw [hW0] at k0 k1 kS kB
 obtain ⟨⟨x0,x1,x2,x3,x4,x5,x6⟩,_⟩:=can7 k0
 obtain ⟨⟨y0,y1,y2,y3,y4,y5,y6⟩,_⟩:=can7 k1
 have HK0:=Lib.hid k0
 have HK1:=Lib.hid k1
 have HB:=Lib.hid kB
 clear k0 k1 kS kB
 go_enter Tryz.func36,Tryz.ntmps36
 go_wp2_with (fail)
 go_at_call 47
 refine (HQ1.out _ HB.out).mono ?_
 rintro e w1 ⟨rfl,hb⟩
 have HB1:=Lib.hid (Bt HB.out hb)
 have h0:=(hb.block _ (Array.getElem?_eq_some_iff.1 HK0.out).1).trans HK0.out
 have h1:=(hb.block _ (Array.getElem?_eq_some_iff.1 HK1.out).1).trans HK1.out
 have HK0':=Lib.hid h0
 have HK1':=Lib.hid h1
 clear x0 x1 x2 x3 x4 x5 x6 y0 y1 y2 y3 y4 y5 y6
 obtain ⟨⟨x0,x1,x2,x3,x4,x5,x6⟩,_⟩:=can7 h0
 obtain ⟨⟨y0,y1,y2,y3,y4,y5,y6⟩,_⟩:=can7 h1
 clear hb h0 h1
 clear hW0
 go_wp2_with (fail)
 go_at_call 71
 refine (HQ2.out _ HB1.out).mono ?_
 rintro e w2 ⟨rfl,hb⟩
 have HB2:=Lib.hid (Bt HB1.out hb)
 have h0:=(hb.block _ (Array.getElem?_eq_some_iff.1 HK0'.out).1).trans HK0'.out
 have h1:=(hb.block _ (Array.getElem?_eq_some_iff.1 HK1'.out).1).trans HK1'.out
 have HK0'':=Lib.hid h0
 have HK1'':=Lib.hid h1
 clear x0 x1 x2 x3 x4 x5 x6 y0 y1 y2 y3 y4 y5 y6
 obtain ⟨⟨x0,x1,x2,x3,x4,x5,x6⟩,_⟩:=can7 h0
 obtain ⟨⟨y0,y1,y2,y3,y4,y5,y6⟩,_⟩:=can7 h1
 clear hb h0 h1
 go_wp2_with (fail)
 go_at_call 72
 refine (HQ3.out _ HB2.out).mono ?_
 rintro e w3 ⟨rfl,hb⟩
 have HB3:=Lib.hid (Bt HB2.out hb)
 have h0:=(hb.block _ (Array.getElem?_eq_some_iff.1 HK0''.out).1).trans HK0''.out
 have h1:=(hb.block _ (Array.getElem?_eq_some_iff.1 HK1''.out).1).trans HK1''.out
 have HK0''':=Lib.hid h0
 have HK1''':=Lib.hid h1
 clear x0 x1 x2 x3 x4 x5 x6 y0 y1 y2 y3 y4 y5 y6
 obtain ⟨⟨x0,x1,x2,x3,x4,x5,x6⟩,_⟩:=can7 h0
 obtain ⟨⟨y0,y1,y2,y3,y4,y5,y6⟩,_⟩:=can7 h1
 clear hb h0 h1
 go_wp2_with (fail)
 go_at_call 72
 refine (HQ4.out _ HB3.out).mono ?_
 rintro e w4 ⟨rfl,hb⟩
 have HB4:=Lib.hid (Bt HB3.out hb)
 have h0:=(hb.block _ (Array.getElem?_eq_some_iff.1 HK0'''.out).1).trans HK0'''.out
 have h1:=(hb.block _ (Array.getElem?_eq_some_iff.1 HK1'''.out).1).trans HK1'''.out
 have HK0'''':=Lib.hid h0
 have HK1'''':=Lib.hid h1
 clear x0 x1 x2 x3 x4 x5 x6 y0 y1 y2 y3 y4 y5 y6
 obtain ⟨⟨x0,x1,x2,x3,x4,x5,x6⟩,_⟩:=can7 h0
 obtain ⟨⟨y0,y1,y2,y3,y4,y5,y6⟩,_⟩:=can7 h1
 clear hb h0 h1
 go_wp2_with (fail)
 go_ret
 exact ⟨rfl,HB4.out⟩
end Go.Proofs.YtaddkkkchkdgkaaGreatDoor
namespace Go.Proofs.YtaddkkkchkdgkaaGreatDoor
open Go.RowKit Go.Sort
open Tess (CK Pay)
theorem GrpAt.shapes {p:Nat→Prop} {w:World} {cs:List Value} {x:Int×CK×Pay} (h:GrpAt p w cs x):∃ ad nd cd a3 n3 c3 a4 n4 c4 a5 n5 c5,cs=[.int .i64 x.1,.int .i64 x.2.1.1,.slice ad nd cd,.int .i64 x.2.2.n,.slice a3 n3 c3,.slice a4 n4 c4,.slice a5 n5 c5]:=by
 obtain ⟨vd,vs,vm,vx,rfl,h1,h2⟩:=h
 obtain ⟨ad,cd,rfl⟩:=h1.shape
 obtain ⟨a3,c3,rfl⟩:=h2.sums.shape
 obtain ⟨a4,c4,rfl⟩:=h2.mins.shape
 obtain ⟨a5,c5,rfl⟩:=h2.maxs.shape
 exact ⟨_,_,_,_,_,_,_,_,_,_,_,_,rfl⟩
set_option maxRecDepth 100000 in
set_option maxHeartbeats 4000000 in
theorem rgroups_eq (p q:Nat→Prop) (va vb:Value) (l:List (Int×CK×Pay)) (w:World) (ha:GrpsAt p w va l) (hb:GrpsAt q w vb l) :
  Calls Tryz.prog 16 #[va,vb] w fun e w'=>e = .returned (.bool true)∧Below w.heap.size w w':=by
 obtain ⟨a,ca,rfl,_,hl,_,hc1⟩:=ListAt.open ha
 obtain ⟨b,cb,rfl,_,_,_,hc2⟩:=ListAt.open hb
 have hl:l.length≤9223372036854775807:=by unfold maxLen at hl;omega
 have HC1:=Lib.hid hc1
 have HC2:=Lib.hid hc2
 clear hc1 hc2 ha hb
 go_enter Tryz.func16,Tryz.ntmps16
 go_wp2
 go_loopw [5] (fun i wr => ∃ k:Nat,k≤l.length∧i = .int .i64 k∧Below w.heap.size w wr) (fun i _=>l.length - (intOf i).toNat)
 case atStart=>exact ⟨0,Nat.zero_le _,rfl,Below.refl _ _⟩
 case round=>
  obtain ⟨k,hk,rfl,hB⟩:=hrel
  have HB:=Lib.hid hB
  by_cases hlt:k < l.length
  ·have hki:(k:Int) < (l.length:Int):=by omega
   obtain ⟨b1,off1,rfl,hb1,_,cs,_,hR1,hcell1⟩:=HC1.out k hlt
   obtain ⟨b2,off2,rfl,hb2,_,ds,_,hR2,hcell2⟩:=HC2.out k hlt
   have HS:=Lib.hid (fun W (hW:Below wr.heap.size wr W)=>rsameG_eq p q cs ds l[k] W (hR1.ag (Ag.new _ (Bt hB hW))) (hR2.ag (Ag.new _ (Bt hB hW))))
   obtain ⟨_,_,_,_,_,_,_,_,_,_,_,_,rfl⟩:=hR1.shapes
   obtain ⟨_,_,_,_,_,_,_,_,_,_,_,_,rfl⟩:=hR2.shapes
   have kc1:=fun o (ho:o < 7)=>(hB.cell (p:=⟨b1,off1 + k * 7 + o,none⟩) hb1).trans (hcell1 o ho)
   have kc2:=fun o (ho:o < 7)=>(hB.cell (p:=⟨b2,off2 + k * 7 + o,none⟩) hb2).trans (hcell2 o ho)
   have e0:=kc1 0 (by omega)
   have e1:=kc1 1 (by omega)
   have e2:=kc1 2 (by omega)
   have e3:=kc1 3 (by omega)
   have e4:=kc1 4 (by omega)
   have e5:=kc1 5 (by omega)
   have e6:=kc1 6 (by omega)
   have g0:=kc2 0 (by omega)
   have g1:=kc2 1 (by omega)
   have g2:=kc2 2 (by omega)
   have g3:=kc2 3 (by omega)
   have g4:=kc2 4 (by omega)
   have g5:=kc2 5 (by omega)
   have g6:=kc2 6 (by omega)
   simp only [Nat.add_zero,List.getElem?_cons_zero,List.getElem?_cons_succ] at e0 e1 e2 e3 e4 e5 e6 g0 g1 g2 g3 g4 g5 g6
   have hw1:b1 < wr.heap.size:=Nat.lt_of_lt_of_le hb1 hB.size
   have hw2:b2 < wr.heap.size:=Nat.lt_of_lt_of_le hb2 hB.size
   clear kc1 kc2 hcell1 hcell2 hR1 hR2 hB
   generalize l[k]=x at *
   go_wp2_with (fail)
   refine Flow.wp_region_flow_tail 8 (Flow.specs [.inl ?_,.inl ?_,.inl ?_,.inl ?_,.inl ?_,.inl ?_,.inl ?_,.inl ?_]) (by kernel_rfl) (by kernel_rfl) ?_ ?_
   rotate_left 8
   ·refine Flow.specs_mono ?_
    repeat (first | exact Flow.lmono_nil | refine Flow.lmono_inl ?_)
   all_goals try simp only [List.take_succ_cons,List.take_zero,List.drop_succ_cons,List.drop_zero]
   iterate 8 (refine Flow.tree_valK rfl (fun K hK=>⟨fun w hw hG => ?_,?_⟩);(have hcl:=Flow.bcell hw;clear hG hw;unfold Flow.Runs Flow.yields;go_simp;try rfl);go_simp;refine hK _ ?_;clear hK K)
   refine Flow.tree_nil fun w1 hw1 hG => ?_
   clear hG
   have HB1:=Lib.hid (Bt HB.out hw1)
   have HS1:=Lib.hid (HS.out w1 hw1)
   clear hw1
   go_wp2_with (fail)
   go_at_call 36
   refine HS1.out.mono ?_
   rintro e w2 ⟨rfl,hb2⟩
   have HB2:=Lib.hid (Bt HB1.out hb2)
   clear hb2 e0 e1 e2 e3 e4 e5 e6 g0 g1 g2 g3 g4 g5 g6
   go_wp2
   go_roundw
   case rel=>exact ⟨k + 1,by omega,by go_num,HB2.out⟩
   case measure=>simp [intOf];omega
  ·have hki:¬ (k:Int) < (l.length:Int):=by omega
   go_wp2
   go_ret
   exact ⟨rfl,HB.out⟩
end Go.Proofs.YtaddkkkchkdgkaaGreatDoor
