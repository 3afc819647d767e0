/- slices.Equal over aggs, conditions, keys; EqualFunc over lists of names: walked. Written by genQ49.py. -/
import Derived.Test.YtbbgjjjeecfnoaaGreatDoorXQ48
import Derived.Test.YtbbgjjjeecfnoaaGreatDoorXFl
import Derived.Laws.StructEq
namespace Go.Proofs.YtbbgjjjeecfnoaaGreatDoor
open Go.RowKit Go.Sort
open Tess (Fil Que)
deriving instance DecidableEq for Tess.Agg,Tess.Cond,Tess.Key
theorem neq_agg (x0:Int) (x1:ByteArray) (y0:Int) (y1:ByteArray) (W:World):(binOp .neq 83 (.agg #[(.int .i64 x0),(.string x1)]) (.agg #[(.int .i64 y0),(.string y1)])).run Tryz.prog W = .ok (.bool (!decide ((⟨x0,x1⟩:Tess.Agg)=⟨y0,y1⟩))) W:=by
 rw [run_neq_struct,run_equalIn_agg (d:=9999) _ _ _ _ (by kernel_rfl) (by kernel_rfl)]
 simp [Program.fieldsOf,Op.eqFields,go_sem,Tryz.underlying83,Tryz.underlying3,Tryz.underlying9]
 have e:(x1.toList=y1.toList)=(x1=y1):=propext ⟨str_inj,fun h=>by rw [h]⟩
 simp only [e]
 by_cases h0:x0=y0 <;> by_cases h1:x1=y1 <;> simp [h0,h1]
set_option maxRecDepth 100000 in
set_option maxHeartbeats 4000000 in
theorem equal_agg (p q:Nat→Prop) (va vb:Value) (l1 l2:List Tess.Agg) (w:World) (ha:RowsAt 2 aggF p w va l1) (hb:RowsAt 2 aggF q w vb l2) :
  Calls Tryz.prog 61 #[va,vb] w fun e w'=>e = .returned (.bool (decide (l1=l2)))∧Below w.heap.size w w':=by
 obtain ⟨xa,ca,rfl,hm1,_,_,hc1⟩:=ha
 obtain ⟨xb,cb,rfl,hm2,_,_,hc2⟩:=hb
 have hlm1:l1.length≤9223372036854775807:=by unfold maxLen at hm1;omega
 have hlm2:l2.length≤9223372036854775807:=by unfold maxLen at hm2;omega
 have HC1:=Lib.hid hc1
 have HC2:=Lib.hid hc2
 clear hc1 hc2 hm1 hm2
 by_cases hl:l1.length=l2.length
 ·have hl':((l1.length:Int) != (l2.length:Int))=false:=by rw [bne_eq_false_iff_eq];omega
  have HL:=Lib.hid hl
  clear hl
  go_enter Tryz.func61,Tryz.ntmps61
  go_wp2
  go_loopw [13] (fun i wr => ∃ k:Nat,k≤l1.length∧i = .int .i64 k∧(∀ j (h1:j < l1.length) (h2:j < l2.length),j < k→l1[j]=l2[j])∧Below w.heap.size w wr) (fun i _=>l1.length - (intOf i).toNat)
  case atStart=>exact ⟨0,Nat.zero_le _,rfl,fun j _ _ h=>absurd h (Nat.not_lt_zero _),Below.refl _ _⟩
  case round=>
   obtain ⟨k,hk,rfl,hall,hBr⟩:=hrel
   have HALL:=Lib.hid hall
   have HBr:=Lib.hid hBr
   clear hall hBr
   by_cases hlt:k < l1.length
   ·have hlt2:k < l2.length:=by have:=HL.out;omega
    obtain ⟨b,off,rfl,hb,_,g1⟩:=HC1.out (by omega)
    obtain ⟨b',off',rfl,hb',_,g2⟩:=HC2.out (by omega)
    have hki:(k:Int) < (l1.length:Int):=by omega
    have hki2:(k:Int) < (l2.length:Int):=by omega
    have hbw:b < wr.heap.size:=Nat.lt_of_lt_of_le hb HBr.out.size
    have hbw':b' < wr.heap.size:=Nat.lt_of_lt_of_le hb' HBr.out.size
    have G1:=g1 k hlt
    have G2:=g2 k hlt2
    have HEQ0:=Lib.hid (show ∀ h:l1[k]=l2[k],∀ j (h1:j < l1.length) (h2:j < l2.length),j < k + 1→l1[j]=l2[j] from fun h j h1 h2 hj=>by
     by_cases hjk:j < k
     ·exact HALL.out j h1 h2 hjk
     ·obtain rfl:j=k:=by omega
      exact h)
    have HNE0:=Lib.hid (show l1[k]≠l2[k]→l1≠l2 from fun h e=>h (by subst e;rfl))
    clear g1 g2
    generalize l1[k]=u1 at *
    generalize l2[k]=u2 at *
    obtain ⟨x0,x1⟩:=u1
    obtain ⟨y0,y1⟩:=u2
    have r0:wr.cell? ⟨b,off + k * 2,none⟩=some (.int .i64 x0):=(HBr.out.cell (p:=⟨b,off + k * 2,none⟩) hb).trans (G1 0 (by omega))
    have t0:wr.cell? ⟨b',off' + k * 2,none⟩=some (.int .i64 y0):=(HBr.out.cell (p:=⟨b',off' + k * 2,none⟩) hb').trans (G2 0 (by omega))
    have r1:wr.cell? ⟨b,off + k * 2 + 1,none⟩=some (.string x1):=(HBr.out.cell (p:=⟨b,off + k * 2 + 1,none⟩) hb).trans (G1 1 (by omega))
    have t1:wr.cell? ⟨b',off' + k * 2 + 1,none⟩=some (.string y1):=(HBr.out.cell (p:=⟨b',off' + k * 2 + 1,none⟩) hb').trans (G2 1 (by omega))
    clear G1 G2
    have HNQ:=Lib.hid (fun W=>neq_agg x0 x1 y0 y1 W)
    go_wp2_with (fail)
    refine Flow.wp_region_flow_tail 8 (Flow.specs [.inl ?_,.inl ?_,.inl ?_,.inl ?_,.inl ?_,.inl ?_,.inl ?_,.inl ?_]) (by kernel_rfl) (by kernel_rfl) ?_ ?_
    rotate_left 8
    ·refine Flow.specs_mono ?_
     repeat (first | exact Flow.lmono_nil | refine Flow.lmono_inl ?_)
    all_goals try simp only [List.take_succ_cons,List.take_zero,List.drop_succ_cons,List.drop_zero]
    iterate 8 (refine Flow.tree_valK rfl (fun K hK=>⟨fun w hw hG => ?_,?_⟩);(have hcl:=Flow.bcell hw;clear hG hw;unfold Flow.Runs Flow.yields;go_simp;try rfl);go_simp;refine hK _ ?_;clear hK K)
    refine Flow.tree_nil fun w2 hw2 hG => ?_
    clear hG
    have HB2:=Lib.hid (Bt HBr.out hw2)
    clear hw2
    have hnq:=HNQ.out
    by_cases he:(⟨x0,x1⟩:Tess.Agg)=⟨y0,y1⟩
    ·rw [decide_eq_true he] at hnq
     have HEQ:=Lib.hid (HEQ0.out he)
     clear he HNQ
     go_wp2
     go_roundw
     case rel=>exact ⟨k + 1,by omega,by go_num,HEQ.out,HB2.out⟩
     case measure=>simp [intOf];omega
    ·rw [decide_eq_false he] at hnq
     have HNE:=Lib.hid (HNE0.out he)
     clear he HNQ
     go_wp2
     go_ret
     exact ⟨ret_bool' (decide_eq_false HNE.out).symm,HB2.out⟩
   ·have hki:¬ (k:Int) < (l1.length:Int):=by omega
    have HEL:=Lib.hid (show l1=l2 from List.ext_getElem HL.out fun j h1 h2=>HALL.out j h1 h2 (by omega))
    go_wp2
    go_ret
    exact ⟨ret_bool' (decide_eq_true HEL.out).symm,HBr.out⟩
 ·have hl':((l1.length:Int) != (l2.length:Int))=true:=by rw [bne_iff_ne];omega
  have HN:=Lib.hid (show l1≠l2 from fun e=>hl (by rw [e]))
  clear hl
  go_enter Tryz.func61,Tryz.ntmps61
  go_wp2
  go_ret
  exact ⟨ret_bool' (decide_eq_false HN.out).symm,Below.refl _ _⟩
theorem neq_cnd (x0:Int) (x1:Int) (x2:Int) (y0:Int) (y1:Int) (y2:Int) (W:World):(binOp .neq 147 (.agg #[(.int .i64 x0),(.int .i64 x1),(.int .i64 x2)]) (.agg #[(.int .i64 y0),(.int .i64 y1),(.int .i64 y2)])).run Tryz.prog W = .ok (.bool (!decide ((⟨x0,x1,x2⟩:Tess.Cond)=⟨y0,y1,y2⟩))) W:=by
 rw [run_neq_struct,run_equalIn_agg (d:=9999) _ _ _ _ (by kernel_rfl) (by kernel_rfl)]
 simp [Program.fieldsOf,Op.eqFields,go_sem,Tryz.underlying147,Tryz.underlying3,Tryz.underlying2]
 by_cases h0:x0=y0 <;> by_cases h1:x1=y1 <;> by_cases h2:x2=y2 <;> simp [h0,h1,h2]
set_option maxRecDepth 100000 in
set_option maxHeartbeats 4000000 in
theorem equal_cnd (p q:Nat→Prop) (va vb:Value) (l1 l2:List Tess.Cond) (w:World) (ha:RowsAt 3 condF p w va l1) (hb:RowsAt 3 condF q w vb l2) :
  Calls Tryz.prog 65 #[va,vb] w fun e w'=>e = .returned (.bool (decide (l1=l2)))∧Below w.heap.size w w':=by
 obtain ⟨xa,ca,rfl,hm1,_,_,hc1⟩:=ha
 obtain ⟨xb,cb,rfl,hm2,_,_,hc2⟩:=hb
 have hlm1:l1.length≤9223372036854775807:=by unfold maxLen at hm1;omega
 have hlm2:l2.length≤9223372036854775807:=by unfold maxLen at hm2;omega
 have HC1:=Lib.hid hc1
 have HC2:=Lib.hid hc2
 clear hc1 hc2 hm1 hm2
 by_cases hl:l1.length=l2.length
 ·have hl':((l1.length:Int) != (l2.length:Int))=false:=by rw [bne_eq_false_iff_eq];omega
  have HL:=Lib.hid hl
  clear hl
  go_enter Tryz.func65,Tryz.ntmps65
  go_wp2
  go_loopw [13] (fun i wr => ∃ k:Nat,k≤l1.length∧i = .int .i64 k∧(∀ j (h1:j < l1.length) (h2:j < l2.length),j < k→l1[j]=l2[j])∧Below w.heap.size w wr) (fun i _=>l1.length - (intOf i).toNat)
  case atStart=>exact ⟨0,Nat.zero_le _,rfl,fun j _ _ h=>absurd h (Nat.not_lt_zero _),Below.refl _ _⟩
  case round=>
   obtain ⟨k,hk,rfl,hall,hBr⟩:=hrel
   have HALL:=Lib.hid hall
   have HBr:=Lib.hid hBr
   clear hall hBr
   by_cases hlt:k < l1.length
   ·have hlt2:k < l2.length:=by have:=HL.out;omega
    obtain ⟨b,off,rfl,hb,_,g1⟩:=HC1.out (by omega)
    obtain ⟨b',off',rfl,hb',_,g2⟩:=HC2.out (by omega)
    have hki:(k:Int) < (l1.length:Int):=by omega
    have hki2:(k:Int) < (l2.length:Int):=by omega
    have hbw:b < wr.heap.size:=Nat.lt_of_lt_of_le hb HBr.out.size
    have hbw':b' < wr.heap.size:=Nat.lt_of_lt_of_le hb' HBr.out.size
    have G1:=g1 k hlt
    have G2:=g2 k hlt2
    have HEQ0:=Lib.hid (show ∀ h:l1[k]=l2[k],∀ j (h1:j < l1.length) (h2:j < l2.length),j < k + 1→l1[j]=l2[j] from fun h j h1 h2 hj=>by
     by_cases hjk:j < k
     ·exact HALL.out j h1 h2 hjk
     ·obtain rfl:j=k:=by omega
      exact h)
    have HNE0:=Lib.hid (show l1[k]≠l2[k]→l1≠l2 from fun h e=>h (by subst e;rfl))
    clear g1 g2
    generalize l1[k]=u1 at *
    generalize l2[k]=u2 at *
    obtain ⟨x0,x1,x2⟩:=u1
    obtain ⟨y0,y1,y2⟩:=u2
    have r0:wr.cell? ⟨b,off + k * 3,none⟩=some (.int .i64 x0):=(HBr.out.cell (p:=⟨b,off + k * 3,none⟩) hb).trans (G1 0 (by omega))
    have t0:wr.cell? ⟨b',off' + k * 3,none⟩=some (.int .i64 y0):=(HBr.out.cell (p:=⟨b',off' + k * 3,none⟩) hb').trans (G2 0 (by omega))
    have r1:wr.cell? ⟨b,off + k * 3 + 1,none⟩=some (.int .i64 x1):=(HBr.out.cell (p:=⟨b,off + k * 3 + 1,none⟩) hb).trans (G1 1 (by omega))
    have t1:wr.cell? ⟨b',off' + k * 3 + 1,none⟩=some (.int .i64 y1):=(HBr.out.cell (p:=⟨b',off' + k * 3 + 1,none⟩) hb').trans (G2 1 (by omega))
    have r2:wr.cell? ⟨b,off + k * 3 + 2,none⟩=some (.int .i64 x2):=(HBr.out.cell (p:=⟨b,off + k * 3 + 2,none⟩) hb).trans (G1 2 (by omega))
    have t2:wr.cell? ⟨b',off' + k * 3 + 2,none⟩=some (.int .i64 y2):=(HBr.out.cell (p:=⟨b',off' + k * 3 + 2,none⟩) hb').trans (G2 2 (by omega))
    clear G1 G2
    have HNQ:=Lib.hid (fun W=>neq_cnd x0 x1 x2 y0 y1 y2 W)
    go_wp2_with (fail)
    refine Flow.wp_region_flow_tail 8 (Flow.specs [.inl ?_,.inl ?_,.inl ?_,.inl ?_,.inl ?_,.inl ?_,.inl ?_,.inl ?_]) (by kernel_rfl) (by kernel_rfl) ?_ ?_
    rotate_left 8
    ·refine Flow.specs_mono ?_
     repeat (first | exact Flow.lmono_nil | refine Flow.lmono_inl ?_)
    all_goals try simp only [List.take_succ_cons,List.take_zero,List.drop_succ_cons,List.drop_zero]
    iterate 8 (refine Flow.tree_valK rfl (fun K hK=>⟨fun w hw hG => ?_,?_⟩);(have hcl:=Flow.bcell hw;clear hG hw;unfold Flow.Runs Flow.yields;go_simp;try rfl);go_simp;refine hK _ ?_;clear hK K)
    refine Flow.tree_nil fun w2 hw2 hG => ?_
    clear hG
    have HB2:=Lib.hid (Bt HBr.out hw2)
    clear hw2
    have hnq:=HNQ.out
    by_cases he:(⟨x0,x1,x2⟩:Tess.Cond)=⟨y0,y1,y2⟩
    ·rw [decide_eq_true he] at hnq
     have HEQ:=Lib.hid (HEQ0.out he)
     clear he HNQ
     go_wp2
     go_roundw
     case rel=>exact ⟨k + 1,by omega,by go_num,HEQ.out,HB2.out⟩
     case measure=>simp [intOf];omega
    ·rw [decide_eq_false he] at hnq
     have HNE:=Lib.hid (HNE0.out he)
     clear he HNQ
     go_wp2
     go_ret
     exact ⟨ret_bool' (decide_eq_false HNE.out).symm,HB2.out⟩
   ·have hki:¬ (k:Int) < (l1.length:Int):=by omega
    have HEL:=Lib.hid (show l1=l2 from List.ext_getElem HL.out fun j h1 h2=>HALL.out j h1 h2 (by omega))
    go_wp2
    go_ret
    exact ⟨ret_bool' (decide_eq_true HEL.out).symm,HBr.out⟩
 ·have hl':((l1.length:Int) != (l2.length:Int))=true:=by rw [bne_iff_ne];omega
  have HN:=Lib.hid (show l1≠l2 from fun e=>hl (by rw [e]))
  clear hl
  go_enter Tryz.func65,Tryz.ntmps65
  go_wp2
  go_ret
  exact ⟨ret_bool' (decide_eq_false HN.out).symm,Below.refl _ _⟩
theorem neq_key (x0:Bool) (x1:Int) (x2:Bool) (y0:Bool) (y1:Int) (y2:Bool) (W:World):(binOp .neq 150 (.agg #[(.bool x0),(.int .i64 x1),(.bool x2)]) (.agg #[(.bool y0),(.int .i64 y1),(.bool y2)])).run Tryz.prog W = .ok (.bool (!decide ((⟨x0,x1,x2⟩:Tess.Key)=⟨y0,y1,y2⟩))) W:=by
 rw [run_neq_struct,run_equalIn_agg (d:=9999) _ _ _ _ (by kernel_rfl) (by kernel_rfl)]
 simp [Program.fieldsOf,Op.eqFields,go_sem,Tryz.underlying150,Tryz.underlying3,Tryz.underlying4]
 by_cases h0:x0=y0 <;> by_cases h1:x1=y1 <;> by_cases h2:x2=y2 <;> simp [h0,h1,h2]
set_option maxRecDepth 100000 in
set_option maxHeartbeats 4000000 in
theorem equal_key (p q:Nat→Prop) (va vb:Value) (l1 l2:List Tess.Key) (w:World) (ha:RowsAt 3 keyF p w va l1) (hb:RowsAt 3 keyF q w vb l2) :
  Calls Tryz.prog 66 #[va,vb] w fun e w'=>e = .returned (.bool (decide (l1=l2)))∧Below w.heap.size w w':=by
 obtain ⟨xa,ca,rfl,hm1,_,_,hc1⟩:=ha
 obtain ⟨xb,cb,rfl,hm2,_,_,hc2⟩:=hb
 have hlm1:l1.length≤9223372036854775807:=by unfold maxLen at hm1;omega
 have hlm2:l2.length≤9223372036854775807:=by unfold maxLen at hm2;omega
 have HC1:=Lib.hid hc1
 have HC2:=Lib.hid hc2
 clear hc1 hc2 hm1 hm2
 by_cases hl:l1.length=l2.length
 ·have hl':((l1.length:Int) != (l2.length:Int))=false:=by rw [bne_eq_false_iff_eq];omega
  have HL:=Lib.hid hl
  clear hl
  go_enter Tryz.func66,Tryz.ntmps66
  go_wp2
  go_loopw [13] (fun i wr => ∃ k:Nat,k≤l1.length∧i = .int .i64 k∧(∀ j (h1:j < l1.length) (h2:j < l2.length),j < k→l1[j]=l2[j])∧Below w.heap.size w wr) (fun i _=>l1.length - (intOf i).toNat)
  case atStart=>exact ⟨0,Nat.zero_le _,rfl,fun j _ _ h=>absurd h (Nat.not_lt_zero _),Below.refl _ _⟩
  case round=>
   obtain ⟨k,hk,rfl,hall,hBr⟩:=hrel
   have HALL:=Lib.hid hall
   have HBr:=Lib.hid hBr
   clear hall hBr
   by_cases hlt:k < l1.length
   ·have hlt2:k < l2.length:=by have:=HL.out;omega
    obtain ⟨b,off,rfl,hb,_,g1⟩:=HC1.out (by omega)
    obtain ⟨b',off',rfl,hb',_,g2⟩:=HC2.out (by omega)
    have hki:(k:Int) < (l1.length:Int):=by omega
    have hki2:(k:Int) < (l2.length:Int):=by omega
    have hbw:b < wr.heap.size:=Nat.lt_of_lt_of_le hb HBr.out.size
    have hbw':b' < wr.heap.size:=Nat.lt_of_lt_of_le hb' HBr.out.size
    have G1:=g1 k hlt
    have G2:=g2 k hlt2
    have HEQ0:=Lib.hid (show ∀ h:l1[k]=l2[k],∀ j (h1:j < l1.length) (h2:j < l2.length),j < k + 1→l1[j]=l2[j] from fun h j h1 h2 hj=>by
     by_cases hjk:j < k
     ·exact HALL.out j h1 h2 hjk
     ·obtain rfl:j=k:=by omega
      exact h)
    have HNE0:=Lib.hid (show l1[k]≠l2[k]→l1≠l2 from fun h e=>h (by subst e;rfl))
    clear g1 g2
    generalize l1[k]=u1 at *
    generalize l2[k]=u2 at *
    obtain ⟨x0,x1,x2⟩:=u1
    obtain ⟨y0,y1,y2⟩:=u2
    have r0:wr.cell? ⟨b,off + k * 3,none⟩=some (.bool x0):=(HBr.out.cell (p:=⟨b,off + k * 3,none⟩) hb).trans (G1 0 (by omega))
    have t0:wr.cell? ⟨b',off' + k * 3,none⟩=some (.bool y0):=(HBr.out.cell (p:=⟨b',off' + k * 3,none⟩) hb').trans (G2 0 (by omega))
    have r1:wr.cell? ⟨b,off + k * 3 + 1,none⟩=some (.int .i64 x1):=(HBr.out.cell (p:=⟨b,off + k * 3 + 1,none⟩) hb).trans (G1 1 (by omega))
    have t1:wr.cell? ⟨b',off' + k * 3 + 1,none⟩=some (.int .i64 y1):=(HBr.out.cell (p:=⟨b',off' + k * 3 + 1,none⟩) hb').trans (G2 1 (by omega))
    have r2:wr.cell? ⟨b,off + k * 3 + 2,none⟩=some (.bool x2):=(HBr.out.cell (p:=⟨b,off + k * 3 + 2,none⟩) hb).trans (G1 2 (by omega))
    have t2:wr.cell? ⟨b',off' + k * 3 + 2,none⟩=some (.bool y2):=(HBr.out.cell (p:=⟨b',off' + k * 3 + 2,none⟩) hb').trans (G2 2 (by omega))
    clear G1 G2
    have HNQ:=Lib.hid (fun W=>neq_key x0 x1 x2 y0 y1 y2 W)
    go_wp2_with (fail)
    refine Flow.wp_region_flow_tail 8 (Flow.specs [.inl ?_,.inl ?_,.inl ?_,.inl ?_,.inl ?_,.inl ?_,.inl ?_,.inl ?_]) (by kernel_rfl) (by kernel_rfl) ?_ ?_
    rotate_left 8
    ·refine Flow.specs_mono ?_
     repeat (first | exact Flow.lmono_nil | refine Flow.lmono_inl ?_)
    all_goals try simp only [List.take_succ_cons,List.take_zero,List.drop_succ_cons,List.drop_zero]
    iterate 8 (refine Flow.tree_valK rfl (fun K hK=>⟨fun w hw hG => ?_,?_⟩);(have hcl:=Flow.bcell hw;clear hG hw;unfold Flow.Runs Flow.yields;go_simp;try rfl);go_simp;refine hK _ ?_;clear hK K)
    refine Flow.tree_nil fun w2 hw2 hG => ?_
    clear hG
    have HB2:=Lib.hid (Bt HBr.out hw2)
    clear hw2
    have hnq:=HNQ.out
    by_cases he:(⟨x0,x1,x2⟩:Tess.Key)=⟨y0,y1,y2⟩
    ·rw [decide_eq_true he] at hnq
     have HEQ:=Lib.hid (HEQ0.out he)
     clear he HNQ
     go_wp2
     go_roundw
     case rel=>exact ⟨k + 1,by omega,by go_num,HEQ.out,HB2.out⟩
     case measure=>simp [intOf];omega
    ·rw [decide_eq_false he] at hnq
     have HNE:=Lib.hid (HNE0.out he)
     clear he HNQ
     go_wp2
     go_ret
     exact ⟨ret_bool' (decide_eq_false HNE.out).symm,HB2.out⟩
   ·have hki:¬ (k:Int) < (l1.length:Int):=by omega
    have HEL:=Lib.hid (show l1=l2 from List.ext_getElem HL.out fun j h1 h2=>HALL.out j h1 h2 (by omega))
    go_wp2
    go_ret
    exact ⟨ret_bool' (decide_eq_true HEL.out).symm,HBr.out⟩
 ·have hl':((l1.length:Int) != (l2.length:Int))=true:=by rw [bne_iff_ne];omega
  have HN:=Lib.hid (show l1≠l2 from fun e=>hl (by rw [e]))
  clear hl
  go_enter Tryz.func66,Tryz.ntmps66
  go_wp2
  go_ret
  exact ⟨ret_bool' (decide_eq_false HN.out).symm,Below.refl _ _⟩
end Go.Proofs.YtbbgjjjeecfnoaaGreatDoor
