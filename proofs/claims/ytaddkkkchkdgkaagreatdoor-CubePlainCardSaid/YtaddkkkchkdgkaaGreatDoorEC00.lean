/- Joined by mergeK2.py: K6p, K88p, K88, K89, K90p, K90, K93 -/
import Derived.Test.YtaddkkkchkdgkaaGreatDoorCC06
import Derived.Test.YtaddkkkchkdgkaaGreatDoorCC34
import Derived.Test.YtaddkkkchkdgkaaGreatDoorCC40
import Derived.Test.YtaddkkkchkdgkaaGreatDoorCC42
import Derived.Test.YtaddkkkchkdgkaaGreatDoorCC44
import Derived.Test.YtaddkkkchkdgkaaGreatDoorCC46
import Derived.Test.YtaddkkkchkdgkaaGreatDoorCC48
import Derived.Test.YtaddkkkchkdgkaaGreatDoorCC49
import Derived.BigFrame
import Derived.Lib.LaidPrint
namespace Tess
open Go
namespace Que
def nF2 (set:Nat):Nat→List ByteArray→List ByteArray
 | _,[]=>[]
 | i,x :: r=>if set / 2 ^ i % 2=0 then x :: nF2 set (i + 1) r else nF2 set (i + 1) r
def nO2 (names:List ByteArray) (set:Nat):List ByteArray:=nF2 set 0 (names.take 63)
end Que
end Tess
namespace Go.Proofs.YtaddkkkchkdgkaaGreatDoor
open Go.RowKit Go.Sort
theorem wide_inj {n m:Int}:(wHi n=wHi m∧wLo n=wLo m)↔n=m:=by
 unfold wHi wLo
 refine ⟨fun h=>by omega,fun h=>by rw [h];exact ⟨rfl,rfl⟩⟩
theorem neq_wide (n m:Int) (W:World):(binOp .neq 60 (.agg #[.int .i64 (wHi n),.int .u64 (wLo n)]) (.agg #[.int .i64 (wHi m),.int .u64 (wLo m)])).run Tryz.prog W = .ok (.bool (!decide (n=m))) W:=by
 rw [run_neq_struct,run_equalIn_agg (d:=9999) _ _ _ _ (by kernel_rfl) (by kernel_rfl)]
 simp [Program.fieldsOf,Op.eqFields,go_sem,Tryz.underlying60,Tryz.underlying2,Tryz.underlying58]
 by_cases h:n=m
 ·subst h;simp
 ·have hw:¬ (wHi n=wHi m∧wLo n=wLo m):=fun e=>h (wide_inj.1 e)
  by_cases h0:wHi n=wHi m <;> by_cases h1:wLo n=wLo m <;> simp [h0,h1,h] <;> exact absurd ⟨h0,h1⟩ hw
end Go.Proofs.YtaddkkkchkdgkaaGreatDoor
namespace Go.Proofs.YtaddkkkchkdgkaaGreatDoor
open Go.RowKit Go.Sort
open Tess (CK Pay)
set_option maxRecDepth 100000 in
set_option maxHeartbeats 2000000 in
theorem rvals_any (p q:Nat→Prop) (va vb:Value) (l1 l2:List Tess.Val) (w:World) (ha:RW2 2 valF p w va l1) (hb:RW2 2 valF q w vb l2) :
  Calls Tryz.prog 47 #[va,vb] w fun e w'=>e = .returned (.bool (decide (l1=l2)))∧Below w.heap.size w w':=by
 obtain ⟨xa,ca,rfl,Al,Am⟩:=ha
 obtain ⟨xb,cb,rfl,An,Ao⟩:=hb
 have Au:l1.length≤9223372036854775807:=by unfold maxLen at Al;omega
 have A1:l2.length≤9223372036854775807:=by unfold maxLen at An;omega
 have Aw:=Hd Am
 have At:=Hd Ao
 clear Am Ao Al An
 by_cases hl:l1.length=l2.length
 ·have As:((l1.length:Int) != (l2.length:Int))=false:=by rw [bne_eq_false_iff_eq];omega
  have HL:=Hd hl
  clear hl
  go_enter Tryz.func47,Tryz.ntmps47
  go_wp2
  go_loopw [5] (fun i wr => ∃ k:Nat,k≤l1.length∧i = .int .i64 k∧(∀ j (h1:j < l1.length) (h2:j < l2.length),j < k→l1[j]=l2[j])∧Below w.heap.size w wr) (fun i _=>l1.length - (intOf i).toNat)
  case atStart=>exact ⟨0,Nat.zero_le _,rfl,fun j _ _ h=>absurd h (Nat.not_lt_zero _),Below.refl _ _⟩
  case round=>
   obtain ⟨k,hk,rfl,Ad,Aq⟩:=hrel
   have Ac:=Hd Ad
   have Ab:=Hd Aq
   clear Ad Aq
   by_cases hlt:k < l1.length
   ·have Ah:k < l2.length:=by have:=HL.out;omega
    obtain ⟨b,Ae,rfl,hb,_,g1⟩:=Aw.out (by omega)
    obtain ⟨b',Aa,rfl,Af,_,g2⟩:=At.out (by omega)
    have Ax:(k:Int) < (l1.length:Int):=by omega
    have A0:(k:Int) < (l2.length:Int):=by omega
    have A3:b < wr.heap.size:=Nat.lt_of_lt_of_le hb Ab.out.size
    have Ay:b' < wr.heap.size:=Nat.lt_of_lt_of_le Af Ab.out.size
    have G1:=g1 k hlt
    have G2:=g2 k Ah
    have Ai:=Hd (show ∀ h:l1[k]=l2[k],∀ j (h1:j < l1.length) (h2:j < l2.length),j < k + 1→l1[j]=l2[j] from fun h j h1 h2 hj=>by
     by_cases hjk:j < k
     ·exact Ac.out j h1 h2 hjk
     ·obtain rfl:j=k:=by omega
      exact h)
    have Ag:=Hd (show l1[k]≠l2[k]→l1≠l2 from fun h e=>h (by subst e;rfl))
    clear g1 g2
    generalize l1[k]=u1 at *
    generalize l2[k]=u2 at *
    obtain ⟨x0,x1⟩:=u1
    obtain ⟨y0,y1⟩:=u2
    have r0:wr.cell? ⟨b,Ae + k * 2,none⟩=some (.string x0):=(Ab.out.cell (p:=⟨b,Ae + k * 2,none⟩) hb).trans (G1 0 (by omega))
    have t0:wr.cell? ⟨b',Aa + k * 2,none⟩=some (.string y0):=(Ab.out.cell (p:=⟨b',Aa + k * 2,none⟩) Af).trans (G2 0 (by omega))
    have r1:wr.cell? ⟨b,Ae + k * 2 + 1,none⟩=some (.bool x1):=(Ab.out.cell (p:=⟨b,Ae + k * 2 + 1,none⟩) hb).trans (G1 1 (by omega))
    have t1:wr.cell? ⟨b',Aa + k * 2 + 1,none⟩=some (.bool y1):=(Ab.out.cell (p:=⟨b',Aa + k * 2 + 1,none⟩) Af).trans (G2 1 (by omega))
    clear G1 G2
    have Aj:=Hd (fun W=>neq_val x0 y0 x1 y1 W)
    go_wp2_with (fail)
    refine Flow.wrf 8 (Flow.sp3 [.inl ?_,.inl ?_,.inl ?_,.inl ?_,.inl ?_,.inl ?_,.inl ?_,.inl ?_]) (by kernel_rfl) (by kernel_rfl) ?_ ?_
    rotate_left 8
    ·refine Flow.sm2 ?_
     repeat (first | exact Flow.ln2 | refine Flow.li2 ?_)
    all_goals try simp only [List.take_succ_cons,List.take_zero,List.drop_succ_cons,List.drop_zero]
    iterate 8 (refine Flow.tvK rfl (fun K hK=>⟨fun w hw hG => ?_,?_⟩);(have A2:=Flow.bc4 hw;clear hG hw;unfold Flow.Runs Flow.yields;go_simp;try rfl);go_simp;refine hK _ ?_;clear hK K)
    refine Flow.tn2 fun w2 hw2 hG => ?_
    clear hG
    have Ak:=Hd (Bt Ab.out hw2)
    clear hw2
    have Ap:=Aj.out
    by_cases he:(⟨x0,x1⟩:Tess.Val)=⟨y0,y1⟩
    ·rw [decide_eq_true he] at Ap
     have Az:=Hd (Ai.out he)
     clear he Aj
     go_wp2
     go_roundw
     case rel=>exact ⟨k + 1,by omega,by go_num,Az.out,Ak.out⟩
     case measure=>simp [intOf];omega
    ·rw [decide_eq_false he] at Ap
     have Av:=Hd (Ag.out he)
     clear he Aj
     go_wp2
     go_ret
     exact ⟨retB (decide_eq_false Av.out).symm,Ak.out⟩
   ·have Ax:¬ (k:Int) < (l1.length:Int):=by omega
    have Ar:=Hd (show l1=l2 from List.ext_getElem HL.out fun j h1 h2=>Ac.out j h1 h2 (by omega))
    go_wp2
    go_ret
    exact ⟨retB (decide_eq_true Ar.out).symm,Ab.out⟩
 ·have As:((l1.length:Int) != (l2.length:Int))=true:=by rw [bne_iff_ne];omega
  have HN:=Hd (show l1≠l2 from fun e=>hl (by rw [e]))
  clear hl
  go_enter Tryz.func47,Tryz.ntmps47
  go_wp2
  go_ret
  exact ⟨retB (decide_eq_false HN.out).symm,Below.refl _ _⟩
set_option maxRecDepth 100000 in
set_option maxHeartbeats 2000000 in
theorem rwides_any (p q:Nat→Prop) (va vb:Value) (l1 l2:List Int) (w:World) (ha:RW2 2 wF p w va l1) (hb:RW2 2 wF q w vb l2) :
  Calls Tryz.prog 71 #[va,vb] w fun e w'=>e = .returned (.bool (decide (l1=l2)))∧Below w.heap.size w w':=by
 obtain ⟨xa,ca,rfl,Al,Am⟩:=ha
 obtain ⟨xb,cb,rfl,An,Ao⟩:=hb
 have Au:l1.length≤9223372036854775807:=by unfold maxLen at Al;omega
 have A1:l2.length≤9223372036854775807:=by unfold maxLen at An;omega
 have Aw:=Hd Am
 have At:=Hd Ao
 clear Am Ao Al An
 by_cases hl:l1.length=l2.length
 ·have As:((l1.length:Int) != (l2.length:Int))=false:=by rw [bne_eq_false_iff_eq];omega
  have HL:=Hd hl
  clear hl
  go_enter Tryz.func71,Tryz.ntmps71
  go_wp2
  go_loopw [5] (fun i wr => ∃ k:Nat,k≤l1.length∧i = .int .i64 k∧(∀ j (h1:j < l1.length) (h2:j < l2.length),j < k→l1[j]=l2[j])∧Below w.heap.size w wr) (fun i _=>l1.length - (intOf i).toNat)
  case atStart=>exact ⟨0,Nat.zero_le _,rfl,fun j _ _ h=>absurd h (Nat.not_lt_zero _),Below.refl _ _⟩
  case round=>
   obtain ⟨k,hk,rfl,Ad,Aq⟩:=hrel
   have Ac:=Hd Ad
   have Ab:=Hd Aq
   clear Ad Aq
   by_cases hlt:k < l1.length
   ·have Ah:k < l2.length:=by have:=HL.out;omega
    obtain ⟨b,Ae,rfl,hb,_,g1⟩:=Aw.out (by omega)
    obtain ⟨b',Aa,rfl,Af,_,g2⟩:=At.out (by omega)
    have Ax:(k:Int) < (l1.length:Int):=by omega
    have A0:(k:Int) < (l2.length:Int):=by omega
    have A3:b < wr.heap.size:=Nat.lt_of_lt_of_le hb Ab.out.size
    have Ay:b' < wr.heap.size:=Nat.lt_of_lt_of_le Af Ab.out.size
    have G1:=g1 k hlt
    have G2:=g2 k Ah
    have Ai:=Hd (show ∀ h:l1[k]=l2[k],∀ j (h1:j < l1.length) (h2:j < l2.length),j < k + 1→l1[j]=l2[j] from fun h j h1 h2 hj=>by
     by_cases hjk:j < k
     ·exact Ac.out j h1 h2 hjk
     ·obtain rfl:j=k:=by omega
      exact h)
    have Ag:=Hd (show l1[k]≠l2[k]→l1≠l2 from fun h e=>h (by subst e;rfl))
    clear g1 g2
    generalize l1[k]=u1 at *
    generalize l2[k]=u2 at *
    have r0:wr.cell? ⟨b,Ae + k * 2,none⟩=some (.int .i64 (wHi u1)):=(Ab.out.cell (p:=⟨b,Ae + k * 2,none⟩) hb).trans (G1 0 (by omega))
    have t0:wr.cell? ⟨b',Aa + k * 2,none⟩=some (.int .i64 (wHi u2)):=(Ab.out.cell (p:=⟨b',Aa + k * 2,none⟩) Af).trans (G2 0 (by omega))
    have r1:wr.cell? ⟨b,Ae + k * 2 + 1,none⟩=some (.int .u64 (wLo u1)):=(Ab.out.cell (p:=⟨b,Ae + k * 2 + 1,none⟩) hb).trans (G1 1 (by omega))
    have t1:wr.cell? ⟨b',Aa + k * 2 + 1,none⟩=some (.int .u64 (wLo u2)):=(Ab.out.cell (p:=⟨b',Aa + k * 2 + 1,none⟩) Af).trans (G2 1 (by omega))
    clear G1 G2
    have Aj:=Hd (fun W=>neq_wide u1 u2 W)
    go_wp2_with (fail)
    refine Flow.wrf 8 (Flow.sp3 [.inl ?_,.inl ?_,.inl ?_,.inl ?_,.inl ?_,.inl ?_,.inl ?_,.inl ?_]) (by kernel_rfl) (by kernel_rfl) ?_ ?_
    rotate_left 8
    ·refine Flow.sm2 ?_
     repeat (first | exact Flow.ln2 | refine Flow.li2 ?_)
    all_goals try simp only [List.take_succ_cons,List.take_zero,List.drop_succ_cons,List.drop_zero]
    iterate 8 (refine Flow.tvK rfl (fun K hK=>⟨fun w hw hG => ?_,?_⟩);(have A2:=Flow.bc4 hw;clear hG hw;unfold Flow.Runs Flow.yields;go_simp;try rfl);go_simp;refine hK _ ?_;clear hK K)
    refine Flow.tn2 fun w2 hw2 hG => ?_
    clear hG
    have Ak:=Hd (Bt Ab.out hw2)
    clear hw2
    have Ap:=Aj.out
    by_cases he:u1=u2
    ·rw [decide_eq_true he] at Ap
     have Az:=Hd (Ai.out he)
     clear he Aj
     go_wp2
     go_roundw
     case rel=>exact ⟨k + 1,by omega,by go_num,Az.out,Ak.out⟩
     case measure=>simp [intOf];omega
    ·rw [decide_eq_false he] at Ap
     have Av:=Hd (Ag.out he)
     clear he Aj
     go_wp2
     go_ret
     exact ⟨retB (decide_eq_false Av.out).symm,Ak.out⟩
   ·have Ax:¬ (k:Int) < (l1.length:Int):=by omega
    have Ar:=Hd (show l1=l2 from List.ext_getElem HL.out fun j h1 h2=>Ac.out j h1 h2 (by omega))
    go_wp2
    go_ret
    exact ⟨retB (decide_eq_true Ar.out).symm,Ab.out⟩
 ·have As:((l1.length:Int) != (l2.length:Int))=true:=by rw [bne_iff_ne];omega
  have HN:=Hd (show l1≠l2 from fun e=>hl (by rw [e]))
  clear hl
  go_enter Tryz.func71,Tryz.ntmps71
  go_wp2
  go_ret
  exact ⟨retB (decide_eq_false HN.out).symm,Below.refl _ _⟩
set_option maxRecDepth 100000 in
set_option maxHeartbeats 2000000 in
theorem rsame_any (p q:Nat→Prop) (va vb:Value) (l1 l2:List Int) (w:World) (ha:RW2 1 intF p w va l1) (hb:RW2 1 intF q w vb l2) :
  Calls Tryz.prog 72 #[va,vb] w fun e w'=>e = .returned (.bool (decide (l1=l2)))∧Below w.heap.size w w':=by
 obtain ⟨xa,ca,rfl,Ak,Al⟩:=ha
 obtain ⟨xb,cb,rfl,An,Ao⟩:=hb
 have Au:l1.length≤9223372036854775807:=by unfold maxLen at Ak;omega
 have A1:l2.length≤9223372036854775807:=by unfold maxLen at An;omega
 have Aw:=Hd Al
 have At:=Hd Ao
 clear Al Ao Ak An
 by_cases hl:l1.length=l2.length
 ·have As:((l1.length:Int) != (l2.length:Int))=false:=by rw [bne_eq_false_iff_eq];omega
  have HL:=Hd hl
  clear hl
  go_enter Tryz.func72,Tryz.ntmps72
  go_wp2
  go_loopw [5] (fun i wr => ∃ k:Nat,k≤l1.length∧i = .int .i64 k∧(∀ j (h1:j < l1.length) (h2:j < l2.length),j < k→l1[j]=l2[j])∧Below w.heap.size w wr) (fun i _=>l1.length - (intOf i).toNat)
  case atStart=>exact ⟨0,Nat.zero_le _,rfl,fun j _ _ h=>absurd h (Nat.not_lt_zero _),Below.refl _ _⟩
  case round=>
   obtain ⟨k,hk,rfl,Ac,Aq⟩:=hrel
   have Ab:=Hd Ac
   have Aa:=Hd Aq
   clear Ac Aq
   by_cases hlt:k < l1.length
   ·have Af:k < l2.length:=by have:=HL.out;omega
    obtain ⟨b,Am,rfl,hb,_,g1⟩:=Aw.out (by omega)
    obtain ⟨b',Ad,rfl,Ai,_,g2⟩:=At.out (by omega)
    have Ax:(k:Int) < (l1.length:Int):=by omega
    have A0:(k:Int) < (l2.length:Int):=by omega
    have A3:b < wr.heap.size:=Nat.lt_of_lt_of_le hb Aa.out.size
    have Ay:b' < wr.heap.size:=Nat.lt_of_lt_of_le Ai Aa.out.size
    have G1:=g1 k hlt
    have G2:=g2 k Af
    have Ag:=Hd (show ∀ h:l1[k]=l2[k],∀ j (h1:j < l1.length) (h2:j < l2.length),j < k + 1→l1[j]=l2[j] from fun h j h1 h2 hj=>by
     by_cases hjk:j < k
     ·exact Ab.out j h1 h2 hjk
     ·obtain rfl:j=k:=by omega
      exact h)
    have Ae:=Hd (show l1[k]≠l2[k]→l1≠l2 from fun h e=>h (by subst e;rfl))
    clear g1 g2
    generalize l1[k]=u1 at *
    generalize l2[k]=u2 at *
    have r0:wr.cell? ⟨b,Am + k,none⟩=some (.int .i64 u1):=by simpa [intF] using (Aa.out.cell (p:=⟨b,Am + k * 1 + 0,none⟩) hb).trans (G1 0 (by omega))
    have t0:wr.cell? ⟨b',Ad + k,none⟩=some (.int .i64 u2):=by simpa [intF] using (Aa.out.cell (p:=⟨b',Ad + k * 1 + 0,none⟩) Ai).trans (G2 0 (by omega))
    clear G1 G2
    have Ah:=Hd (show (u1 != u2)=(!decide (u1=u2)) by by_cases h:u1=u2 <;> simp [bne,h])
    go_wp2_with (fail)
    refine Flow.wrf 8 (Flow.sp3 [.inl ?_,.inl ?_,.inl ?_,.inl ?_,.inl ?_,.inl ?_,.inl ?_,.inl ?_]) (by kernel_rfl) (by kernel_rfl) ?_ ?_
    rotate_left 8
    ·refine Flow.sm2 ?_
     repeat (first | exact Flow.ln2 | refine Flow.li2 ?_)
    all_goals try simp only [List.take_succ_cons,List.take_zero,List.drop_succ_cons,List.drop_zero]
    iterate 8 (refine Flow.tvK rfl (fun K hK=>⟨fun w hw hG => ?_,?_⟩);(have A2:=Flow.bc4 hw;clear hG hw;unfold Flow.Runs Flow.yields;go_simp;try rfl);go_simp;refine hK _ ?_;clear hK K)
    refine Flow.tn2 fun w2 hw2 hG => ?_
    clear hG
    have Aj:=Hd (Bt Aa.out hw2)
    clear hw2
    have Ap:=Ah.out
    by_cases he:u1=u2
    ·rw [decide_eq_true he] at Ap
     have Az:=Hd (Ag.out he)
     clear he Ah
     go_wp2
     go_roundw
     case rel=>exact ⟨k + 1,by omega,by go_num,Az.out,Aj.out⟩
     case measure=>simp [intOf];omega
    ·rw [decide_eq_false he] at Ap
     have Av:=Hd (Ae.out he)
     clear he Ah
     go_wp2
     go_ret
     exact ⟨retB (decide_eq_false Av.out).symm,Aj.out⟩
   ·have Ax:¬ (k:Int) < (l1.length:Int):=by omega
    have Ar:=Hd (show l1=l2 from List.ext_getElem HL.out fun j h1 h2=>Ab.out j h1 h2 (by omega))
    go_wp2
    go_ret
    exact ⟨retB (decide_eq_true Ar.out).symm,Aa.out⟩
 ·have As:((l1.length:Int) != (l2.length:Int))=true:=by rw [bne_iff_ne];omega
  have HN:=Hd (show l1≠l2 from fun e=>hl (by rw [e]))
  clear hl
  go_enter Tryz.func72,Tryz.ntmps72
  go_wp2
  go_ret
  exact ⟨retB (decide_eq_false HN.out).symm,Below.refl _ _⟩
end Go.Proofs.YtaddkkkchkdgkaaGreatDoor
namespace Go.Proofs.YtaddkkkchkdgkaaGreatDoor
open Go.RowKit Go.Sort
open Tess (CK Pay)
set_option maxRecDepth 100000 in
set_option maxHeartbeats 4000000 in
theorem rsameG_eq (p q:Nat→Prop) (cs ds:List Value) (x:Int×CK×Pay) (w:World) (hx:GA2 p w cs x) (hy:GA2 q w ds x) :
  Calls Tryz.prog 36 #[.agg cs.toArray,.agg ds.toArray] w fun e w'=>e = .returned (.bool true)∧Below w.heap.size w w':=by
 obtain ⟨vd,vs,vm,vx,rfl,hd,hp⟩:=hx
 obtain ⟨ud,us,um,ux,rfl,he,hq⟩:=hy
 have Al:=Hd (fun W (hB:Below w.heap.size w W)=>rvals_any p q vd ud _ _ W (hd.ag (Ag.new p hB)).w (he.ag (Ag.new q hB)).w)
 have As:=Hd (fun W (hB:Below w.heap.size w W)=>rwides_any p q vs us _ _ W (hp.sums.ag (Ag.new p hB)).w (hq.sums.ag (Ag.new q hB)).w)
 have Aq:=Hd (fun W (hB:Below w.heap.size w W)=>rsame_any p q vm um _ _ W (hp.mins.ag (Ag.new p hB)).w (hq.mins.ag (Ag.new q hB)).w)
 have Ak:=Hd (fun W (hB:Below w.heap.size w W)=>rsame_any p q vx ux _ _ W (hp.maxs.ag (Ag.new p hB)).w (hq.maxs.ag (Ag.new q hB)).w)
 simp only at Al As Aq Ak
 obtain ⟨a2,c2,rfl⟩:=hd.shape
 obtain ⟨a4,c4,rfl⟩:=hp.sums.shape
 obtain ⟨a5,c5,rfl⟩:=hp.mins.shape
 obtain ⟨a6,c6,rfl⟩:=hp.maxs.shape
 obtain ⟨b2,d2,rfl⟩:=he.shape
 obtain ⟨b4,d4,rfl⟩:=hq.sums.shape
 obtain ⟨b5,d5,rfl⟩:=hq.mins.shape
 obtain ⟨b6,d6,rfl⟩:=hq.maxs.shape
 clear hd hp he hq
 generalize (x.2.1.2.map Tess.valOf).length=n2 at *
 generalize x.2.2.sums.length=n4 at *
 generalize x.2.2.mins.length=n5 at *
 generalize x.2.2.maxs.length=n6 at *
 generalize x.1=s1 at *
 generalize x.2.1.1=t1 at *
 generalize x.2.2.n=z1 at *
 obtain ⟨W0,Ap⟩:∃ W0,(w.alloc (.cells #[.int .i64 s1,.int .i64 t1,.slice a2 n2 c2,.int .i64 z1,.slice a4 n4 c4,.slice a5 n5 c5,.slice a6 n6 c6] 56)).alloc (.cells #[.int .i64 s1,.int .i64 t1,.slice b2 n2 d2,.int .i64 z1,.slice b4 n4 d4,.slice b5 n5 d5,.slice b6 n6 d6] 56)=W0:=⟨_,rfl⟩
 obtain ⟨k0,k1,kS,kB⟩:=la3 w (.cells #[.int .i64 s1,.int .i64 t1,.slice a2 n2 c2,.int .i64 z1,.slice a4 n4 c4,.slice a5 n5 c5,.slice a6 n6 c6] 56) (.cells #[.int .i64 s1,.int .i64 t1,.slice b2 n2 d2,.int .i64 z1,.slice b4 n4 d4,.slice b5 n5 d5,.slice b6 n6 d6] 56)
 rw [Ap] at k0 k1 kS kB
 obtain ⟨⟨x0,x1,x2,x3,x4,x5,x6⟩,_⟩:=can7 k0
 obtain ⟨⟨y0,y1,y2,y3,y4,y5,y6⟩,_⟩:=can7 k1
 have Ao:=Hd k0
 have Am:=Hd k1
 have HB:=Hd kB
 clear k0 k1 kS kB
 go_enter Tryz.func36,Tryz.ntmps36
 go_wp2_with (fail)
 go_at_call 47
 refine (Al.out _ HB.out).mono ?_
 rintro e w1 ⟨rfl,hb⟩
 have Aj:=Hd (Bt HB.out hb)
 have h0:=(hb.block _ (Array.getElem?_eq_some_iff.1 Ao.out).1).trans Ao.out
 have h1:=(hb.block _ (Array.getElem?_eq_some_iff.1 Am.out).1).trans Am.out
 have Ae:=Hd h0
 have Af:=Hd h1
 clear x0 x1 x2 x3 x4 x5 x6 y0 y1 y2 y3 y4 y5 y6
 obtain ⟨⟨x0,x1,x2,x3,x4,x5,x6⟩,_⟩:=can7 h0
 obtain ⟨⟨y0,y1,y2,y3,y4,y5,y6⟩,_⟩:=can7 h1
 clear hb h0 h1
 clear Ap
 go_wp2_with (fail)
 go_at_call 71
 refine (As.out _ Aj.out).mono ?_
 rintro e w2 ⟨rfl,hb⟩
 have Ar:=Hd (Bt Aj.out hb)
 have h0:=(hb.block _ (Array.getElem?_eq_some_iff.1 Ae.out).1).trans Ae.out
 have h1:=(hb.block _ (Array.getElem?_eq_some_iff.1 Af.out).1).trans Af.out
 have Ac:=Hd h0
 have Ad:=Hd h1
 clear x0 x1 x2 x3 x4 x5 x6 y0 y1 y2 y3 y4 y5 y6
 obtain ⟨⟨x0,x1,x2,x3,x4,x5,x6⟩,_⟩:=can7 h0
 obtain ⟨⟨y0,y1,y2,y3,y4,y5,y6⟩,_⟩:=can7 h1
 clear hb h0 h1
 go_wp2_with (fail)
 go_at_call 72
 refine (Aq.out _ Ar.out).mono ?_
 rintro e w3 ⟨rfl,hb⟩
 have An:=Hd (Bt Ar.out hb)
 have h0:=(hb.block _ (Array.getElem?_eq_some_iff.1 Ac.out).1).trans Ac.out
 have h1:=(hb.block _ (Array.getElem?_eq_some_iff.1 Ad.out).1).trans Ad.out
 have Aa:=Hd h0
 have Ab:=Hd h1
 clear x0 x1 x2 x3 x4 x5 x6 y0 y1 y2 y3 y4 y5 y6
 obtain ⟨⟨x0,x1,x2,x3,x4,x5,x6⟩,_⟩:=can7 h0
 obtain ⟨⟨y0,y1,y2,y3,y4,y5,y6⟩,_⟩:=can7 h1
 clear hb h0 h1
 go_wp2_with (fail)
 go_at_call 72
 refine (Ak.out _ An.out).mono ?_
 rintro e w4 ⟨rfl,hb⟩
 have At:=Hd (Bt An.out hb)
 have h0:=(hb.block _ (Array.getElem?_eq_some_iff.1 Aa.out).1).trans Aa.out
 have h1:=(hb.block _ (Array.getElem?_eq_some_iff.1 Ab.out).1).trans Ab.out
 have Ai:=Hd h0
 have Ah:=Hd h1
 clear x0 x1 x2 x3 x4 x5 x6 y0 y1 y2 y3 y4 y5 y6
 obtain ⟨⟨x0,x1,x2,x3,x4,x5,x6⟩,_⟩:=can7 h0
 obtain ⟨⟨y0,y1,y2,y3,y4,y5,y6⟩,_⟩:=can7 h1
 clear hb h0 h1
 go_wp2_with (fail)
 go_ret
 exact ⟨rfl,At.out⟩
end Go.Proofs.YtaddkkkchkdgkaaGreatDoor
namespace Tess
open Go
namespace Que
theorem inOrd_sorted (all:List ByteArray) (l:List ByteArray):∀ z,iO2 all z l=true→(∀ j (h:j < l.length),z < nameAt all l[j])∧∀ i j (hi:i < l.length) (hj:j < l.length),i < j→nameAt all l[i] < nameAt all l[j]:=by
 induction l with
 | nil=>intro z _;exact ⟨fun j h=>absurd h (by simp),fun i j hi=>absurd hi (by simp)⟩
 | cons x r ih=>
   intro z h
   unfold iO2 at h
   by_cases hx:nameAt all x≤z
   ·rw [if_pos hx] at h;cases h
   rw [if_neg hx] at h
   obtain ⟨h1,h2⟩:=ih _ h
   refine ⟨fun j hj => ?_,fun i j hi hj hij => ?_⟩
   ·cases j with
    | zero=>simp only [List.getElem_cons_zero];omega
    | succ j=>simp only [List.getElem_cons_succ];have:=h1 j (by simpa using hj);omega
   ·cases j with
    | zero=>omega
    | succ j=>
      cases i with
      | zero=>simp only [List.getElem_cons_zero,List.getElem_cons_succ];exact h1 j (by simpa using hj)
      | succ i=>simp only [List.getElem_cons_succ];exact h2 i j (by simpa using hi) (by simpa using hj) (by omega)
theorem inOrder_inj {names:List ByteArray} (h:iO names names=true):∀ i j (hi:i < names.length) (hj:j < names.length),names[i]=names[j]→i=j:=by
 intro i j hi hj e
 have hs:=(inOrd_sorted names names (-1) h).2
 rcases Nat.lt_trichotomy i j with h1 | h1 | h1
 ·have:=hs i j hi hj h1;rw [e] at this;omega
 ·exact h1
 ·have:=hs j i hj hi h1;rw [e] at this;omega
theorem namesFrom_mem (set:Nat) (y:ByteArray) (r:List ByteArray):∀ i,y ∈ nF2 set i r↔∃ j,∃ h:j < r.length,r[j]=y∧set / 2 ^ (i + j) % 2=0:=by
 induction r with
 | nil=>intro i;simp [nF2]
 | cons x r ih=>
   intro i
   have Aa:(y ∈ nF2 set i (x :: r))↔(x=y∧set / 2 ^ i % 2=0)∨y ∈ nF2 set (i + 1) r:=by
    rw [show nF2 set i (x :: r)=if set / 2 ^ i % 2=0 then x :: nF2 set (i + 1) r else nF2 set (i + 1) r from rfl]
    by_cases hb:set / 2 ^ i % 2=0
    ·rw [if_pos hb,List.mem_cons]
     constructor
     ·rintro (h | h)
      ·exact .inl ⟨h.symm,hb⟩
      ·exact .inr h
     ·rintro (⟨h,_⟩ | h)
      ·exact .inl h.symm
      ·exact .inr h
    ·rw [if_neg hb]
     constructor
     ·exact .inr
     ·rintro (⟨_,h⟩ | h)
      ·exact absurd h hb
      ·exact h
   rw [Aa,ih]
   constructor
   ·rintro (⟨h1,h2⟩ | ⟨j,hj,h1,h2⟩)
    ·exact ⟨0,by simp,h1,by simpa using h2⟩
    ·exact ⟨j + 1,by simpa using hj,by simpa using h1,by rw [show i + (j + 1)=i + 1 + j by omega];exact h2⟩
   ·rintro ⟨j,hj,h1,h2⟩
    cases j with
    | zero=>exact .inl ⟨by simpa using h1,by simpa using h2⟩
    | succ j=>exact .inr ⟨j,by simpa using hj,by simpa using h1,by rw [show i + 1 + j=i + (j + 1) by omega];exact h2⟩
end Que
end Tess
namespace Tess
open Go
namespace Que
theorem nFa (set:Nat) (a b:List ByteArray):∀ i,nF2 set i (a ++ b)=nF2 set i a ++ nF2 set (i + a.length) b:=by
 induction a with
 | nil=>intro i;simp [nF2]
 | cons x r ih=>
   intro i
   show (if set / 2 ^ i % 2=0 then x :: nF2 set (i + 1) (r ++ b) else nF2 set (i + 1) (r ++ b))=(if set / 2 ^ i % 2=0 then x :: nF2 set (i + 1) r else nF2 set (i + 1) r) ++ nF2 set (i + (r.length + 1)) b
   rw [ih,show i + 1 + r.length=i + (r.length + 1) by omega]
   split <;> rfl
theorem namesTo_succ (set:Nat) (names:List ByteArray) (k:Nat) (h:k < names.length):nF2 set 0 (names.take (k + 1))=if set / 2 ^ k % 2=0 then nF2 set 0 (names.take k) ++ [names[k]] else nF2 set 0 (names.take k):=by
 rw [List.take_succ_eq_append_getElem h,nFa]
 have:(names.take k).length=k:=by simp;omega
 rw [this]
 simp only [nF2,Nat.zero_add]
 split <;> simp
theorem namesFrom_le (set:Nat) (r:List ByteArray):∀ i,(nF2 set i r).length≤r.length:=by
 induction r with
 | nil=>intro i;simp [nF2]
 | cons x r ih=>
   intro i
   have:=ih (i + 1)
   show (if set / 2 ^ i % 2=0 then x :: nF2 set (i + 1) r else nF2 set (i + 1) r).length≤_
   split <;> simp <;> omega
end Que
end Tess
namespace Go.Proofs.YtaddkkkchkdgkaaGreatDoor
open Go.RowKit Go.Sort
open Tess (Fil Que)
set_option maxRecDepth 100000 in
set_option maxHeartbeats 2000000 in
theorem namesOf_any (x0 x2 x3 x4 x5 x6 x7 x8 x9 xa xb xc xd vb:Value) (names:List ByteArray) (set:Nat) (hset:set < 1024) (hn:names.length≤10) (w:World) (hb:SlOf w vb (names.map .string)) (hcap:CapOk vb names.length) :
  Calls Tryz.prog 46 #[.agg #[x0,vb,x2,x3,x4,x5,x6,x7,x8,x9,xa,xb,xc,xd],.int .i64 (set:Nat)] w fun e w' => ∃ v',e = .returned v'∧SlP (fun b=>w.heap.size≤b) w' v' ((Que.nO2 names set).map .string)∧Below w.heap.size w w':=by
 obtain ⟨ab,cb,rfl,_,hc⟩:=so2 hb
 have Aj:=hcap.2
 have HC:=Hd hc
 clear hc hb
 obtain ⟨W0,An⟩:∃ W0,w.alloc (.cells #[x0,.slice ab names.length cb,x2,x3,x4,x5,x6,x7,x8,x9,xa,xb,xc,xd] 35)=W0:=⟨_,rfl⟩
 obtain ⟨h0,hS,hB⟩:=la2 w (.cells #[x0,.slice ab names.length cb,x2,x3,x4,x5,x6,x7,x8,x9,xa,xb,xc,xd] 35)
 rw [An] at h0 hS hB
 have y1:=(ca2 h0).1.2.1
 have Ap:=Hd hB
 clear h0 hS hB
 obtain ⟨i0,hi,Ao,Aq,Al⟩:=info_parts iS2
 have Am:min (names.length:Int) 63=(names.length:Int):=by omega
 go_enter Tryz.func46,Tryz.ntmps46
 go_wp2
 go_loopw [5,16] (fun v i wr => ∃ k:Nat,k≤names.length∧i = .int .i64 k∧wr.ownsRow w.heap.size 9 1 v (Que.nF2 set 0 (names.take k)).length ((Que.nF2 set 0 (names.take k)).map .string)∧Below w.heap.size w wr) (fun _ i _=>names.length - (intOf i).toNat)
 case atStart=>exact ⟨0,Nat.zero_le _,rfl,by simpa [Que.nF2] using World.ownsRow_nil W0 w.heap.size 9 1,Ap.out⟩
 case round=>
  obtain ⟨k,hk,rfl,Ae,hB⟩:=hrel
  have HO:=Hd Ae
  have HB:=Hd hB
  clear Ae hB
  by_cases hlt:k < names.length
  ·obtain ⟨b,Ar,rfl,hb,Ah⟩:=HC.out k hlt
   have As:(k:Int) < (names.length:Int):=by omega
   have Au:=(HB.out.cell (p:=⟨b,Ar + k,none⟩) hb).trans Ah
   have Ag:=Hd (Que.namesTo_succ set names k hlt)
   have Ab:=Que.namesFrom_le set (names.take k) 0
   have Ak:(Que.nF2 set 0 (names.take k)).length≤10:=by simp at Ab;omega
   obtain ⟨p1,p2,p3⟩:=ps3 k (by omega)
   have Ai:set / 2 ^ k < 1024:=Nat.lt_of_le_of_lt (Nat.div_le_self _ _) hset
   have Aa:=and_one (set / 2 ^ k) Ai
   clear Ah Ab Ai
   generalize names[k]=y at *
   generalize Que.nF2 set 0 (names.take k)=ns at *
   obtain ⟨P,hP⟩:∃ P,P=2 ^ k:=⟨_,rfl⟩
   rw [← hP] at p1 p2 p3 Aa Ag
   have Ac:(set:Int) / (P:Int)=((set / P:Nat):Int):=by simp
   rw [← Ac] at Aa
   have At:set / P % 2=0∨set / P % 2=1:=by omega
   generalize set / P % 2=m at *
   clear hP Ac
   rcases At with rfl | rfl
   ·go_wp2_with (at_builtin;refine wpList_append_own _ rfl _ _ 22 rfl w.heap.size 9 i0 (.string ByteArray.empty) 1 16 Tryz.underlying22 hi Ao Aq Al rfl (by decide) _ _ _ rfl (HO.out.alloc _) ⟨wr.heap.size,0,none⟩ 1 1 [.string y] rfl rfl (cell_one_new _ _ _) (by simp [Value.oneCell']) (by unfold maxLen;omega) (by omega) (by simp;have:=HB.out.size;omega) ?_;intro v' w3 Af Ad _)
    go_roundw
    case rel=>
     refine ⟨k + 1,by omega,by go_num,?_,((HB.out.alloc HB.out.size _).grown Ad (by simp;have:=HB.out.size;omega) (fun j e=>(HO.out.lt j e).1))⟩
     rw [Ag.out];simpa using Af
    case measure=>simp [intOf];omega
   ·go_wp2
    go_roundw
    case rel=>exact ⟨k + 1,by omega,by go_num,by rw [Ag.out];simpa using HO.out,HB.out⟩
    case measure=>simp [intOf];omega
  ·have As:¬ (k:Int) < (names.length:Int):=by omega
   have HE:=Hd (show Que.nF2 set 0 (names.take k)=Que.nO2 names set by rw [List.take_of_length_le (by omega)];unfold Que.nO2;rw [List.take_of_length_le (by omega)])
   go_wp2
   go_ret
   refine ⟨_,rfl,?_,HB.out⟩
   rw [← HE.out]
   exact SlP.owned HO.out
end Go.Proofs.YtaddkkkchkdgkaaGreatDoor
namespace Tess
open Go Kl
namespace Kl
section
variable {K L P:Type} {lt:K→K→Bool} {lt':L→L→Bool} {add:P→P→P}
def mp (φ:K→L) (l:List (K×P)):List (L×P):=l.map fun x=>(φ x.1,x.2)
theorem ins_mp {φ:K→L} {S:K→Prop} (hφ:∀ a b,S a→S b→lt' (φ a) (φ b)=lt a b) {x:K×P} (hx:S x.1):∀ {l:List (K×P)},(∀ y ∈ l,S y.1)→ins lt' add (φ x.1,x.2) (mp φ l)=mp φ (ins lt add x l)
 | [],_=>rfl
 | y :: l,hl=>by
   have hy:=hl y (by simp)
   have ih:=ins_mp hφ hx (l:=l) fun z hz=>hl z (by simp [hz])
   unfold mp at *
   rw [List.map_cons,ins,ins,hφ _ _ hy hx,hφ _ _ hx hy]
   split
   ·rw [List.map_cons,ih]
   split <;> simp only [List.map_cons]
theorem foldl_mp {φ:K→L} {S:K→Prop} (hφ:∀ a b,S a→S b→lt' (φ a) (φ b)=lt a b):∀ (l m:List (K×P)),(∀ y ∈ l,S y.1)→(∀ y ∈ m,S y.1)→(mp φ l).foldl (fun m x=>ins lt' add x m) (mp φ m)=mp φ (l.foldl (fun m x=>ins lt add x m) m)
 | [],_,_,_=>rfl
 | x :: l,m,hl,hm=>by
   have h1:mp φ (x :: l)=(φ x.1,x.2) :: mp φ l:=rfl
   rw [h1,List.foldl_cons,List.foldl_cons,ins_mp hφ (hl x (by simp)) hm]
   refine foldl_mp hφ l _ (fun y hy=>hl y (by simp [hy])) fun y hy => ?_
   rcases mem_ins hy with e | ⟨z,hz,e⟩
   ·rw [e];exact hl x (by simp)
   ·rw [← e];exact hm z hz
theorem fold_mp {φ:K→L} {S:K→Prop} (hφ:∀ a b,S a→S b→lt' (φ a) (φ b)=lt a b) {l:List (K×P)} (hl:∀ y ∈ l,S y.1):fold lt' add (mp φ l)=mp φ (fold lt add l):=
 foldl_mp hφ l [] hl fun _ h=>by cases h
end
end Kl
def pQ (q:Que) (set:Nat):Que:={ aggs:=q.aggs,names:=Que.nO2 q.names set,mode:=1,sets:=[],every:=q.every,fil:=q.fil,conds:=[],keys:=[],limit:=0 }
def sF (set:Nat):Nat→List DV→List DV
 | _,[]=>[]
 | i,x :: r=>if set / 2 ^ i % 2=0 then x :: sF set (i + 1) r else sF set (i + 1) r
def Ma (set:Nat):Nat→List DV→Prop
 | _,[]=>True
 | i,x :: r=>(set / 2 ^ i % 2≠0→x=none)∧Ma set (i + 1) r
theorem km2 (s:Sch) (set:Nat) (d:List DV):∀ (l:List ByteArray) (i:Nat),Ma set i (kF2 s set d i l)
 | [],_=>trivial
 | x :: l,i=>by
   rw [kF2,Ma]
   exact ⟨fun h=>by rw [if_neg h],km2 s set d l (i + 1)⟩
theorem key_plain (s:Sch) (d:List DV):∀ (l:List ByteArray) (i:Nat),kF2 s 0 d i l=l.map fun x=>d.getD (dimW s x).1 none
 | [],_=>rfl
 | x :: l,i=>by rw [kF2,key_plain s d l (i + 1),Nat.zero_div];rfl
theorem key_sel (s:Sch) (set:Nat) (d:List DV):∀ (l:List ByteArray) (i:Nat),sF set i (kF2 s set d i l)=(Que.nF2 set i l).map fun x=>d.getD (dimW s x).1 none
 | [],_=>rfl
 | x :: l,i=>by
   rw [kF2,sF,Que.nF2,key_sel s set d l (i + 1)]
   split <;> rfl
theorem lex_sel (set:Nat):∀ (l m:List DV) (i:Nat),l.length=m.length→Ma set i l→Ma set i m→lex vLt (sF set i l) (sF set i m)=lex vLt l m
 | [],[],_,_,_,_=>rfl
 | x :: l,y :: m,i,hl,h1,h2=>by
   rw [Ma] at h1 h2
   have ih:=lex_sel set l m (i + 1) (by simpa using hl) h1.2 h2.2
   rw [sF,sF]
   split
   ·rw [lex,lex,ih]
   ·rename_i h
    rw [h1.1 h,h2.1 h,ih,lex]
    rfl
def selK (set:Nat) (k:CK):CK:=(k.1,sF set 0 k.2)
theorem re_mp {K L M P:Type} (g:K→Option L) (φ:L→M) (l:List (K×P)):re (fun k=>(g k).map φ) l=mp φ (re g l):=by
 unfold re mp
 induction l with
 | nil=>rfl
 | cons x l ih=>
   rw [List.filterMap_cons,List.filterMap_cons]
   cases hg:g x.1 with
   | none=>simpa [hg] using ih
   | some k=>simpa [hg] using ih
theorem gOf_plain (s:Sch) (q:Que) (set:Nat) (hn:q.names.length≤63) (k:CK):gOf s (pQ q set) 0 k=(gOf s q set k).map (selK set):=by
 unfold gOf
 show (if Fil.holds s k.1 (k.2.map valOf) q.fil then some (cutE q.every k.1,kF2 s 0 k.2 0 (Que.nO2 q.names set)) else none)=_
 cases Fil.holds s k.1 (k.2.map valOf) q.fil
 ·rfl
 ·simp only [if_true,Option.map_some,Option.some.injEq]
  unfold selK
  simp only
  rw [key_sel,key_plain,Que.nO2,List.take_of_length_le hn]
theorem groups_plain (s:Sch) (q:Que) (set:Nat) (hn:q.names.length≤63) (C:List (CK×Pay)):gP s (pQ q set) 0 C=mp (selK set) (gP s q set C):=by
 unfold gP
 rw [show gOf s (pQ q set) 0=fun k=>(gOf s q set k).map (selK set) from funext (gOf_plain s q set hn),re_mp]
 refine fold_mp (S:=fun k:CK=>k.2.length=q.names.length∧Ma set 0 k.2) (fun a b ha hb => ?_) (re_keys (R:=fun k:CK=>k.2.length=q.names.length∧Ma set 0 k.2) (g:=gOf s q set) fun k k' h => ?_)
 ·unfold ckLt pair selK
  simp only
  rw [lex_sel set a.2 b.2 0 (by rw [ha.1,hb.1]) ha.2 hb.2]
 ·unfold gOf at h
  split at h
  ·cases h;exact ⟨key_len _ _ _ _ _,km2 _ _ _ _ _⟩
  ·cases h
theorem groups_masked (s:Sch) (q:Que) (set:Nat) (C:List (CK×Pay)):∀ x ∈ gP s q set C,x.1.2.length=q.names.length∧Ma set 0 x.1.2:=fk2 (R:=fun k:CK=>k.2.length=q.names.length∧Ma set 0 k.2) (re_keys (R:=fun k:CK=>k.2.length=q.names.length∧Ma set 0 k.2) (g:=gOf s q set) fun k k' h=>by
 unfold gOf at h
 split at h
 ·cases h;exact ⟨key_len _ _ _ _ _,km2 _ _ _ _ _⟩
 ·cases h)
namespace Que
theorem inOrd_of (all:List ByteArray) (h:∀ i j (hi:i < all.length) (hj:j < all.length),all[i]=all[j]→i=j):∀ (r:List ByteArray) (k:Nat),all.drop k=r→iO2 all ((k:Int) - 1) r=true
 | [],_,_=>rfl
 | x :: r,k,e=>by
   have hk:k < all.length:=by
    rcases Nat.lt_or_ge k all.length with h | h
    ·exact h
    ·rw [List.drop_eq_nil_of_le h] at e;cases e
   rw [List.drop_eq_getElem_cons hk] at e
   obtain ⟨e1,e2⟩:=List.cons.inj e
   have hm:hasW all x=true:=by rw [hWi,← e1];exact List.getElem_mem hk
   have hi:idxW all x=k:=by
    unfold idxW
    rw [List.findIdx_eq hk]
    refine ⟨by simp [e1],fun j hj => ?_⟩
    rw [decide_eq_false_iff_not,← e1]
    intro hh
    have:=h j k (by omega) hk hh
    omega
   have Aa:nameAt all x=(k:Int):=by unfold nameAt;rw [if_pos hm,hi]
   unfold iO2
   rw [Aa,if_neg (by omega)]
   have:=inOrd_of all h r (k + 1) e2
   rw [show (((k + 1:Nat):Int) - 1)=(k:Int) by omega] at this
   exact this
theorem nFs (set:Nat):∀ (l:List ByteArray) (i:Nat),(nF2 set i l).Sublist l
 | [],_=>List.Sublist.refl _
 | x :: l,i=>by
   rw [nF2]
   split
   ·exact (nFs set l (i + 1)).cons_cons x
   ·exact (nFs set l (i + 1)).cons x
theorem inj_nodup {l:List ByteArray} (h:∀ i j (hi:i < l.length) (hj:j < l.length),l[i]=l[j]→i=j):l.Nodup:=by
 rw [List.nodup_iff_pairwise_ne,List.pairwise_iff_getElem]
 intro i j hi hj Aa e
 have:=h i j hi hj e
 omega
theorem nodup_inj {l:List ByteArray} (h:l.Nodup):∀ i j (hi:i < l.length) (hj:j < l.length),l[i]=l[j]→i=j:=by
 intro i j hi hj e
 rw [List.nodup_iff_pairwise_ne,List.pairwise_iff_getElem] at h
 rcases Nat.lt_trichotomy i j with h1 | h1 | h1
 ·exact absurd e (h i j hi hj h1)
 ·exact h1
 ·exact absurd e.symm (h j i hj hi h1)
theorem inOrder_sub {l m:List ByteArray} (h:l.Sublist m) (hm:iO m m=true):iO l l=true:=
 inOrd_of l (nodup_inj (h.nodup (inj_nodup (inOrder_inj hm)))) l 0 rfl
end Que
theorem cp3 {s:Sch} {q:Que} (h:Que.check s q=0) (set:Nat):Que.check s (pQ q set)=0:=by
 obtain ⟨h1,h2,h3,h4⟩:=cc2 h
 have Aa:(Que.nO2 q.names set).Sublist q.names:=(Que.nFs set _ 0).trans (List.take_sublist _ _)
 unfold Que.check
 have Ab:Que.isOf s (pQ q set)=true:=by
  simp only [Que.isOf,Bool.and_eq_true] at h2 ⊢
  obtain ⟨⟨⟨⟨⟨⟨sz,ag⟩,io⟩,nm⟩,_⟩,_⟩,_⟩:=h2
  simp only [Que.sO4,Bool.and_eq_true] at sz ⊢
  obtain ⟨⟨⟨⟨⟨⟨a1,a2⟩,_⟩,_⟩,_⟩,_⟩,_⟩:=sz
  refine ⟨⟨⟨⟨⟨⟨⟨⟨⟨⟨⟨⟨a1,decide_eq_true ?_⟩,rfl⟩,rfl⟩,rfl⟩,rfl⟩,rfl⟩,ag⟩,Que.inOrder_sub Aa io⟩,?_⟩,rfl⟩,rfl⟩,rfl⟩
  ·exact Nat.le_trans Aa.length_le (of_decide_eq_true a2)
  ·rw [List.all_eq_true] at nm ⊢
   exact fun x hx=>nm x (Aa.subset hx)
 rw [h1,Ab]
 simp only [if_true]
 have:(decide ((pQ q set).every≠0) && !co2 s.grain (pQ q set).every)=false:=by
  show (decide (q.every≠0) && !co2 s.grain q.every)=false
  rcases h3 with h3 | h3
  ·simp [h3]
  ·simp [h3]
 rw [this]
 exact h4
end Tess
namespace Tess
open Go Kl
theorem sFa (set:Nat):∀ (a b:List DV) (i:Nat),sF set i (a ++ b)=sF set i a ++ sF set (i + a.length) b
 | [],b,i=>by simp [sF]
 | x :: a,b,i=>by
   have ih:=sFa set a b (i + 1)
   rw [List.cons_append,sF,sF,ih,List.length_cons,show i + 1 + a.length=i + (a.length + 1) by omega]
   split <;> simp
theorem sTs (set:Nat) (l:List DV) (k:Nat) (h:k < l.length):sF set 0 (l.take (k + 1))=if set / 2 ^ k % 2=0 then sF set 0 (l.take k) ++ [l[k]] else sF set 0 (l.take k):=by
 rw [List.take_succ_eq_append_getElem h,sFa,List.length_take,Nat.min_eq_left (by omega),Nat.zero_add]
 simp only [sF]
 split <;> simp
theorem sel_len (set:Nat):∀ (l:List DV) (i:Nat),(sF set i l).length≤l.length
 | [],_=>Nat.le_refl _
 | x :: l,i=>by
   have ih:=sel_len set l (i + 1)
   rw [sF]
   split <;> simp only [List.length_cons] <;> omega
theorem sel_mem (set:Nat) (x:DV):∀ (l:List DV) (i:Nat),x ∈ sF set i l→x ∈ l
 | [],_,h=>h
 | y :: l,i,h=>by
   rw [sF] at h
   split at h
   ·rcases List.mem_cons.1 h with h | h
    ·simp [h]
    ·exact List.mem_cons_of_mem _ (sel_mem set x l (i + 1) h)
   ·exact List.mem_cons_of_mem _ (sel_mem set x l (i + 1) h)
theorem masked_at (set:Nat):∀ (l:List DV) (i j:Nat) (h:j < l.length),Ma set i l→set / 2 ^ (i + j) % 2≠0→l[j]=none
 | [],_,j,h,_,_=>absurd h (Nat.not_lt_zero j)
 | x :: l,i,0,_,hm,hb=>hm.1 (by simpa using hb)
 | x :: l,i,j + 1,h,hm,hb=>by
   rw [List.getElem_cons_succ]
   exact masked_at set l (i + 1) j (by simpa using h) hm.2 (by rw [show i + 1 + j=i + (j + 1) by omega];exact hb)
end Tess
namespace Go.Proofs.YtaddkkkchkdgkaaGreatDoor
open Go.RowKit Go.Sort Go.Shelf
open Tess (CK Pay Que DV)
theorem VA.nil (p:Nat→Prop) (w:World):VA p w (.slice none 0 0) []:=⟨none,0,rfl,by simp,(fun x h=>by cases h),fun _=>rfl,fun h=>absurd h (by simp)⟩
theorem VA.sizes' {p:Nat→Prop} {w:World} {v:Value} {l:List Tess.Val} (h:VA p w v l):∀ x ∈ l,x.s.size≤maxLen:=let ⟨_,_,_,_,h2,_⟩:=h;h2
def selV (set:Nat) (key:List DV) (k:Nat):List Tess.Val:=(Tess.sF set 0 (key.take k)).map Tess.valOf
theorem selV_len (set:Nat) (key:List DV) (k:Nat):(selV set key k).length≤k:=by
 unfold selV
 rw [List.length_map]
 have:=Tess.sel_len set (key.take k) 0
 rw [List.length_take] at this
 omega
theorem selV_in {set:Nat} {key:List DV} {k:Nat} (h:k < key.length) (hb:set / 2 ^ k % 2=0):selV set key (k + 1)=selV set key k ++ [Tess.valOf key[k]]:=by
 unfold selV
 rw [Tess.sTs set key k h,if_pos hb,List.map_append]
 rfl
theorem selV_out {set:Nat} {key:List DV} {k:Nat} (h:k < key.length) (hb:set / 2 ^ k % 2≠0):selV set key (k + 1)=selV set key k:=by
 unfold selV
 rw [Tess.sTs set key k h,if_neg hb]
theorem bit_rem (set k:Nat):((set:Int) / 2 ^ k).tmod 2=((set / 2 ^ k % 2:Nat):Int):=by
 have e:(set:Int) / 2 ^ k=((set / 2 ^ k:Nat):Int):=by rw [Int.natCast_ediv,Int.natCast_pow];rfl
 rw [e,Int.tmod_eq_emod_of_nonneg (Int.natCast_nonneg _)]
 rfl
theorem selV_all (set:Nat) (key:List DV) (k:Nat) (h:key.length≤k):selV set key k=(Tess.sF set 0 key).map Tess.valOf:=by unfold selV;rw [List.take_of_length_le h]
theorem vals_more (l:List Tess.Val) (x:Tess.Val):vC l ++ [.string x.s,.bool x.null]=vC (l ++ [x]):=by rw [vCa];rfl
set_option maxRecDepth 100000 in
set_option maxHeartbeats 8000000 in
theorem told17_any (p p1 p2:Nat→Prop) (n:Nat) (v:Value) (q:Que) (cs ds:List Value) (x y:Int×CK×Pay) (set:Nat) (va vb vS f0 f1 f2 f3 f4 f5 vh vo:Value) (w:World) (hq:QA p n w v q va vb vS f0 f1 f2 f3 f4 f5 vh vo) (hx:GA2 p1 w cs x) (hy:GA2 p2 w ds y) (hset:x.1=(set:Nat)) (_hs:set < 1024) (hk:x.2.1.2.length=q.names.length) (hn:q.names.length≤10) (hm:Tess.Ma set 0 x.2.1.2) (h1:y.2.1=Tess.selK set x.2.1) (h2:y.2.2=x.2.2) :
  Calls Tryz.prog 25 #[v,.agg cs.toArray,.agg ds.toArray] w fun e w'=>e = .returned (.bool true)∧Below w.heap.size w w':=by
 obtain ⟨xs,⟨xt,Aa⟩,Bo⟩:=x
 obtain ⟨ys,⟨yt,ky⟩,py⟩:=y
 simp only at hset hk hm h1 h2
 unfold Tess.selK at h1
 simp only [Prod.mk.injEq] at h1
 obtain ⟨rfl,rfl⟩:=h1
 subst h2 hset
 obtain ⟨vd,vs,vm,vx,rfl,hd,hp⟩:=hx
 obtain ⟨ud,us,um,ux,rfl,he,Ai⟩:=hy
 simp only at hd hp he Ai
 have hv:=hq.e
 subst hv
 obtain ⟨ab,cb,rfl,Bq,_⟩:=so2 hq.names.1
 obtain ⟨ad,cd,rfl⟩:=hd.shape
 obtain ⟨ae,ce,rfl⟩:=he.shape
 obtain ⟨a3,c3,rfl⟩:=hp.sums.shape
 obtain ⟨a4,c4,rfl⟩:=hp.mins.shape
 obtain ⟨a5,c5,rfl⟩:=hp.maxs.shape
 obtain ⟨b3,d3,rfl⟩:=Ai.sums.shape
 obtain ⟨b4,d4,rfl⟩:=Ai.mins.shape
 obtain ⟨b5,d5,rfl⟩:=Ai.maxs.shape
 rw [List.length_map] at hd he
 rw [List.length_map,List.length_map]
 have HS:=Hd (hd.sizes')
 have Bg:=hd
 obtain ⟨Br,Bl,A0,Bm,_,_,Ab⟩:=Bg
 simp only [Value.slice.injEq,List.length_map] at A0 Ab
 obtain ⟨rfl,_,rfl⟩:=A0
 have HC:=Hd Ab
 have HE:=Hd he
 have HP:=Hd hp
 have Bi:=Hd Ai
 have HM:=Hd hm
 have HK:=Hd hk
 obtain ⟨W0,A6⟩:∃ W0,((w.alloc (.cells #[va,.slice ab q.names.length cb,.int .i64 q.mode,vS,.int .i64 q.every,f0,f1,f2,f3,f4,f5,vh,vo,.int .i64 q.limit] 35)).alloc (.cells #[.int .i64 ((set:Nat):Int),.int .i64 yt,.slice ad Aa.length cd,.int .i64 py.n,.slice a3 py.sums.length c3,.slice a4 py.mins.length c4,.slice a5 py.maxs.length c5] 56)).alloc (.cells #[.int .i64 ys,.int .i64 yt,.slice ae (Tess.sF set 0 Aa).length ce,.int .i64 py.n,.slice b3 py.sums.length d3,.slice b4 py.mins.length d4,.slice b5 py.maxs.length d5] 56)=W0:=⟨_,rfl⟩
 obtain ⟨k0,k1,k2,kS,kB⟩:=laid3 w (.cells #[va,.slice ab q.names.length cb,.int .i64 q.mode,vS,.int .i64 q.every,f0,f1,f2,f3,f4,f5,vh,vo,.int .i64 q.limit] 35) (.cells #[.int .i64 ((set:Nat):Int),.int .i64 yt,.slice ad Aa.length cd,.int .i64 py.n,.slice a3 py.sums.length c3,.slice a4 py.mins.length c4,.slice a5 py.maxs.length c5] 56) (.cells #[.int .i64 ys,.int .i64 yt,.slice ae (Tess.sF set 0 Aa).length ce,.int .i64 py.n,.slice b3 py.sums.length d3,.slice b4 py.mins.length d4,.slice b5 py.maxs.length d5] 56)
 rw [A6] at k0 k1 k2 kS kB
 have y1:=(ca2 k0).1.2.1
 obtain ⟨⟨x0,x1,x2,x3,x4,x5,x6⟩,_⟩:=can7 k1
 have Bn:((Aa.length:Int) != (q.names.length:Int))=false:=by rw [hk,bne_self_eq_false]
 have H0:=Hd k0
 have H1:=Hd k1
 have H2:=Hd k2
 have HB:=Hd kB
 have Bh:=Hd kS
 clear hq hd he hp Ai hm hk k0 k1 k2 kS kB Ab
 obtain ⟨i0,hi,A3,A7,Bc⟩:=info_parts infoVal
 go_enter Tryz.func25,Tryz.ntmps25
 go_wp2_with (fail)
 go_loopw [7,8] (fun v i wr => ∃ k:Nat,k≤q.names.length∧i = .int .i64 k∧wr.ownsRow W0.heap.size 72 2 v (selV set Aa k).length (vC (selV set Aa k))∧(selV set Aa k=[]→v = .slice none 0 0)∧Below W0.heap.size W0 wr) (fun _ i _=>q.names.length - (intOf i).toNat)
 case atStart=>exact ⟨0,Nat.zero_le _,rfl,by simpa [selV,Tess.sF,vC] using World.ownsRow_nil W0 W0.heap.size 72 2,fun _=>rfl,Below.refl _ _⟩
 case round=>
  obtain ⟨k,hk,rfl,Ak,Am,Ac⟩:=hrel
  have HO:=Hd Ak
  have HN:=Hd Am
  have Aw:=Hd Ac
  have Bk:w.heap.size + 2 < W0.heap.size:=by have:=Bh.out;omega
  have y1:=(ca2 ((Ac.block _ (by omega)).trans H0.out)).1.2.1
  obtain ⟨⟨x0,x1,x2,x3,x4,x5,x6⟩,_⟩:=can7 ((Ac.block _ (by omega)).trans H1.out)
  obtain ⟨⟨z0,z1,z2,z3,z4,z5,z6⟩,_⟩:=can7 ((Ac.block _ (by omega)).trans H2.out)
  clear Ak Am
  by_cases hlt:k < q.names.length
  ·have A8:(k:Int) < (q.names.length:Int):=by omega
   have Ao:k < Aa.length:=by have:=HK.out;omega
   obtain ⟨b,As,rfl,hb,_,Aq⟩:=HC.out (by omega)
   have Ah:=Bt HB.out Ac
   have Ar:=(Ah.cell (p:=⟨b,As + k * 2,none⟩) hb).trans (Aq k Ao).1
   have Ap:=(Ah.cell (p:=⟨b,As + k * 2 + 1,none⟩) hb).trans (Aq k Ao).2
   rw [List.getElem_map] at Ar Ap
   have Bp:b < wr.heap.size:=Nat.lt_of_lt_of_le hb Ah.size
   have Au:=selV_len set Aa k
   have Bb:(k:Int) < 64:=by omega
   by_cases hbit:set / 2 ^ k % 2=0
   ·have A9:(((set:Int) / 2 ^ k).tmod 2 == 0)=true:=by rw [bit_rem,hbit];rfl
    have An:=Hd (selV_in Ao hbit)
    clear hbit hb Aq
    generalize Tess.valOf Aa[k]=u at *
    obtain ⟨us,ub⟩:=u
    obtain ⟨W3,Ba⟩:∃ W3,wr.alloc (.cells #[.string us,.bool ub] 72)=W3:=⟨_,rfl⟩
    obtain ⟨h3,Az,At⟩:=la2 wr (.cells #[.string us,.bool ub] 72)
    rw [Ba] at h3 Az At
    have A1:=Hd (ob2 HO.out At)
    have Al:=Hd (Bt Aw.out At)
    have A2:=Hd h3
    clear h3 At Az
    go_wp2_with (at_builtin;refine wpList_append_own _ rfl _ _ 52 rfl W0.heap.size 72 i0 (.agg #[.string ByteArray.empty,.bool false]) 2 24 Tryz.underlying52 hi A3 A7 Bc rfl (by decide) _ _ _ rfl A1.out ⟨wr.heap.size,0,none⟩ 1 1 [.string us,.bool ub] rfl rfl ?c1 ?c2 ?c3 ?c4 ?c5 ?_)
    case c1=>intro j u hj;rw [cell_of_row _ _ _ _ _ _ A2.out];simpa using hj
    case c2=>simp [Value.oneCell']
    case c3=>unfold maxLen;omega
    case c4=>omega
    case c5=>exact Al.out.size
    intro v' w3 Ad Ae Aj
    have Bd:=Hd (Al.out.grown Ae Al.out.size (fun j e=>(A1.out.lt j e).1))
    have Be:=Hd (show w3.ownsRow W0.heap.size 72 2 v' (selV set Aa (k + 1)).length (vC (selV set Aa (k + 1))) by
     rw [An.out,← vals_more,List.length_append]
     exact Ad)
    have Bj:=Hd (show selV set Aa (k + 1)=[]→v' = .slice none 0 0 from fun h=>by
     rw [An.out] at h
     simp at h)
    clear Ad Ae Aj
    go_wp2
    go_roundw
    case rel=>exact ⟨k + 1,by omega,by go_num,Be.out,Bj.out,Bd.out⟩
    case measure=>simp [intOf];omega
   ·have A9:(((set:Int) / 2 ^ k).tmod 2 == 0)=false:=by rw [bit_rem,beq_eq_false_iff_ne];omega
    have An:=Hd (selV_out Ao hbit)
    have Af:Aa[k]=none:=Tess.masked_at set Aa 0 k Ao HM.out (by rw [Nat.zero_add];exact hbit)
    rw [Af] at Ar Ap
    replace Ar:wr.cell? ⟨b,As + k * 2,none⟩=some (.string ⟨#[]⟩):=Ar
    replace Ap:wr.cell? ⟨b,As + k * 2 + 1,none⟩=some (.bool true):=Ap
    clear hbit hb Aq Af
    have A4:=fun W=>neq_val ⟨#[]⟩ ⟨#[]⟩ true true W
    rw [decide_eq_true rfl] at A4
    go_wp2
    go_roundw
    case rel=>exact ⟨k + 1,by omega,by go_num,by rw [An.out];exact HO.out,(by rw [An.out];exact HN.out),Aw.out⟩
    case measure=>simp [intOf];omega
  ·have A8:¬ (k:Int) < (q.names.length:Int):=by omega
   rw [selV_all set Aa k (by have:=HK.out;omega)] at HO HN
   have Au:=Tess.sel_len set Aa 0
   have hv:=vo2 HO.out (fun z hz=>by
    obtain ⟨d,hd,rfl⟩:=List.mem_map.1 hz
    exact HS.out _ (List.mem_map.2 ⟨d,Tess.sel_mem set d Aa 0 hd,rfl⟩)) (by rw [List.length_map];have:=HK.out;unfold maxLen;omega) HN.out
   obtain ⟨av,cv,Ay⟩:=hv.shape
   rw [List.length_map] at Ay
   subst Ay
   have HV:=Hd (rvals_any _ _ _ _ _ _ wr hv.w (HE.out.ag (Ag.new _ (Bt HB.out Ac))).w)
   rw [decide_eq_true rfl] at HV
   have Bf:=Hd (fun W (hW:Below wr.heap.size wr W)=>rsameG_eq p1 p2 [.int .i64 0,.int .i64 yt,.slice none 0 0,.int .i64 py.n,.slice a3 py.sums.length c3,.slice a4 py.mins.length c4,.slice a5 py.maxs.length c5] [.int .i64 0,.int .i64 yt,.slice none 0 0,.int .i64 py.n,.slice b3 py.sums.length d3,.slice b4 py.mins.length d4,.slice b5 py.maxs.length d5] (0,(yt,[]),py) W ⟨_,_,_,_,rfl,VA.nil _ _,HP.out.ag (Ag.new _ (Bt (Bt HB.out Ac) hW))⟩ ⟨_,_,_,_,rfl,VA.nil _ _,Bi.out.ag (Ag.new _ (Bt (Bt HB.out Ac) hW))⟩)
   clear hv hlt hk
   go_wp2_with (fail)
   go_at_call 47
   refine HV.out.mono ?_
   rintro e w2 ⟨rfl,Ah⟩
   have A5:=Hd (Bf.out w2 Ah)
   have Av:=Hd (Bt Aw.out Ah)
   clear x0 x1 x2 x3 x4 x5 x6 z0 z1 z2 z3 z4 z5 z6 y1
   obtain ⟨⟨x0,x1,x2,x3,x4,x5,x6⟩,_⟩:=can7 ((Av.out.block _ (by omega)).trans H1.out)
   obtain ⟨⟨z0,z1,z2,z3,z4,z5,z6⟩,_⟩:=can7 ((Av.out.block _ (by omega)).trans H2.out)
   clear Ah
   go_wp2_with (fail)
   go_at_call 36
   refine A5.out.mono ?_
   rintro e w3 ⟨rfl,Ax⟩
   have Al:=Hd (Bt (Bt HB.out Av.out) Ax)
   clear Ax
   go_wp2_with (fail)
   go_ret
   exact ⟨rfl,Al.out⟩
end Go.Proofs.YtaddkkkchkdgkaaGreatDoor
namespace Go.Proofs.YtaddkkkchkdgkaaGreatDoor
open Go.RowKit Go.Sort Go.Shelf
open Tess (Que)
def iNI (N:Nat) (l:List Value) (v:Value) (W:World):Prop:=SlP (fun b=>N≤b) W v l
theorem iNI2 (N:Nat) (l:List Value):Flow.Spec.mono (.inr (iNI N l)):=fun _ _ _ h hb=>SlP.ag h (Ag.new _ hb)
set_option maxRecDepth 100000 in
set_option maxHeartbeats 8000000 in
theorem plain17_any (p:Nat→Prop) (n:Nat) (v:Value) (q:Que) (set:Nat) (va vb vS f0 f1 f2 f3 f4 f5 vh vo:Value) (w:World) (hq:QA p n w v q va vb vS f0 f1 f2 f3 f4 f5 vh vo) (hset:set < 1024) (hn:q.names.length≤10) (hcap:CapOk vb q.names.length) :
  Calls Tryz.prog 24 #[v,.int .i64 (set:Nat)] w fun e w' => ∃ na nn nc,e = .returned (.agg #[va,.slice na nn nc,.int .i64 1,.slice none 0 0,.int .i64 q.every,f0,f1,f2,f3,f4,f5,.slice none 0 0,.slice none 0 0,.int .i64 0]) ∧
   QA (fun b=>p b∨w.heap.size≤b) n w' (.agg #[va,.slice na nn nc,.int .i64 1,.slice none 0 0,.int .i64 q.every,f0,f1,f2,f3,f4,f5,.slice none 0 0,.slice none 0 0,.int .i64 0]) (Tess.pQ q set) va (.slice na nn nc) (.slice none 0 0) f0 f1 f2 f3 f4 f5 (.slice none 0 0) (.slice none 0 0)∧Below w.heap.size w w':=by
 have Ap:=hq
 have hv:=hq.e
 subst hv
 obtain ⟨ab,cb,rfl,_,Ab⟩:=so2 hq.names.1
 obtain ⟨aa,ca,rfl⟩:=hq.aggs.shape
 obtain ⟨z0,z1,z2,z3,z4,ez⟩:=FA2.sh2 hq.fil
 simp only [Value.agg.injEq,Array.mk.injEq,List.cons.injEq,and_true] at ez
 obtain ⟨rfl,rfl,rfl,rfl,rfl,rfl⟩:=ez
 have HQ:=Hd hq
 have Ar:=Hd (fun W (hB:Below w.heap.size w W)=>namesOf_any (.slice aa q.aggs.length ca) (.int .i64 q.mode) vS (.int .i64 q.every) (.int .i64 q.fil.kind) (.string q.fil.name) (.slice z0 z1 z2) (.int .i64 q.fil.frm) (.int .i64 q.fil.to) (.slice z3 q.fil.l.length z4) vh vo (.int .i64 q.limit) (.slice ab q.names.length cb) q.names set hset hn W (hq.names.ag (Ag.new p hB)).1 hcap)
 clear hq Ap Ab
 obtain ⟨W0,An⟩:∃ W0,(w.alloc (.cells #[.slice aa q.aggs.length ca,.slice ab q.names.length cb,.int .i64 q.mode,vS,.int .i64 q.every,.int .i64 q.fil.kind,.string q.fil.name,.slice z0 z1 z2,.int .i64 q.fil.frm,.int .i64 q.fil.to,.slice z3 q.fil.l.length z4,vh,vo,.int .i64 q.limit] 35)).alloc (.cells #[.slice none 0 0,.slice none 0 0,.int .i64 0,.slice none 0 0,.int .i64 0,.int .i64 0,.string ⟨#[]⟩,.slice none 0 0,.int .i64 0,.int .i64 0,.slice none 0 0,.slice none 0 0,.slice none 0 0,.int .i64 0] 35)=W0:=⟨_,rfl⟩
 obtain ⟨k0,k1,kS,kB⟩:=la3 w (.cells #[.slice aa q.aggs.length ca,.slice ab q.names.length cb,.int .i64 q.mode,vS,.int .i64 q.every,.int .i64 q.fil.kind,.string q.fil.name,.slice z0 z1 z2,.int .i64 q.fil.frm,.int .i64 q.fil.to,.slice z3 q.fil.l.length z4,vh,vo,.int .i64 q.limit] 35) (.cells #[.slice none 0 0,.slice none 0 0,.int .i64 0,.slice none 0 0,.int .i64 0,.int .i64 0,.string ⟨#[]⟩,.slice none 0 0,.int .i64 0,.int .i64 0,.slice none 0 0,.slice none 0 0,.slice none 0 0,.int .i64 0] 35)
 rw [An] at k0 k1 kS kB
 obtain ⟨y0,y1,y2,y3,y4,y5,y6,y7,y8,y9,ya,yb,yc,yd⟩:=(ca2 k0).1
 have s0:w.heap.size < W0.heap.size:=by omega
 have Al:=Hd k1
 have HB:=Hd kB
 have HS:=Hd kS
 clear k0 k1 kS kB
 go_enter Tryz.func24,Tryz.ntmps24
 go_wp2_with (fail)
 refine Flow.wrf 9 (Flow.sp3 [.inl ?_,.inl ?_,.inl ?_,.inl ?_,.inr (iNI (w.heap.size + 2) ((Que.nO2 q.names set).map .string)),.inl ?_,.inl ?_,.inl ?_,.inl ?_]) (by kernel_rfl) (by kernel_rfl) ?_ ?_
 rotate_left 8
 ·refine Flow.sm2 ?_
  repeat (first | exact Flow.ln2 | refine Flow.li2 ?_ | refine Flow.li3 (iNI2 _ _) ?_)
 all_goals try simp only [List.take_succ_cons,List.take_zero,List.drop_succ_cons,List.drop_zero]
 iterate 4 (refine Flow.tvK rfl (fun K hK=>⟨fun w hw hG => ?_,?_⟩);(have Am:=Flow.bc4 hw;clear hG hw;unfold Flow.Runs Flow.yields;go_simp;try rfl);go_simp;refine hK _ ?_;clear hK K)
 (refine Flow.tvK2 rfl (fun K hK=>⟨fun w' hw hG => ?_,?_⟩);(have HW:=Hd hw;clear hG hw;unfold Flow.Runs Flow.yields;go_simp;refine (Ar.out _ (Bt HB.out HW.out)).mono ?_;rintro e w3 ⟨v3,rfl,Aj,Ak⟩;exact ⟨v3,rfl,Ak,Aj.weak (fun b hb=>by have:=HW.out.size;have:=HS.out;omega)⟩);intro vz;go_simp;refine hK _ _ ?_;clear hK K)
 iterate 4 (refine Flow.tvK rfl (fun K hK=>⟨fun w hw hG => ?_,?_⟩);(have Am:=Flow.bc4 hw;clear hG hw;unfold Flow.Runs Flow.yields;go_simp;try rfl);go_simp;refine hK _ ?_;clear hK K)
 refine Flow.tn2 fun w2 hw2 hG => ?_
 have hz:=(show iNI (w.heap.size + 2) ((Que.nO2 q.names set).map .string) vz w2 by simpa [Flow.upd] using hG 4)
 unfold iNI at hz
 clear hG
 obtain ⟨na,nn,nc,rfl⟩:=hz.shape
 have h2:=(hw2.block _ (by have:=HS.out;omega)).trans Al.out
 have Ai:=Hd (Bt HB.out hw2)
 obtain ⟨W3,Aq,h3,_,_,Ah,Ae⟩:=put14 (.slice aa q.aggs.length ca) (.slice na nn nc) (.int .i64 1) (.slice none 0 0) (.int .i64 q.every) (.int .i64 q.fil.kind) (.string q.fil.name) (.slice z0 z1 z2) (.int .i64 q.fil.frm) (.int .i64 q.fil.to) (.slice z3 q.fil.l.length z4) (.slice none 0 0) (.slice none 0 0) (.int .i64 0) h2
 obtain ⟨v0,v1,v2,v3,v4,v5,v6,v7,v8,v9,A9,At,Aw,A0⟩:=(ca2 h2).1
 have zf:=(ca2 h2).2
 have A3:=zf 0 (by omega)
 have A5:=zf 1 (by omega)
 have Av:=zf 2 (by omega)
 have Ax:=zf 3 (by omega)
 have Au:=zf 4 (by omega)
 have A2:=zf 5 (by omega)
 have Az:=zf 6 (by omega)
 have A1:=zf 7 (by omega)
 have A6:=zf 8 (by omega)
 have A4:=zf 9 (by omega)
 have Ay:=zf 10 (by omega)
 have A7:=zf 11 (by omega)
 have As:=zf 12 (by omega)
 have A8:=zf 13 (by omega)
 clear zf
 obtain ⟨u0,u1,u2,u3,u4,u5,u6,u7,u8,u9,ua,ub,uc,ud⟩:=(ca2 h3).1
 have Ac:=Hd (Ah _ _ Ai.out (by omega))
 have Af:=HQ.out.ltQ
 have Ad:=hz.ag (Ae (fun b=>w.heap.size + 2≤b) (by omega))
 have Aa:=Af.ag (Ag.below _ Ac.out fun b _ hb=>hb.2)
 have Ao:=Hd (show QA (fun b=>p b∨w.heap.size≤b) n W3 (.agg #[.slice aa q.aggs.length ca,.slice na nn nc,.int .i64 1,.slice none 0 0,.int .i64 q.every,.int .i64 q.fil.kind,.string q.fil.name,.slice z0 z1 z2,.int .i64 q.fil.frm,.int .i64 q.fil.to,.slice z3 q.fil.l.length z4,.slice none 0 0,.slice none 0 0,.int .i64 0]) (Tess.pQ q set) (.slice aa q.aggs.length ca) (.slice na nn nc) (.slice none 0 0) (.int .i64 q.fil.kind) (.string q.fil.name) (.slice z0 z1 z2) (.int .i64 q.fil.frm) (.int .i64 q.fil.to) (.slice z3 q.fil.l.length z4) (.slice none 0 0) (.slice none 0 0) from
  ⟨rfl,Aa.aggs.weak (fun b hb => .inl hb.1),Aa.mets,Ad.weak (fun b hb => .inr (by omega)),(fun x hx=>by
    obtain ⟨j,hj,e,_⟩:=(Que.namesFrom_mem set x _ 0).1 hx
    exact HQ.out.small x (List.mem_of_mem_take (e ▸ List.getElem_mem hj))),SA2.nil _ _,Aa.fil.weak (fun b hb => .inl hb.1),RA.nil _ _ _ _,RA.nil _ _ _ _⟩)
 clear h2 h3 Ah Ae Af Ad Aa hz hw2
 go_wp2_with (fail)
 refine bodyPost_ret (v:=.agg #[.slice aa q.aggs.length ca,.slice na nn nc,.int .i64 1,.slice none 0 0,.int .i64 q.every,.int .i64 q.fil.kind,.string q.fil.name,.slice z0 z1 z2,.int .i64 q.fil.frm,.int .i64 q.fil.to,.slice z3 q.fil.l.length z4,.slice none 0 0,.slice none 0 0,.int .i64 0]) (by first | (rw [Aq];simp [results,Tryz.results24,go_sem,u0,u1,u2,u3,u4,u5,u6,u7,u8,u9,ua,ub,uc,ud]) | simp [results,Tryz.results24,go_sem,u0,u1,u2,u3,u4,u5,u6,u7,u8,u9,ua,ub,uc,ud]) rfl ?_
 exact ⟨_,_,_,rfl,Ao.out,Ac.out⟩
end Go.Proofs.YtaddkkkchkdgkaaGreatDoor
namespace Go.Proofs.YtaddkkkchkdgkaaGreatDoor
open Go.RowKit Go.Sort
open Tess (CK Pay PO CO2 CO Que ckLt gP gOf)
theorem runTo_get {s:Tess.Sch} {q:Que} {C:List (CK×Pay)} (i k:Nat) (hi:i < (Que.sO q).length) (hk:k < (gP s q (Que.sO q)[i] C).length) :
  ∃ h:(rT s q C i).length + k < (runG s q C).length,(runG s q C)[(rT s q C i).length + k]=((((Que.sO q)[i]:Nat):Int),(gP s q (Que.sO q)[i] C)[k]):=by
 have e:runG s q C=rT s q C i ++ (oS2 (((Que.sO q)[i]:Nat):Int) (gP s q (Que.sO q)[i] C) ++ ((Que.sO q).drop (i + 1)).flatMap fun (set:Nat)=>oS2 (set:Int) (gP s q set C)):=by
  unfold runG rT
  conv=>lhs;rw [← List.take_append_drop i (Que.sO q),List.drop_eq_getElem_cons hi,List.flatMap_append,List.flatMap_cons]
 have hl:k < (oS2 (((Que.sO q)[i]:Nat):Int) (gP s q (Que.sO q)[i] C)).length:=by rw [oSl];exact hk
 have h:(rT s q C i).length + k < (runG s q C).length:=by
  rw [e,List.length_append,List.length_append];omega
 refine ⟨h,?_⟩
 have h2:(runG s q C)[(rT s q C i).length + k]? = some ((((Que.sO q)[i]:Nat):Int),(gP s q (Que.sO q)[i] C)[k]):=by
  rw [e,List.getElem?_append_right (by omega),Nat.add_sub_cancel_left,List.getElem?_append_left hl]
  unfold oS2
  rw [List.getElem?_map,List.getElem?_eq_getElem hk]
  rfl
 rw [List.getElem?_eq_getElem h] at h2
 exact Option.some.inj h2
theorem runTo_more {s:Tess.Sch} {q:Que} {C:List (CK×Pay)} (i:Nat) (hi:i < (Que.sO q).length):(rT s q C (i + 1)).length=(rT s q C i).length + (gP s q (Que.sO q)[i] C).length:=by
 rw [rTs s q C i hi,List.length_append,oSl]
theorem fold_plain {s:Tess.Sch} {q:Que} (h:Que.check s q=0) (hn:q.names.length≤63) (set:Nat) (C:List (CK×Pay)):fE s (Tess.pQ q set) 0=0∧fR2 s (Tess.pQ q set) 0 C=oS2 0 (Tess.Kl.mp (Tess.selK set) (gP s q set C)):=by
 have hp:=Nat.two_pow_pos (Tess.pQ q set).names.length
 have e:=fEs (k:=0) (Tess.cp3 h set) hp
 refine ⟨e,?_⟩
 have e2:=fRs (k:=0) (Tess.cp3 h set) hp C
 rw [Tess.groups_plain s q set hn] at e2
 exact e2
theorem own_get {set:Nat} {l:List (CK×Pay)} (k:Nat) (hk:k < l.length):∃ h:k < (oS2 0 (Tess.Kl.mp (Tess.selK set) l)).length,(oS2 0 (Tess.Kl.mp (Tess.selK set) l))[k]=((0:Int),(Tess.selK set l[k].1,l[k].2)):=by
 have h:k < (oS2 0 (Tess.Kl.mp (Tess.selK set) l)).length:=by rw [oSl];unfold Tess.Kl.mp;rw [List.length_map];exact hk
 exact ⟨h,by unfold oS2 Tess.Kl.mp;simp⟩
theorem own_len {set:Nat} {l:List (CK×Pay)}:(oS2 0 (Tess.Kl.mp (Tess.selK set) l)).length=l.length:=by rw [oSl];unfold Tess.Kl.mp;rw [List.length_map]
theorem names_few {q:Que} (h:q.names.length≤10) (set:Nat):(Tess.pQ q set).names.length≤10:=by
 have Aa:(Que.nO2 q.names set).Sublist q.names:=(Que.nFs set _ 0).trans (List.take_sublist _ _)
 exact Nat.le_trans Aa.length_le h
end Go.Proofs.YtaddkkkchkdgkaaGreatDoor
namespace Go.Proofs.YtaddkkkchkdgkaaGreatDoor
open Go.RowKit Go.Sort Go.Shelf
open Tess (Fil Que CK Pay CO2 CO gP)
def isPl (p:Nat→Prop) (n:Nat) (q:Que) (e:Int) (va f0 f1 f2 f3 f4 f5:Value) (v:Value) (W:World):Prop:=∃ na nn nc,v = .agg #[va,.slice na nn nc,.int .i64 1,.slice none 0 0,.int .i64 e,f0,f1,f2,f3,f4,f5,.slice none 0 0,.slice none 0 0,.int .i64 0] ∧
 QA p n W (.agg #[va,.slice na nn nc,.int .i64 1,.slice none 0 0,.int .i64 e,f0,f1,f2,f3,f4,f5,.slice none 0 0,.slice none 0 0,.int .i64 0]) q va (.slice na nn nc) (.slice none 0 0) f0 f1 f2 f3 f4 f5 (.slice none 0 0) (.slice none 0 0)
theorem isPl_mono (p:Nat→Prop) (n:Nat) (q:Que) (e:Int) (va f0 f1 f2 f3 f4 f5:Value):Flow.Spec.mono (.inr (isPl p n q e va f0 f1 f2 f3 f4 f5)):=fun _ _ _ ⟨na,nn,nc,h1,h2⟩ hb=>⟨na,nn,nc,h1,h2.ag (Ag.new _ hb)⟩
set_option maxRecDepth 100000 in
set_option maxHeartbeats 16000000 in
theorem CubePlain_any {T:Lib.PrintTabs} (a0 a1:Addr) {vs vq vr:Value} {rows0:List Tess.Row} {s0:Tess.Sch} {q0:Que} (w:World) (hL:Lw T a0 a1 w) (hs:SA (fun _=>True) w vs s0) (hq:QueOk w vq q0) (hr:RowsIn (fun _=>True) w vr rows0) (hrng:∀ r ∈ rows0,r.rng) :
  Calls Tryz.prog 9 #[vs,vq,vr] w fun e w'=>e = .returned (.bool true)∧Below w.heap.size w w':=by
 obtain ⟨⟨n,va,vb,vS,f0,f1,f2,f3,f4,f5,vh,vo,hq⟩,hK⟩:=hq
 have hs:=hs.ltK
 have Eg:=Hd hr.ltR
 clear hr
 have hq:=hq.ltQ
 obtain ⟨vd,vm,rfl,hd,hm,Ay,A6⟩:=hs
 have HS:=Hd (show SA (fun b=>True∧b < w.heap.size) w (.agg #[vd,vm,.int .i64 s0.grain]) s0 from ⟨vd,vm,rfl,hd,hm,Ay,A6⟩)
 obtain ⟨ad,Be,rfl,_⟩:=sl3 hd
 obtain ⟨am,Bb,rfl,_⟩:=sl3 hm
 have hv:=hq.e
 subst hv
 obtain ⟨ab,cb,rfl,_,At⟩:=so2 hq.names.1
 obtain ⟨aa,ca,rfl⟩:=hq.aggs.shape
 obtain ⟨aS,cS,rfl⟩:=hq.sets.shape
 obtain ⟨ah,ch,rfl⟩:=hq.conds.shape
 obtain ⟨ao,co,rfl⟩:=hq.keys.shape
 obtain ⟨z0,z1,z2,z3,z4,ez⟩:=FA2.sh2 hq.fil
 simp only [Value.agg.injEq,Array.mk.injEq,List.cons.injEq,and_true] at ez
 obtain ⟨rfl,rfl,rfl,rfl,rfl,rfl⟩:=ez
 have HQ:=Hd hq
 have HL:=Hd hL
 clear hd hm Ay A6 At hq hL
 have B1:kO2 (Que.few q0).fil:=kf2 _ hK
 obtain ⟨W0,Dj⟩:∃ W0,(w.alloc (.cells #[.slice ad s0.dims.length Be,.slice am s0.mets.length Bb,.int .i64 s0.grain] 24)).alloc (.cells #[.slice aa q0.aggs.length ca,.slice ab q0.names.length cb,.int .i64 q0.mode,.slice aS q0.sets.length cS,.int .i64 q0.every,.int .i64 q0.fil.kind,.string q0.fil.name,.slice z0 z1 z2,.int .i64 q0.fil.frm,.int .i64 q0.fil.to,.slice z3 q0.fil.l.length z4,.slice ah q0.conds.length ch,.slice ao q0.keys.length co,.int .i64 q0.limit] 35)=W0:=⟨_,rfl⟩
 obtain ⟨k0,k1,kS,kB⟩:=la3 w (.cells #[.slice ad s0.dims.length Be,.slice am s0.mets.length Bb,.int .i64 s0.grain] 24) (.cells #[.slice aa q0.aggs.length ca,.slice ab q0.names.length cb,.int .i64 q0.mode,.slice aS q0.sets.length cS,.int .i64 q0.every,.int .i64 q0.fil.kind,.string q0.fil.name,.slice z0 z1 z2,.int .i64 q0.fil.frm,.int .i64 q0.fil.to,.slice z3 q0.fil.l.length z4,.slice ah q0.conds.length ch,.slice ao q0.keys.length co,.int .i64 q0.limit] 35)
 rw [Dj] at k0 k1 kS kB
 have Ce:=Hd (show Bq w _ _ W0 from ⟨k0,k1,kB⟩)
 clear k0 k1 kS kB
 go_enter Tryz.func9,Tryz.ntmps9
 go_wp2_with (fail)
 go_at_call 21
 refine (sa3 a0 a1 W0 (HL.out.below Ce.out.below).vars).mono ?_
 rintro e W1 ⟨rfl,Dl⟩
 have Ax:=Hd (Ce.out.later Dl)
 clear Dl Ce Dj
 obtain ⟨⟨x0,x1,x2⟩,x3,x4,x5⟩:=can3 Ax.out.k0
 go_wp2_with (fail)
 go_at_call 11
 refine (cSa _ s0 W1 _ (HS.out.ag (Ag.new _ Ax.out.below))).mono ?_
 rintro e W2 ⟨Fh,rfl,Bu,Dc⟩
 have Ck:=Ax.out.later Dc
 have Bu:=Bu.weak (q:=Dq w) (Dq.of Ax.out.lt)
 obtain ⟨s,C8⟩:∃ s,cutSch s0=s:=⟨_,rfl⟩
 rw [C8] at Bu
 clear C8
 obtain ⟨Ah,Dk,rfl,hd,hm,Ay,A6⟩:=Bu
 have Df:=Hd (show SA (Dq w) W2 (.agg #[Ah,Dk,.int .i64 s.grain]) s from ⟨Ah,Dk,rfl,hd,hm,Ay,A6⟩)
 obtain ⟨E1,A1,rfl,_⟩:=sl3 hd
 obtain ⟨Ex,Bd,rfl,_⟩:=sl3 hm
 obtain ⟨W3,Er,Ar,Dp⟩:=Ck.put0 (.slice E1 s.dims.length A1) (.slice Ex s.mets.length Bd) (.int .i64 s.grain)
 have C7:=Hd (Df.out.ag Dp)
 have Ar:=Hd Ar
 clear x0 x1 x2 x3 x4 x5 hd hm Ay A6 Dc Df Dp Ax
 obtain ⟨⟨x0,x1,x2⟩,x3,x4,x5⟩:=can3 Ck.k0
 obtain ⟨y0,y1,y2,y3,y4,y5,y6,y7,y8,y9,ya,yb,yc,yd⟩:=(ca2 Ar.out.k1).1
 clear Ck
 go_wp2_with (fail)
 go_at_call 12
 refine (fa10 _ n _ q0 _ _ _ _ _ _ _ _ _ _ _ W3 (HQ.out.ag (Ag.new _ Ar.out.below))).mono ?_
 rintro e W4 ⟨v',ua,ub,uS,g0,g1,g2,g3,g4,g5,uh,uo,rfl,Ad,As,Cb⟩
 have Br:=Ar.out.later Cb
 have Ad:=Ad.weak (q:=Dq w) (fun b hb=>by
  rcases hb with hb | hb
  ·exact ⟨by have:=hb.2;omega,by have:=hb.2;omega⟩
  ·exact Dq.of Ar.out.lt b hb)
 have C2:=Hd (C7.out.ag (Ag.new _ Cb))
 have Ai:(Que.few q0).names.length≤10:=by show ((q0.names.take 10).map (cutN 30)).length≤10;simp;omega
 obtain ⟨Q,hQ⟩:∃ Q,Q=Que.few q0:=⟨_,rfl⟩
 rw [← hQ] at Ad As B1 Ai
 clear hQ Cb x0 x1 x2 x3 x4 x5 y0 y1 y2 y3 y4 y5 y6 y7 y8 y9 ya yb yc yd Er C7
 have hv:=Ad.e
 subst hv
 obtain ⟨na,nc,rfl,_,At⟩:=so2 Ad.names.1
 obtain ⟨ba,bc,rfl⟩:=Ad.aggs.shape
 obtain ⟨ta,tc,rfl⟩:=Ad.sets.shape
 obtain ⟨ha,hc,rfl⟩:=Ad.conds.shape
 obtain ⟨oa,oc,rfl⟩:=Ad.keys.shape
 obtain ⟨j0,j1,j2,j3,j4,ez⟩:=FA2.sh2 Ad.fil
 simp only [Value.agg.injEq,Array.mk.injEq,List.cons.injEq,and_true] at ez
 obtain ⟨rfl,rfl,rfl,rfl,rfl,rfl⟩:=ez
 have B4:=Hd As
 clear At As Ar HQ HS
 obtain ⟨W5,Ec,Bh,Cl⟩:=Br.put1 (.slice ba Q.aggs.length bc) (.slice na Q.names.length nc) (.int .i64 Q.mode) (.slice ta Q.sets.length tc) (.int .i64 Q.every) (.int .i64 Q.fil.kind) (.string Q.fil.name) (.slice j0 j1 j2) (.int .i64 Q.fil.frm) (.int .i64 Q.fil.to) (.slice j3 Q.fil.l.length j4) (.slice ha Q.conds.length hc) (.slice oa Q.keys.length oc) (.int .i64 Q.limit)
 obtain ⟨y0,y1,y2,y3,y4,y5,y6,y7,y8,y9,ya,yb,yc,yd⟩:=(ca2 Br.k1).1
 have zf:=(ca2 Br.k1).2
 have E7:=zf 0 (by omega)
 have E9:=zf 1 (by omega)
 have Ei:=zf 2 (by omega)
 have Ep:=zf 3 (by omega)
 have E3:=zf 4 (by omega)
 have D3:=zf 5 (by omega)
 have E5:=zf 6 (by omega)
 have D2:=zf 7 (by omega)
 have Ew:=zf 8 (by omega)
 have E8:=zf 9 (by omega)
 have D1:=zf 10 (by omega)
 have Ej:=zf 11 (by omega)
 have E2:=zf 12 (by omega)
 have Fb:=zf 13 (by omega)
 clear zf
 have D8:=Hd (C2.out.ag Cl)
 have El:=Hd (Ad.ag Cl)
 have Bg:=Hd Bh
 obtain ⟨x0,x1,x2⟩:=(can3 Bh.k0).1
 obtain ⟨v0,v1,v2,v3,v4,v5,v6,v7,v8,v9,Ap,Ak,Ao,Ah⟩:=(ca2 Bh.k1).1
 clear Br Ad Bh Cl C2
 go_wp2_with (fail)
 have Ek:w.heap.size < W5.heap.size:=by have:=Bg.out.lt;omega
 refine FlowT.wp_region 3 [3,4,5,6,7,8] [4,5,6] 7 8 (Flow.sp3 [.inl ?_,.inl ?_,.inr (iRI (Dq w) (rC3 40 rows0))]) (by kernel_rfl) (by kernel_rfl) ?_ rfl rfl rfl ?_
 rotate_left 2
 ·refine Flow.sm2 ?_
  repeat (first | exact Flow.ln2 | refine Flow.li2 ?_ | refine Flow.li3 (iRI2 _ _) ?_)
 all_goals try simp only [List.take_succ_cons,List.take_zero]
 iterate 2 (refine Flow.tvK rfl (fun K hK=>⟨fun w' hw hG => ?_,?_⟩);(have Aj:=Flow.bc4 hw;clear hG hw;unfold Flow.Runs Flow.yields;go_simp;try rfl);go_simp;refine hK _ ?_;clear hK K)
 (refine Flow.tvK2 rfl (fun K hK=>⟨fun w' hw hG => ?_,?_⟩);(have HW:=Hd hw;clear hG hw;unfold Flow.Runs Flow.yields;go_simp;refine (rows_any _ vr rows0 40 (by omega) _ (Eg.out.ag (Ag.new _ (Bt Bg.out.below HW.out)))).mono ?_;rintro e w3 ⟨v3,rfl,Ed,Ch⟩;exact ⟨v3,rfl,Ch,RowsIn.weak Ed (fun b hb=>by
   have h5:=Bg.out.lt
   have h6:=HW.out.size
   rcases hb with hb | hb
   ·exact ⟨by have:=hb.2;omega,by have:=hb.2;omega⟩
   ·exact Dq.of h5 b (by omega))⟩);intro v6;go_simp;refine hK _ _ ?_;clear hK K)
 refine Flow.tn2 fun W6 hB6 hG => ?_
 have Aw:=(show iRI (Dq w) (rC3 40 rows0) v6 W6 by simpa [Flow.upd] using hG 2)
 unfold iRI at Aw
 clear hG
 have B5:=cut_rng (n:=40) hrng
 have Bv:=cut_len (n:=40) (rows:=rows0)
 obtain ⟨R,hR⟩:∃ R,rC3 40 rows0=R:=⟨_,rfl⟩
 rw [hR] at Aw B5 Bv
 have Bv:R.length≤50:=by omega
 have Ba:=Aw
 obtain ⟨ra,rc,rfl,Fv,_⟩:=LA.open Ba
 have C5:=Hd (Bg.out.later hB6)
 have Dh:=Hd (D8.out.ag (Ag.new _ hB6))
 have Eq:=Hd (El.out.ag (Ag.new _ hB6))
 have D6:=Hd Aw
 have C3:=Hd B5
 have Cf:=Hd Bv
 clear hR Aw Ba hB6 x0 x1 x2 v0 v1 v2 v3 v4 v5 v7 v8 v9 Ap Ak Ao Ah y0 y1 y2 y3 y4 y5 y6 y7 y8 y9 ya yb yc yd E7 E9 Ei Ep E3 D3 E5 D2 Ew E8 D1 Ej E2 Fb Ec B5 Bv Ek
 have Bf:=Hd (rlC (Dq w) _ _ s R W6 Dh.out D6.out Cf.out C3.out)
 obtain ⟨eA,hA⟩:∃ eA,rC2 s R=eA:=⟨_,rfl⟩
 obtain ⟨C,hC⟩:∃ C,rC5 s R=C:=⟨_,rfl⟩
 rw [hA,hC] at Bf
 have C1:=Hd (show ∀ Q',Que.check s Q'=0→CO s C from fun Q' h=>hC ▸ rCo Cf.out C3.out h)
 have De:=Hd (show ([C].flatten.map (·.2.n)).sum≤1000 from hC ▸ rCt s R Cf.out)
 have Co:=C5.out.lt
 clear hA hC
 go_wp2_with (fail)
 go_at_call 14
 refine Bf.out.mono ?_
 rintro e W7 ⟨A8,Bc,A7,rfl,ha,Cc⟩
 go_wp2_with (fail)
 refine ⟨rfl,_,_,rfl,rfl,(fun w=>by go_simp;try rfl),_,_,rfl,rfl,(fun w=>by go_simp;try rfl),_,_,rfl,rfl,(fun w=>by go_simp;try rfl),?_⟩
 apply bw2
 ·intro h
  go_wp2_with (fail)
  exact ⟨rfl,h⟩
 ·intro h
  go_wp2_with (fail)
  exact ⟨rfl,h⟩
 have Du:=Hd (ha.weak (q:=Dq w) (Dq.of Co))
 have Bn:=Hd (C5.out.later Cc)
 have A5:=Hd Cc
 clear ha Cc
 obtain ⟨x0,x1,x2⟩:=(can3 Bn.out.k0).1
 obtain ⟨v0,v1,v2,v3,v4,v5,v6,v7,v8,v9,Ap,Ak,Ao,Ah⟩:=(ca2 Bn.out.k1).1
 have Fd:=Hd (Dh.out.ag (Ag.new _ A5.out))
 have Eo:=Hd (Eq.out.ag (Ag.new _ A5.out))
 have A3:=Du
 obtain ⟨WA,Cs⟩:∃ WX,W7.alloc (.cells #[.slice A8 Bc A7] 41)=WX:=⟨_,rfl⟩
 have Aa:=(la2 W7 (.cells #[.slice A8 Bc A7] 41)).2.2
 have Aq:=parts1 (v:=.slice A8 Bc A7) A3.out
 rw [Cs] at Aa Aq
 have Aq:=Aq.weak (q:=Dq w) (fun b hb=>by
  rcases hb with hb | hb
  ·exact hb
  ·exact Dq.of Bn.out.lt b (by omega))
 have Bl:=Hd (Bn.out.later Aa)
 have Dd:=Hd (Fd.out.ag (Ag.new _ Aa))
 have Dn:=Hd (Eo.out.ag (Ag.new _ Aa))
 have Dt:=Hd Aa
 have HF:=Hd (run_any (T:=T) a0 a1 (Dq w) 8 _ _ _ s Q [C] _ _ _ _ _ _ _ _ _ _ _ WA (HL.out.below Bl.out.below).vars (HL.out.below Bl.out.below).vn (HL.out.below Bl.out.below).et Dd.out Dn.out (by omega) B1 Ai Aq (by simp) (fun h D hD=>by obtain rfl:=List.mem_singleton.1 hD;exact C1.out _ h) De.out)
 rw [show [C].flatten=C by simp] at HF
 clear Aa Aq
 go_wp2_with (fail)
 go_at_call 22
 refine HF.out.mono ?_
 rintro e WB ⟨gv,rfl,hG,Aa⟩
 obtain ⟨Fl,Fm,Fw,rfl⟩:∃ a n c,gv = .slice a n c:=let ⟨a,c,h,_⟩:=hG;⟨a,_,c,h⟩
 have Ct:=Hd hG
 have Bm:=Hd (Bl.out.later Aa)
 have Da:=Hd (Dd.out.ag (Ag.new _ Aa))
 have Cr:=Hd (Dn.out.ag (Ag.new _ Aa))
 have Cp:=Hd (A3.out.ag (Ag.new _ (Bt Dt.out Aa)))
 have Fq:=Hd Aa
 clear hG Aa Cs HF
 clear x0 x1 x2 v0 v1 v2 v3 v4 v5 v6 v7 v8 v9 Ap Ak Ao Ah
 obtain ⟨x0,x1,x2⟩:=(can3 Bm.out.k0).1
 obtain ⟨v0,v1,v2,v3,v4,v5,v6,v7,v8,v9,Ap,Ak,Ao,Ah⟩:=(ca2 Bm.out.k1).1
 have HF:=Hd (sa2 a0 a1 (Dq w) 8 _ _ s Q _ _ _ _ _ _ _ _ _ _ _ WB (HL.out.below Bm.out.below).vars Da.out Cr.out (by omega) B1)
 go_wp2_with (fail)
 go_at_call 23
 refine HF.out.mono ?_
 rintro e WC ⟨lv,rfl,hl,Aa⟩
 obtain ⟨L,hL⟩:∃ L,(if Que.check s Q=0 then Que.sO Q else [])=L:=⟨_,rfl⟩
 rw [hL] at hl
 obtain ⟨al,cl,rfl,Ft,Aj⟩:=so7 hl
 have Eh:=Hd (show Que.check s Q=0→L=Que.sO Q from fun h=>by rw [← hL,if_pos h])
 have En:=Hd Aj
 have B0:=Hd (Bm.out.later Aa)
 have Es:=Hd (Da.out.ag (Ag.new _ Aa))
 have Dy:=Hd (Cr.out.ag (Ag.new _ Aa))
 have D0:=Hd (Cp.out.ag (Ag.new _ Aa))
 have Eu:=Hd Aa
 clear hl hL Aj Aa HF
 clear x0 x1 x2 v0 v1 v2 v3 v4 v5 v6 v7 v8 v9 Ap Ak Ao Ah
 by_cases h1:eA=0
 rotate_left
 ·have e1:(eA != (0:Int))=true:=by rw [bne_iff_ne];exact h1
  go_wp2_with (fail)
  go_ret
  exact ⟨rfl,B0.out.below⟩
 subst h1
 by_cases h2:runE s Q C=0
 rotate_left
 ·generalize runE s Q C=E at *
  have e1:((E:Int) != (0:Int))=true:=by rw [bne_iff_ne];omega
  go_wp2_with (fail)
  go_ret
  exact ⟨rfl,B0.out.below⟩
 obtain ⟨By,Dw⟩:=rEz h2
 have HR:=Hd (rRz h2)
 rw [h2,By]
 have Bj:=Hd By
 obtain rfl:=Eh.out By
 clear h2 By
 have Bo:=Ct.out.ag (Ag.new _ Eu.out)
 rw [HR.out] at Bo
 obtain ⟨GB,Bw⟩:∃ GB,runG s Q C=GB:=⟨_,rfl⟩
 have B7:=Hd (show ∀ i j (hi:i < (Que.sO Q).length) (hj:j < (gP s Q (Que.sO Q)[i] C).length),∃ h:(rT s Q C i).length + j < GB.length,GB[(rT s Q C i).length + j]=((((Que.sO Q)[i]:Nat):Int),(gP s Q (Que.sO Q)[i] C)[j]) from fun i j hi hj=>by subst Bw;exact runTo_get i j hi hj)
 have B3:=Hd (show (rT s Q C (Que.sO Q).length).length=GB.length by rw [runTo_all,Bw])
 have E4:=Hd (Tess.sOl Bj.out)
 have Fn:2 ^ Q.names.length≤64:=Tess.pow_six (Que.iOn (Que.check_ok Bj.out)).2.1
 rw [Bw] at Bo
 obtain ⟨Ff,Fj,e1,_,Di,_,Db⟩:=LA.open Bo
 simp only [Value.slice.injEq] at e1
 obtain ⟨rfl,E6,rfl⟩:=e1
 subst E6
 have Bf:=Hd Db
 have Di:GB.length≤9223372036854775807:=by unfold maxLen at Di;omega
 clear Bo Db Bw Ct Dw HR
 go_wp2_with (fail)
 go_loopw [14,15] (fun at' i wr => ∃ k:Nat,k≤(Que.sO Q).length∧i = .int .i64 k∧at' = .int .i64 ((rT s Q C k).length:Int)∧Below WC.heap.size WC wr) (fun _ i _=>(Que.sO Q).length - (intOf i).toNat)
 case atStart=>exact ⟨0,Nat.zero_le _,rfl,rfl,Below.refl _ _⟩
 case round=>
  obtain ⟨k,hk,rfl,rfl,Al⟩:=hrel
  obtain ⟨wa,Dx⟩:∃ wa,wa=wr:=⟨_,rfl⟩
  subst Dx
  have C9:=Hd Al
  have Au:=Hd (B0.out.later Al)
  by_cases hlt:k < (Que.sO Q).length
  ·have Dz:(k:Int) < ((Que.sO Q).length:Int):=by omega
   obtain ⟨bl,ol,rfl,Cd,A4⟩:=En.out k hlt
   have Aj:=(Al.cell (p:=⟨bl,ol + k,none⟩) Cd).trans A4
   have A0:bl < wa.heap.size:=Nat.lt_of_lt_of_le Cd Al.size
   have Ee:=Hd (Es.out.ag (Ag.new _ Al))
   have C6:=Hd (Dy.out.ag (Ag.new _ Al))
   have Cg:=Hd (D0.out.ag (Ag.new _ Al))
   have Ab:=Hd (runTo_more (s:=s) (q:=Q) (C:=C) k hlt)
   have Bk:=Hd (fun j hj=>B7.out k j hlt hj)
   have Dg:=E4.out _ (List.getElem_mem hlt)
   have Cq:=Hd (Tess.groups_masked s Q (Que.sO Q)[k] C)
   have Bp:=Hd (fold_plain Bj.out (by omega) (Que.sO Q)[k] C)
   obtain ⟨x,hx⟩:∃ x,(Que.sO Q)[k]=x:=⟨_,rfl⟩
   rw [hx] at Aj Dg Ab Bk Cq Bp
   obtain ⟨g,hg⟩:∃ g,gP s Q x C=g:=⟨_,rfl⟩
   rw [hg] at Ab Bk Cq Bp
   have Ca:=Hd Aj
   have Av:=Hd A0
   have A9:x < 1024:=by omega
   have Ey:=Hd (fun W (hB:Below wa.heap.size wa W)=>plain17_any (Dq w) 8 _ Q x _ _ _ _ _ _ _ _ _ _ _ W (C6.out.ag (Ag.new _ hB)) A9 Ai B4.out)
   have Fs:w.heap.size < wa.heap.size:=by have:=Au.out.lt;omega
   have Fr:w.heap.size + 1 < wa.heap.size:=Au.out.lt
   have Fo:(0:Int)≤(k:Int):=by omega
   obtain ⟨n0,Dr⟩:∃ n0,(rT s Q C k).length=n0:=⟨_,rfl⟩
   rw [Dr] at Ab Bk ⊢
   obtain ⟨x0,x1,x2⟩:=(can3 Au.out.k0).1
   obtain ⟨v0,v1,v2,v3,v4,v5,v6,v7,v8,v9,Ap,Ak,Ao,Ah⟩:=(ca2 Au.out.k1).1
   clear Al Cd Dg hx hg Dr A4
   go_wp2_with (fail)
   refine FlowT.wp_region 9 [9,10,11,12,13,14] [10,11,12] 13 14 (Flow.sp3 [.inl ?_,.inl ?_,.inl ?_,.inl ?_,.inl ?_,.inl ?_,.inr (isPl (Dq w) 8 (Tess.pQ Q x) Q.every (.slice ba Q.aggs.length bc) (.int .i64 Q.fil.kind) (.string Q.fil.name) (.slice j0 j1 j2) (.int .i64 Q.fil.frm) (.int .i64 Q.fil.to) (.slice j3 Q.fil.l.length j4)),.inl ?_,.inr (nP wa.heap.size (.slice A8 Bc A7))]) (by kernel_rfl) (by kernel_rfl) ?_ rfl rfl rfl ?_
   rotate_left 7
   ·refine Flow.sm2 ?_
    repeat (first | exact Flow.ln2 | refine Flow.li2 ?_ | refine Flow.li3 (nPm _ _) ?_ | refine Flow.li3 (isPl_mono _ _ _ _ _ _ _ _ _ _ _) ?_)
   all_goals try simp only [List.take_succ_cons,List.take_zero]
   iterate 6 (refine Flow.tvK rfl (fun K hK=>⟨fun w' hw hG => ?_,?_⟩);(have Cj:=Flow.bc4 hw;clear hG hw;unfold Flow.Runs Flow.yields;go_simp;try rfl);go_simp;refine hK _ ?_;clear hK K)
   (refine Flow.tvK2 rfl (fun K hK=>⟨fun w' hw hG => ?_,?_⟩);(have HW:=Hd hw;clear hG hw;unfold Flow.Runs Flow.yields;go_simp;refine (Ey.out _ HW.out).mono ?_;rintro e w3 ⟨C4,Cv,C0,rfl,Dv,Ch⟩;exact ⟨_,rfl,Ch,C4,Cv,C0,rfl,Dv.weak (fun b hb=>by
     have h5:=Au.out.lt
     have h6:=HW.out.size
     rcases hb with hb | hb
     ·exact hb
     ·exact Dq.of h5 b (by omega))⟩);intro vy;go_simp;refine hK _ _ ?_;clear hK K)
   iterate 1 (refine Flow.tvK rfl (fun K hK=>⟨fun w' hw hG => ?_,?_⟩);(have Cj:=Flow.bc4 hw;clear hG hw;unfold Flow.Runs Flow.yields;go_simp;try rfl);go_simp;refine hK _ ?_;clear hK K)
   (refine Flow.tvK2 rfl (fun K hK=>⟨fun w' hw hG => ?_,?_⟩);(have HW:=Hd hw;clear hG hw;unfold Flow.Runs Flow.yields;go_simp;exact ⟨(la2 _ _).2.2,nPm2 _ _ _ HW.out.size⟩);intro vz;go_simp;refine hK _ _ ?_;clear hK K)
   refine Flow.tn2 fun WD hBD hG => ?_
   have Ds:=(show nP wa.heap.size (.slice A8 Bc A7) vz WD by simpa [Flow.upd] using hG 8)
   have E0:=(show isPl (Dq w) 8 (Tess.pQ Q x) Q.every (.slice ba Q.aggs.length bc) (.int .i64 Q.fil.kind) (.string Q.fil.name) (.slice j0 j1 j2) (.int .i64 Q.fil.frm) (.int .i64 Q.fil.to) (.slice j3 Q.fil.l.length j4) vy WD by simpa [Flow.upd] using hG 6)
   clear hG
   obtain ⟨C4,Cv,C0,rfl,Cx⟩:=E0
   have Bi:=Hd (Au.out.later hBD)
   have Ev:=Hd (Ee.out.ag (Ag.new _ hBD))
   have Aq:=parts_one Ds (Cg.out.ag (Ag.new _ hBD)) (fun _ h=>h) (Dq.of Au.out.lt)
   have Cm:=Hd hBD
   obtain ⟨g1,rfl,_,_,_⟩:=Ds
   have HF:=Hd (fold_any (T:=T) a0 a1 (Dq w) 8 _ _ _ s (Tess.pQ Q x) 0 [C] _ _ _ _ _ _ _ _ _ _ _ WD (HL.out.below Bi.out.below).vars (HL.out.below Bi.out.below).vn (HL.out.below Bi.out.below).et Ev.out Cx (by omega) B1 (names_few Ai x) Aq (by simp) (fun _ D hD=>by obtain rfl:=List.mem_singleton.1 hD;exact C1.out _ Bj.out) De.out)
   rw [show [C].flatten=C by simp,Bp.out.1,Bp.out.2] at HF
   clear Aq Cx hBD x0 x1 x2 v0 v1 v2 v3 v4 v5 v6 v7 v8 v9 Ap Ak Ao Ah Aj
   go_wp2_with (fail)
   go_at_call 15
   refine HF.out.mono ?_
   rintro e WE ⟨gv,rfl,hG,Aa⟩
   obtain ⟨Fe,Fy,rfl,_,Dm,_,Cz⟩:=LA.open hG
   rw [own_len] at *
   have D9:=Hd Cz
   have Dm:g.length≤9223372036854775807:=by unfold maxLen at Dm;omega
   have Fa:=Hd (Bi.out.later Aa)
   have D4:=Hd (C6.out.ag (Ag.new _ (Bt Cm.out Aa)))
   have B2:=Hd (Bt (show Below WC.heap.size WC wa from C9.out) (Bt Cm.out Aa))
   have Az:=Hd (Bt Cm.out Aa)
   clear hG Aa HF Cz
   go_wp2_with (fail)
   refine ⟨rfl,_,_,rfl,rfl,(fun w=>by go_simp;try rfl),_,_,rfl,rfl,(fun w=>by go_simp;try rfl),_,_,rfl,rfl,(fun w=>by go_simp;try rfl),?_⟩
   apply bw2
   ·intro h
    go_wp2_with (fail)
    exact ⟨rfl,h⟩
   ·intro h
    go_wp2_with (fail)
    exact ⟨rfl,h⟩
   go_wp2_with (fail)
   go_loopw [14,18] (fun at' j' wr => ∃ j:Nat,j≤g.length∧j' = .int .i64 j∧at' = .int .i64 ((n0 + j:Nat):Int)∧Below WE.heap.size WE wr) (fun _ j' _=>g.length - (intOf j').toNat)
   case atStart=>exact ⟨0,Nat.zero_le _,rfl,rfl,Below.refl _ _⟩
   case round=>
    obtain ⟨j,hj,rfl,rfl,Ac⟩:=hrel
    have Et:=Hd (Bt B2.out Ac)
    have Cn:=Hd Ac
    by_cases hjt:j < g.length
    ·have Em:(j:Int) < (g.length:Int):=by omega
     have Ez:(0:Int)≤(j:Int):=by omega
     obtain ⟨Do,Ci⟩:=Bk.out j hjt
     obtain ⟨m,hm⟩:∃ m,n0 + j=m:=⟨_,rfl⟩
     have HM:=Hd hm
     simp only [hm] at Do Ci ⊢
     have Fx:(m:Int) < (GB.length:Int):=by omega
     have Fg:¬ ((GB.length:Int)≤(m:Int)):=by omega
     have Fp:(0:Int)≤(m:Int):=by omega
     have Fu:¬ GB.length≤m:=by omega
     obtain ⟨D5,Cy⟩:=own_get (set:=x) (l:=g) j hjt
     obtain ⟨b1,B6,rfl,Cu,_,cs,_,Bz,Ae⟩:=Bf.out m Do
     obtain ⟨b2,B8,rfl,A2,_,ds,_,Bs,Af⟩:=D9.out j (by rw [own_len];exact hjt)
     rw [Ci] at Bz
     rw [Cy] at Bs
     have B9:=Cq.out _ (List.getElem_mem hjt)
     have Fc:=Hd (fun W (hW:Below wr.heap.size wr W)=>told17_any (Dq w) _ _ 8 _ Q cs ds _ _ x _ _ _ _ _ _ _ _ _ _ _ W (D4.out.ag (Ag.new _ (Bt Ac hW))) (Bz.ag (Ag.new _ (Bt (Bt B2.out Ac) hW))) (Bs.ag (Ag.new _ (Bt Ac hW))) rfl A9 B9.1 Ai B9.2 rfl rfl)
     obtain ⟨_,_,_,_,_,_,_,_,_,_,_,_,rfl⟩:=Bz.shapes
     obtain ⟨_,_,_,_,_,_,_,_,_,_,_,_,rfl⟩:=Bs.shapes
     have Am:=fun o (ho:o < 7)=>((Bt B2.out Ac).cell (p:=⟨b1,B6 + m * 7 + o,none⟩) Cu).trans (Ae o ho)
     have An:=fun o (ho:o < 7)=>(Ac.cell (p:=⟨b2,B8 + j * 7 + o,none⟩) A2).trans (Af o ho)
     have e0:=Am 0 (by omega)
     have e1:=Am 1 (by omega)
     have e2:=Am 2 (by omega)
     have e3:=Am 3 (by omega)
     have e4:=Am 4 (by omega)
     have e5:=Am 5 (by omega)
     have e6:=Am 6 (by omega)
     have g0:=An 0 (by omega)
     have Ef:=An 1 (by omega)
     have g2:=An 2 (by omega)
     have g3:=An 3 (by omega)
     have g4:=An 4 (by omega)
     have g5:=An 5 (by omega)
     have g6:=An 6 (by omega)
     simp only [Nat.add_zero,List.getElem?_cons_zero,List.getElem?_cons_succ] at e0 e1 e2 e3 e4 e5 e6 g0 Ef g2 g3 g4 g5 g6
     have Bx:b1 < wr.heap.size:=Nat.lt_of_lt_of_le Cu (Bt B2.out Ac).size
     have Fk:b2 < wr.heap.size:=Nat.lt_of_lt_of_le A2 Ac.size
     have Aj:=((Bt Az.out Ac).cell (p:=⟨bl,ol + k,none⟩) Av.out).trans Ca.out
     have A0:bl < wr.heap.size:=Nat.lt_of_lt_of_le Av.out (Bt Az.out Ac).size
     have Cw:=Hd (Fa.out.later Ac)
     have Fi:w.heap.size + 1 < wr.heap.size:=Cw.out.lt
     obtain ⟨v0,v1,v2,v3,v4,v5,v6,v7,v8,v9,Ap,Ak,Ao,Ah⟩:=(ca2 Cw.out.k1).1
     clear Am An Ae Af Bz Bs Ac Ci D5 Cy B9 hm
     generalize g[j]=y at *
     go_wp2_with (fail)
     refine Flow.wrf 26 (Flow.sp3 [.inl ?_,.inl ?_,.inl ?_,.inl ?_,.inl ?_,.inl ?_,.inl ?_,.inl ?_,.inl ?_,.inl ?_,.inl ?_,.inl ?_,.inl ?_,.inl ?_,.inl ?_,.inl ?_,.inl ?_,.inl ?_,.inl ?_,.inl ?_,.inl ?_,.inl ?_,.inl ?_,.inl ?_,.inl ?_,.inl ?_]) (by kernel_rfl) (by kernel_rfl) ?mono ?main
     case mono=>
      refine Flow.sm2 ?_
      repeat (first | exact Flow.ln2 | refine Flow.li2 ?_)
     case' main=>skip
     all_goals try simp only [List.take_succ_cons,List.take_zero,List.drop_succ_cons,List.drop_zero]
     iterate 26 (refine Flow.tvK rfl (fun K hK=>⟨fun w hw hG => ?_,?_⟩);(have Aj:=Flow.bc4 hw;clear hG hw;unfold Flow.Runs Flow.yields;go_simp;try rfl);go_simp;refine hK _ ?_;clear hK K)
     refine Flow.tn2 fun w1 Bx hG => ?_
     clear hG
     have Eb:=Hd (Bt Cn.out Bx)
     have D7:=Hd (Fc.out w1 Bx)
     clear Bx
     go_wp2_with (fail)
     go_at_call 25
     refine D7.out.mono ?_
     rintro e w2 ⟨rfl,A2⟩
     have Ea:=Hd (Bt Eb.out A2)
     clear A2
     go_wp2_with (fail)
     go_roundw
     case rel=>exact ⟨j + 1,by omega,by go_num,by rw [show n0 + (j + 1)=m + 1 by have:=HM.out;omega];go_num,Ea.out⟩
     case measure=>simp [intOf];omega
    ·have Em:¬ (j:Int) < (g.length:Int):=by omega
     obtain rfl:j=g.length:=by omega
     rw [← Ab.out]
     clear hjt hj
     go_wp2_with (fail)
     go_roundw
     case rel=>exact ⟨k + 1,by omega,by go_num,rfl,Et.out⟩
     case measure=>simp [intOf];omega
  ·have Dz:¬ (k:Int) < ((Que.sO Q).length:Int):=by omega
   obtain rfl:k=(Que.sO Q).length:=by omega
   rw [B3.out]
   clear hlt hk
   go_wp2_with (fail)
   go_ret
   exact ⟨rfl,Bt B0.out.below C9.out⟩
end Go.Proofs.YtaddkkkchkdgkaaGreatDoor
namespace Go.Proofs.YtaddkkkchkdgkaaGreatDoor
open Go.RowKit Go.Sort
open Tess (Que)
theorem CPW {vs vq vr:Value} {rows0:List Tess.Row} {s0:Tess.Sch} {q0:Que} (w:World) (hV:∃ a0 a1,Lw Lib.goPrintTabs a0 a1 w) (hs:SA (fun _=>True) w vs s0) (hq:QueOk w vq q0) (hr:RowsIn (fun _=>True) w vr rows0) (hrng:∀ r ∈ rows0,r.rng) :
  Calls Tryz.prog 9 #[vs,vq,vr] w fun e w'=>e = .returned (.bool true)∧Below w.heap.size w w':=by
 obtain ⟨a0,a1,hL⟩:=hV
 exact CubePlain_any a0 a1 w hL hs hq hr hrng
end Go.Proofs.YtaddkkkchkdgkaaGreatDoor
