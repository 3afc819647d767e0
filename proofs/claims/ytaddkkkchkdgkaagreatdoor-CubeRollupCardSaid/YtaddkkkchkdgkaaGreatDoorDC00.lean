/- Joined by mergeK2.py: K87, K92 -/
import Derived.Test.YtaddkkkchkdgkaaGreatDoorCC44
import Derived.Test.YtaddkkkchkdgkaaGreatDoorCC48
import Derived.Test.YtaddkkkchkdgkaaGreatDoorCC49
import Derived.Lib.LaidPrint
namespace Go.Proofs.YtaddkkkchkdgkaaGreatDoor
open Go.RowKit Go.Sort
deriving instance DecidableEq for Tess.Val
theorem wide_inj {n m:Int}:(wHi n=wHi m∧wLo n=wLo m)↔n=m:=by
 unfold wHi wLo
 refine ⟨fun h=>by omega,fun h=>by rw [h];exact ⟨rfl,rfl⟩⟩
theorem neq_wide (n m:Int) (W:World):(binOp .neq 60 (.agg #[.int .i64 (wHi n),.int .u64 (wLo n)]) (.agg #[.int .i64 (wHi m),.int .u64 (wLo m)])).run Tryz.prog W = .ok (.bool (!decide (n=m))) W:=by
 rw [run_neq_struct,run_equalIn_agg (d:=9999) _ _ _ _ (by kernel_rfl) (by kernel_rfl)]
 simp [Program.fieldsOf,Op.eqFields,go_sem,Tryz.underlying60,Tryz.underlying2,Tryz.underlying58]
 by_cases h:n=m
 ·subst h;simp
 ·have hw:¬ (wHi n=wHi m∧wLo n=wLo m):=fun e=>h (wide_inj.1 e)
  by_cases h0:wHi n=wHi m <;> by_cases h1:wLo n=wLo m <;> simp [h0,h1,h] <;> exact absurd ⟨h0,h1⟩ hw
set_option maxRecDepth 100000 in
set_option maxHeartbeats 2000000 in
theorem equal_wide (p q:Nat→Prop) (va vb:Value) (l1 l2:List Int) (w:World) (ha:RW2 2 wF p w va l1) (hb:RW2 2 wF q w vb l2) :
  Calls Tryz.prog 41 #[va,vb] w fun e w'=>e = .returned (.bool (decide (l1=l2)))∧Below w.heap.size w w':=by
 obtain ⟨xa,ca,rfl,Al,Am⟩:=ha
 obtain ⟨xb,cb,rfl,An,Ao⟩:=hb
 have Au:l1.length≤9223372036854775807:=by unfold maxLen at Al;omega
 have A1:l2.length≤9223372036854775807:=by unfold maxLen at An;omega
 have Aw:=Hd Am
 have At:=Hd Ao
 clear Am Ao Al An
 by_cases hl:l1.length=l2.length
 ·have As:((l1.length:Int) != (l2.length:Int))=false:=by rw [bne_eq_false_iff_eq];omega
  have HL:=Hd hl
  clear hl
  go_enter Tryz.func41,Tryz.ntmps41
  go_wp2
  go_loopw [13] (fun i wr => ∃ k:Nat,k≤l1.length∧i = .int .i64 k∧(∀ j (h1:j < l1.length) (h2:j < l2.length),j < k→l1[j]=l2[j])∧Below w.heap.size w wr) (fun i _=>l1.length - (intOf i).toNat)
  case atStart=>exact ⟨0,Nat.zero_le _,rfl,fun j _ _ h=>absurd h (Nat.not_lt_zero _),Below.refl _ _⟩
  case round=>
   obtain ⟨k,hk,rfl,Ad,Aq⟩:=hrel
   have Ac:=Hd Ad
   have Ab:=Hd Aq
   clear Ad Aq
   by_cases hlt:k < l1.length
   ·have Ah:k < l2.length:=by have:=HL.out;omega
    obtain ⟨b,Ae,rfl,hb,_,g1⟩:=Aw.out (by omega)
    obtain ⟨b',Aa,rfl,Af,_,g2⟩:=At.out (by omega)
    have Ax:(k:Int) < (l1.length:Int):=by omega
    have A0:(k:Int) < (l2.length:Int):=by omega
    have A3:b < wr.heap.size:=Nat.lt_of_lt_of_le hb Ab.out.size
    have Ay:b' < wr.heap.size:=Nat.lt_of_lt_of_le Af Ab.out.size
    have G1:=g1 k hlt
    have G2:=g2 k Ah
    have Ai:=Hd (show ∀ h:l1[k]=l2[k],∀ j (h1:j < l1.length) (h2:j < l2.length),j < k + 1→l1[j]=l2[j] from fun h j h1 h2 hj=>by
     by_cases hjk:j < k
     ·exact Ac.out j h1 h2 hjk
     ·obtain rfl:j=k:=by omega
      exact h)
    have Ag:=Hd (show l1[k]≠l2[k]→l1≠l2 from fun h e=>h (by subst e;rfl))
    clear g1 g2
    generalize l1[k]=u1 at *
    generalize l2[k]=u2 at *
    have r0:wr.cell? ⟨b,Ae + k * 2,none⟩=some (.int .i64 (wHi u1)):=(Ab.out.cell (p:=⟨b,Ae + k * 2,none⟩) hb).trans (G1 0 (by omega))
    have t0:wr.cell? ⟨b',Aa + k * 2,none⟩=some (.int .i64 (wHi u2)):=(Ab.out.cell (p:=⟨b',Aa + k * 2,none⟩) Af).trans (G2 0 (by omega))
    have r1:wr.cell? ⟨b,Ae + k * 2 + 1,none⟩=some (.int .u64 (wLo u1)):=(Ab.out.cell (p:=⟨b,Ae + k * 2 + 1,none⟩) hb).trans (G1 1 (by omega))
    have t1:wr.cell? ⟨b',Aa + k * 2 + 1,none⟩=some (.int .u64 (wLo u2)):=(Ab.out.cell (p:=⟨b',Aa + k * 2 + 1,none⟩) Af).trans (G2 1 (by omega))
    clear G1 G2
    have Aj:=Hd (fun W=>neq_wide u1 u2 W)
    go_wp2_with (fail)
    refine Flow.wrf 8 (Flow.sp3 [.inl ?_,.inl ?_,.inl ?_,.inl ?_,.inl ?_,.inl ?_,.inl ?_,.inl ?_]) (by kernel_rfl) (by kernel_rfl) ?_ ?_
    rotate_left 8
    ·refine Flow.sm2 ?_
     repeat (first | exact Flow.ln2 | refine Flow.li2 ?_)
    all_goals try simp only [List.take_succ_cons,List.take_zero,List.drop_succ_cons,List.drop_zero]
    iterate 8 (refine Flow.tvK rfl (fun K hK=>⟨fun w hw hG => ?_,?_⟩);(have A2:=Flow.bc4 hw;clear hG hw;unfold Flow.Runs Flow.yields;go_simp;try rfl);go_simp;refine hK _ ?_;clear hK K)
    refine Flow.tn2 fun w2 hw2 hG => ?_
    clear hG
    have Ak:=Hd (Bt Ab.out hw2)
    clear hw2
    have Ap:=Aj.out
    by_cases he:u1=u2
    ·rw [decide_eq_true he] at Ap
     have Az:=Hd (Ai.out he)
     clear he Aj
     go_wp2
     go_roundw
     case rel=>exact ⟨k + 1,by omega,by go_num,Az.out,Ak.out⟩
     case measure=>simp [intOf];omega
    ·rw [decide_eq_false he] at Ap
     have Av:=Hd (Ag.out he)
     clear he Aj
     go_wp2
     go_ret
     exact ⟨retB (decide_eq_false Av.out).symm,Ak.out⟩
   ·have Ax:¬ (k:Int) < (l1.length:Int):=by omega
    have Ar:=Hd (show l1=l2 from List.ext_getElem HL.out fun j h1 h2=>Ac.out j h1 h2 (by omega))
    go_wp2
    go_ret
    exact ⟨retB (decide_eq_true Ar.out).symm,Ab.out⟩
 ·have As:((l1.length:Int) != (l2.length:Int))=true:=by rw [bne_iff_ne];omega
  have HN:=Hd (show l1≠l2 from fun e=>hl (by rw [e]))
  clear hl
  go_enter Tryz.func41,Tryz.ntmps41
  go_wp2
  go_ret
  exact ⟨retB (decide_eq_false HN.out).symm,Below.refl _ _⟩
set_option maxRecDepth 100000 in
set_option maxHeartbeats 2000000 in
theorem equal_int (p q:Nat→Prop) (va vb:Value) (l1 l2:List Int) (w:World) (ha:RW2 1 intF p w va l1) (hb:RW2 1 intF q w vb l2) :
  Calls Tryz.prog 42 #[va,vb] w fun e w'=>e = .returned (.bool (decide (l1=l2)))∧Below w.heap.size w w':=by
 obtain ⟨xa,ca,rfl,Ak,Al⟩:=ha
 obtain ⟨xb,cb,rfl,An,Ao⟩:=hb
 have Au:l1.length≤9223372036854775807:=by unfold maxLen at Ak;omega
 have A1:l2.length≤9223372036854775807:=by unfold maxLen at An;omega
 have Aw:=Hd Al
 have At:=Hd Ao
 clear Al Ao Ak An
 by_cases hl:l1.length=l2.length
 ·have As:((l1.length:Int) != (l2.length:Int))=false:=by rw [bne_eq_false_iff_eq];omega
  have HL:=Hd hl
  clear hl
  go_enter Tryz.func42,Tryz.ntmps42
  go_wp2
  go_loopw [13] (fun i wr => ∃ k:Nat,k≤l1.length∧i = .int .i64 k∧(∀ j (h1:j < l1.length) (h2:j < l2.length),j < k→l1[j]=l2[j])∧Below w.heap.size w wr) (fun i _=>l1.length - (intOf i).toNat)
  case atStart=>exact ⟨0,Nat.zero_le _,rfl,fun j _ _ h=>absurd h (Nat.not_lt_zero _),Below.refl _ _⟩
  case round=>
   obtain ⟨k,hk,rfl,Ac,Aq⟩:=hrel
   have Ab:=Hd Ac
   have Aa:=Hd Aq
   clear Ac Aq
   by_cases hlt:k < l1.length
   ·have Af:k < l2.length:=by have:=HL.out;omega
    obtain ⟨b,Am,rfl,hb,_,g1⟩:=Aw.out (by omega)
    obtain ⟨b',Ad,rfl,Ai,_,g2⟩:=At.out (by omega)
    have Ax:(k:Int) < (l1.length:Int):=by omega
    have A0:(k:Int) < (l2.length:Int):=by omega
    have A3:b < wr.heap.size:=Nat.lt_of_lt_of_le hb Aa.out.size
    have Ay:b' < wr.heap.size:=Nat.lt_of_lt_of_le Ai Aa.out.size
    have G1:=g1 k hlt
    have G2:=g2 k Af
    have Ag:=Hd (show ∀ h:l1[k]=l2[k],∀ j (h1:j < l1.length) (h2:j < l2.length),j < k + 1→l1[j]=l2[j] from fun h j h1 h2 hj=>by
     by_cases hjk:j < k
     ·exact Ab.out j h1 h2 hjk
     ·obtain rfl:j=k:=by omega
      exact h)
    have Ae:=Hd (show l1[k]≠l2[k]→l1≠l2 from fun h e=>h (by subst e;rfl))
    clear g1 g2
    generalize l1[k]=u1 at *
    generalize l2[k]=u2 at *
    have r0:wr.cell? ⟨b,Am + k,none⟩=some (.int .i64 u1):=by simpa [intF] using (Aa.out.cell (p:=⟨b,Am + k * 1 + 0,none⟩) hb).trans (G1 0 (by omega))
    have t0:wr.cell? ⟨b',Ad + k,none⟩=some (.int .i64 u2):=by simpa [intF] using (Aa.out.cell (p:=⟨b',Ad + k * 1 + 0,none⟩) Ai).trans (G2 0 (by omega))
    clear G1 G2
    have Ah:=Hd (show (u1 != u2)=(!decide (u1=u2)) by by_cases h:u1=u2 <;> simp [bne,h])
    go_wp2_with (fail)
    refine Flow.wrf 8 (Flow.sp3 [.inl ?_,.inl ?_,.inl ?_,.inl ?_,.inl ?_,.inl ?_,.inl ?_,.inl ?_]) (by kernel_rfl) (by kernel_rfl) ?_ ?_
    rotate_left 8
    ·refine Flow.sm2 ?_
     repeat (first | exact Flow.ln2 | refine Flow.li2 ?_)
    all_goals try simp only [List.take_succ_cons,List.take_zero,List.drop_succ_cons,List.drop_zero]
    iterate 8 (refine Flow.tvK rfl (fun K hK=>⟨fun w hw hG => ?_,?_⟩);(have A2:=Flow.bc4 hw;clear hG hw;unfold Flow.Runs Flow.yields;go_simp;try rfl);go_simp;refine hK _ ?_;clear hK K)
    refine Flow.tn2 fun w2 hw2 hG => ?_
    clear hG
    have Aj:=Hd (Bt Aa.out hw2)
    clear hw2
    have Ap:=Ah.out
    by_cases he:u1=u2
    ·rw [decide_eq_true he] at Ap
     have Az:=Hd (Ag.out he)
     clear he Ah
     go_wp2
     go_roundw
     case rel=>exact ⟨k + 1,by omega,by go_num,Az.out,Aj.out⟩
     case measure=>simp [intOf];omega
    ·rw [decide_eq_false he] at Ap
     have Av:=Hd (Ae.out he)
     clear he Ah
     go_wp2
     go_ret
     exact ⟨retB (decide_eq_false Av.out).symm,Aj.out⟩
   ·have Ax:¬ (k:Int) < (l1.length:Int):=by omega
    have Ar:=Hd (show l1=l2 from List.ext_getElem HL.out fun j h1 h2=>Ab.out j h1 h2 (by omega))
    go_wp2
    go_ret
    exact ⟨retB (decide_eq_true Ar.out).symm,Aa.out⟩
 ·have As:((l1.length:Int) != (l2.length:Int))=true:=by rw [bne_iff_ne];omega
  have HN:=Hd (show l1≠l2 from fun e=>hl (by rw [e]))
  clear hl
  go_enter Tryz.func42,Tryz.ntmps42
  go_wp2
  go_ret
  exact ⟨retB (decide_eq_false HN.out).symm,Below.refl _ _⟩
end Go.Proofs.YtaddkkkchkdgkaaGreatDoor
namespace Tess
open Go Kl
theorem sr2:∀ (l:List Nat) (a n:Nat),l.Pairwise (· < ·)→(∀ x ∈ l,a≤x∧x < a + n)→l.Sublist (List.range' a n)
 | [],_,_,_,_=>List.nil_sublist _
 | x :: l,a,0,_,h=>by have:=h x (by simp);omega
 | x :: l,a,n + 1,hp,h=>by
   obtain ⟨h1,h2⟩:=List.pairwise_cons.1 hp
   have hx:=h x (by simp)
   rw [List.range'_succ]
   by_cases e:x=a
   ·subst e
    exact (sr2 l (x + 1) n h2 fun y hy=>by have:=h1 y hy;have:=h y (by simp [hy]);omega).cons_cons x
   ·exact (sr2 (x :: l) (a + 1) n hp fun y hy=>by
     have:=h y hy
     rcases List.mem_cons.1 hy with rfl | hy
     ·omega
     ·have:=h1 y hy;omega).cons a
theorem sub_flat {α β:Type} (f:α→List β) {l m:List α} (h:l.Sublist m):(l.flatMap f).Sublist (m.flatMap f):=by
 induction h with
 | slnil=>exact List.Sublist.refl _
 | cons a _ ih=>rw [List.flatMap_cons];exact ih.trans (List.sublist_append_right _ _)
 | cons_cons a _ ih=>rw [List.flatMap_cons,List.flatMap_cons];exact List.Sublist.append (List.Sublist.refl _) ih
theorem rollup_sets (n:Nat):((List.range (n + 1)).map fun k=>2 ^ n - 2 ^ (n - k)).Sublist (List.range (2 ^ n)):=by
 rw [List.range_eq_range' (n:=2 ^ n)]
 refine sr2 _ 0 _ ?_ fun x hx => ?_
 ·rw [List.pairwise_map]
  refine List.Pairwise.imp_of_mem ?_ (List.pairwise_lt_range (n:=n + 1))
  intro a b ha hb Ab
  have Aa:b < n + 1:=List.mem_range.1 hb
  have h1:2 ^ (n - b) < 2 ^ (n - a):=Nat.pow_lt_pow_right (by omega) (by omega)
  have h2:2 ^ (n - a)≤2 ^ n:=Nat.pow_le_pow_right (by omega) (by omega)
  omega
 ·obtain ⟨k,hk,rfl⟩:=List.mem_map.1 hx
  have:=Nat.two_pow_pos (n - k)
  have:=Nat.two_pow_pos n
  omega
theorem run_sub (s:Sch) (q:Que) (C:List (CK×Pay)):(runP s { q with sets:=[],mode:=3 } C).Sublist (runP s { q with sets:=[],mode:=2 } C):=by
 unfold runP
 have e3:Que.sO { q with sets:=[],mode:=3 }=(List.range (q.names.length + 1)).map fun k=>2 ^ q.names.length - 2 ^ (q.names.length - k):=rfl
 have e2:Que.sO { q with sets:=[],mode:=2 }=List.range (2 ^ q.names.length):=rfl
 rw [e3,e2]
 exact sub_flat _ (rollup_sets q.names.length)
end Tess
namespace Go.Proofs.YtaddkkkchkdgkaaGreatDoor
open Go.RowKit Go.Sort
open Tess (CK Pay)
def sameB (x y:Int×CK×Pay):Bool:=oneB x y && (decide (x.2.2.n=y.2.2.n) && (decide (x.2.2.sums=y.2.2.sums) && (decide (x.2.2.mins=y.2.2.mins) && decide (x.2.2.maxs=y.2.2.maxs))))
theorem sameB_iff {x y:Int×CK×Pay}:sameB x y=true↔x=y:=by
 unfold sameB
 simp only [Bool.and_eq_true,decide_eq_true_eq,oBi]
 constructor
 ·rintro ⟨⟨h1,h2⟩,h3,h4,h5,h6⟩
  obtain ⟨a,b,⟨n,s,m,t⟩⟩:=x
  obtain ⟨a',b',⟨n',s',m',t'⟩⟩:=y
  simp only at h1 h2 h3 h4 h5 h6
  subst h1 h2 h3 h4 h5 h6
  rfl
 ·rintro rfl
  exact ⟨⟨rfl,rfl⟩,rfl,rfl,rfl,rfl⟩
set_option maxRecDepth 100000 in
set_option maxHeartbeats 8000000 in
theorem gsame_any (p q:Nat→Prop) (cs ds:List Value) (x y:Int×CK×Pay) (w:World) (hx:GA2 p w cs x) (hy:GA2 q w ds y) :
  Calls Tryz.prog 20 #[.agg cs.toArray,.agg ds.toArray] w fun e w'=>e = .returned (.bool (sameB x y))∧Below w.heap.size w w':=by
 have Am:=Hd (fun W (hB:Below w.heap.size w W)=>isOne_any p q cs ds x y W (hx.ag (Ag.new p hB)) (hy.ag (Ag.new q hB)))
 obtain ⟨vd,vs,vm,vx,rfl,hd,hp⟩:=hx
 obtain ⟨ud,us,um,ux,rfl,he,hq⟩:=hy
 have Aq:=Hd (fun W (hB:Below w.heap.size w W)=>equal_wide p q vs us _ _ W (hp.sums.ag (Ag.new p hB)).w (hq.sums.ag (Ag.new q hB)).w)
 have Ar:=Hd (fun W (hB:Below w.heap.size w W)=>equal_int p q vm um _ _ W (hp.mins.ag (Ag.new p hB)).w (hq.mins.ag (Ag.new q hB)).w)
 have As:=Hd (fun W (hB:Below w.heap.size w W)=>equal_int p q vx ux _ _ W (hp.maxs.ag (Ag.new p hB)).w (hq.maxs.ag (Ag.new q hB)).w)
 obtain ⟨a2,c2,rfl⟩:=hd.shape
 obtain ⟨a4,c4,rfl⟩:=hp.sums.shape
 obtain ⟨a5,c5,rfl⟩:=hp.mins.shape
 obtain ⟨a6,c6,rfl⟩:=hp.maxs.shape
 obtain ⟨b2,d2,rfl⟩:=he.shape
 obtain ⟨b4,d4,rfl⟩:=hq.sums.shape
 obtain ⟨b5,d5,rfl⟩:=hq.mins.shape
 obtain ⟨b6,d6,rfl⟩:=hq.maxs.shape
 clear hd hp he hq
 unfold sameB
 generalize oneB x y=r1 at *
 generalize decide (x.2.2.sums=y.2.2.sums)=r2 at *
 generalize decide (x.2.2.mins=y.2.2.mins)=r3 at *
 generalize decide (x.2.2.maxs=y.2.2.maxs)=r4 at *
 generalize (x.2.1.2.map Tess.valOf).length=n2 at *
 generalize (y.2.1.2.map Tess.valOf).length=m2 at *
 generalize x.2.2.sums.length=n4 at *
 generalize x.2.2.mins.length=n5 at *
 generalize x.2.2.maxs.length=n6 at *
 generalize y.2.2.sums.length=m4 at *
 generalize y.2.2.mins.length=m5 at *
 generalize y.2.2.maxs.length=m6 at *
 generalize x.1=s1 at *
 generalize y.1=s2 at *
 generalize x.2.1.1=t1 at *
 generalize y.2.1.1=t2 at *
 generalize x.2.2.n=z1 at *
 generalize y.2.2.n=z2 at *
 obtain ⟨W0,Al⟩:∃ W0,(w.alloc (.cells #[.int .i64 s1,.int .i64 t1,.slice a2 n2 c2,.int .i64 z1,.slice a4 n4 c4,.slice a5 n5 c5,.slice a6 n6 c6] 56)).alloc (.cells #[.int .i64 s2,.int .i64 t2,.slice b2 m2 d2,.int .i64 z2,.slice b4 m4 d4,.slice b5 m5 d5,.slice b6 m6 d6] 56)=W0:=⟨_,rfl⟩
 obtain ⟨k0,k1,kS,kB⟩:=la3 w (.cells #[.int .i64 s1,.int .i64 t1,.slice a2 n2 c2,.int .i64 z1,.slice a4 n4 c4,.slice a5 n5 c5,.slice a6 n6 c6] 56) (.cells #[.int .i64 s2,.int .i64 t2,.slice b2 m2 d2,.int .i64 z2,.slice b4 m4 d4,.slice b5 m5 d5,.slice b6 m6 d6] 56)
 rw [Al] at k0 k1 kS kB
 obtain ⟨⟨x0,x1,x2,x3,x4,x5,x6⟩,_⟩:=can7 k0
 obtain ⟨⟨y0,y1,y2,y3,y4,y5,y6⟩,_⟩:=can7 k1
 have Aj:=Hd k0
 have Ai:=Hd k1
 have HB:=Hd kB
 clear k0 k1 kS kB
 cases r1
 ·rw [Bool.false_and]
  go_enter Tryz.func20,Tryz.ntmps20
  go_wp2_with (fail)
  go_at_call 40
  refine (Am.out _ HB.out).mono ?_
  rintro e w1 ⟨rfl,hb⟩
  have Ah:=Hd (Bt HB.out hb)
  have h0:=(hb.block _ (Array.getElem?_eq_some_iff.1 Aj.out).1).trans Aj.out
  have h1:=(hb.block _ (Array.getElem?_eq_some_iff.1 Ai.out).1).trans Ai.out
  have Aa:=Hd h0
  have Ab:=Hd h1
  clear x0 x1 x2 x3 x4 x5 x6 y0 y1 y2 y3 y4 y5 y6
  obtain ⟨⟨x0,x1,x2,x3,x4,x5,x6⟩,_⟩:=can7 h0
  obtain ⟨⟨y0,y1,y2,y3,y4,y5,y6⟩,_⟩:=can7 h1
  clear hb h0 h1
  clear Al
  go_wp2_with (fail)
  go_ret
  exact ⟨rfl,Ah.out⟩
 rw [Bool.true_and]
 by_cases hz:z1=z2
 rotate_left
 ·have ez:(z1 == z2)=false:=by simp [hz]
  rw [decide_eq_false hz,Bool.false_and]
  clear hz
  go_enter Tryz.func20,Tryz.ntmps20
  go_wp2_with (fail)
  go_at_call 40
  refine (Am.out _ HB.out).mono ?_
  rintro e w1 ⟨rfl,hb⟩
  have Ah:=Hd (Bt HB.out hb)
  have h0:=(hb.block _ (Array.getElem?_eq_some_iff.1 Aj.out).1).trans Aj.out
  have h1:=(hb.block _ (Array.getElem?_eq_some_iff.1 Ai.out).1).trans Ai.out
  have Aa:=Hd h0
  have Ab:=Hd h1
  clear x0 x1 x2 x3 x4 x5 x6 y0 y1 y2 y3 y4 y5 y6
  obtain ⟨⟨x0,x1,x2,x3,x4,x5,x6⟩,_⟩:=can7 h0
  obtain ⟨⟨y0,y1,y2,y3,y4,y5,y6⟩,_⟩:=can7 h1
  clear hb h0 h1
  clear Al
  go_wp2_with (fail)
  go_ret
  exact ⟨rfl,Ah.out⟩
 have ez:(z1 == z2)=true:=by rw [hz];simp
 rw [decide_eq_true hz,Bool.true_and]
 clear hz
 cases r2
 ·rw [Bool.false_and]
  go_enter Tryz.func20,Tryz.ntmps20
  go_wp2_with (fail)
  go_at_call 40
  refine (Am.out _ HB.out).mono ?_
  rintro e w1 ⟨rfl,hb⟩
  have Ah:=Hd (Bt HB.out hb)
  have h0:=(hb.block _ (Array.getElem?_eq_some_iff.1 Aj.out).1).trans Aj.out
  have h1:=(hb.block _ (Array.getElem?_eq_some_iff.1 Ai.out).1).trans Ai.out
  have Aa:=Hd h0
  have Ab:=Hd h1
  clear x0 x1 x2 x3 x4 x5 x6 y0 y1 y2 y3 y4 y5 y6
  obtain ⟨⟨x0,x1,x2,x3,x4,x5,x6⟩,_⟩:=can7 h0
  obtain ⟨⟨y0,y1,y2,y3,y4,y5,y6⟩,_⟩:=can7 h1
  clear hb h0 h1
  clear Al
  go_wp2_with (fail)
  go_at_call 41
  refine (Aq.out _ Ah.out).mono ?_
  rintro e w2 ⟨rfl,hb⟩
  have Ak:=Hd (Bt Ah.out hb)
  have h0:=(hb.block _ (Array.getElem?_eq_some_iff.1 Aa.out).1).trans Aa.out
  have h1:=(hb.block _ (Array.getElem?_eq_some_iff.1 Ab.out).1).trans Ab.out
  have Ac:=Hd h0
  have Ad:=Hd h1
  clear x0 x1 x2 x3 x4 x5 x6 y0 y1 y2 y3 y4 y5 y6
  obtain ⟨⟨x0,x1,x2,x3,x4,x5,x6⟩,_⟩:=can7 h0
  obtain ⟨⟨y0,y1,y2,y3,y4,y5,y6⟩,_⟩:=can7 h1
  clear hb h0 h1
  go_wp2_with (fail)
  go_ret
  exact ⟨rfl,Ak.out⟩
 rw [Bool.true_and]
 cases r3
 ·rw [Bool.false_and]
  go_enter Tryz.func20,Tryz.ntmps20
  go_wp2_with (fail)
  go_at_call 40
  refine (Am.out _ HB.out).mono ?_
  rintro e w1 ⟨rfl,hb⟩
  have Ah:=Hd (Bt HB.out hb)
  have h0:=(hb.block _ (Array.getElem?_eq_some_iff.1 Aj.out).1).trans Aj.out
  have h1:=(hb.block _ (Array.getElem?_eq_some_iff.1 Ai.out).1).trans Ai.out
  have Aa:=Hd h0
  have Ab:=Hd h1
  clear x0 x1 x2 x3 x4 x5 x6 y0 y1 y2 y3 y4 y5 y6
  obtain ⟨⟨x0,x1,x2,x3,x4,x5,x6⟩,_⟩:=can7 h0
  obtain ⟨⟨y0,y1,y2,y3,y4,y5,y6⟩,_⟩:=can7 h1
  clear hb h0 h1
  clear Al
  go_wp2_with (fail)
  go_at_call 41
  refine (Aq.out _ Ah.out).mono ?_
  rintro e w2 ⟨rfl,hb⟩
  have Ak:=Hd (Bt Ah.out hb)
  have h0:=(hb.block _ (Array.getElem?_eq_some_iff.1 Aa.out).1).trans Aa.out
  have h1:=(hb.block _ (Array.getElem?_eq_some_iff.1 Ab.out).1).trans Ab.out
  have Ac:=Hd h0
  have Ad:=Hd h1
  clear x0 x1 x2 x3 x4 x5 x6 y0 y1 y2 y3 y4 y5 y6
  obtain ⟨⟨x0,x1,x2,x3,x4,x5,x6⟩,_⟩:=can7 h0
  obtain ⟨⟨y0,y1,y2,y3,y4,y5,y6⟩,_⟩:=can7 h1
  clear hb h0 h1
  go_wp2_with (fail)
  go_at_call 42
  refine (Ar.out _ Ak.out).mono ?_
  rintro e w3 ⟨rfl,hb⟩
  have An:=Hd (Bt Ak.out hb)
  have h0:=(hb.block _ (Array.getElem?_eq_some_iff.1 Ac.out).1).trans Ac.out
  have h1:=(hb.block _ (Array.getElem?_eq_some_iff.1 Ad.out).1).trans Ad.out
  have Ae:=Hd h0
  have Af:=Hd h1
  clear x0 x1 x2 x3 x4 x5 x6 y0 y1 y2 y3 y4 y5 y6
  obtain ⟨⟨x0,x1,x2,x3,x4,x5,x6⟩,_⟩:=can7 h0
  obtain ⟨⟨y0,y1,y2,y3,y4,y5,y6⟩,_⟩:=can7 h1
  clear hb h0 h1
  go_wp2_with (fail)
  go_ret
  exact ⟨rfl,An.out⟩
 rw [Bool.true_and]
 go_enter Tryz.func20,Tryz.ntmps20
 go_wp2_with (fail)
 go_at_call 40
 refine (Am.out _ HB.out).mono ?_
 rintro e w1 ⟨rfl,hb⟩
 have Ah:=Hd (Bt HB.out hb)
 have h0:=(hb.block _ (Array.getElem?_eq_some_iff.1 Aj.out).1).trans Aj.out
 have h1:=(hb.block _ (Array.getElem?_eq_some_iff.1 Ai.out).1).trans Ai.out
 have Aa:=Hd h0
 have Ab:=Hd h1
 clear x0 x1 x2 x3 x4 x5 x6 y0 y1 y2 y3 y4 y5 y6
 obtain ⟨⟨x0,x1,x2,x3,x4,x5,x6⟩,_⟩:=can7 h0
 obtain ⟨⟨y0,y1,y2,y3,y4,y5,y6⟩,_⟩:=can7 h1
 clear hb h0 h1
 clear Al
 go_wp2_with (fail)
 go_at_call 41
 refine (Aq.out _ Ah.out).mono ?_
 rintro e w2 ⟨rfl,hb⟩
 have Ak:=Hd (Bt Ah.out hb)
 have h0:=(hb.block _ (Array.getElem?_eq_some_iff.1 Aa.out).1).trans Aa.out
 have h1:=(hb.block _ (Array.getElem?_eq_some_iff.1 Ab.out).1).trans Ab.out
 have Ac:=Hd h0
 have Ad:=Hd h1
 clear x0 x1 x2 x3 x4 x5 x6 y0 y1 y2 y3 y4 y5 y6
 obtain ⟨⟨x0,x1,x2,x3,x4,x5,x6⟩,_⟩:=can7 h0
 obtain ⟨⟨y0,y1,y2,y3,y4,y5,y6⟩,_⟩:=can7 h1
 clear hb h0 h1
 go_wp2_with (fail)
 go_at_call 42
 refine (Ar.out _ Ak.out).mono ?_
 rintro e w3 ⟨rfl,hb⟩
 have An:=Hd (Bt Ak.out hb)
 have h0:=(hb.block _ (Array.getElem?_eq_some_iff.1 Ac.out).1).trans Ac.out
 have h1:=(hb.block _ (Array.getElem?_eq_some_iff.1 Ad.out).1).trans Ad.out
 have Ae:=Hd h0
 have Af:=Hd h1
 clear x0 x1 x2 x3 x4 x5 x6 y0 y1 y2 y3 y4 y5 y6
 obtain ⟨⟨x0,x1,x2,x3,x4,x5,x6⟩,_⟩:=can7 h0
 obtain ⟨⟨y0,y1,y2,y3,y4,y5,y6⟩,_⟩:=can7 h1
 clear hb h0 h1
 go_wp2_with (fail)
 go_at_call 42
 refine (As.out _ An.out).mono ?_
 rintro e w4 ⟨rfl,hb⟩
 have At:=Hd (Bt An.out hb)
 have h0:=(hb.block _ (Array.getElem?_eq_some_iff.1 Ae.out).1).trans Ae.out
 have h1:=(hb.block _ (Array.getElem?_eq_some_iff.1 Af.out).1).trans Af.out
 have Ap:=Hd h0
 have Ao:=Hd h1
 clear x0 x1 x2 x3 x4 x5 x6 y0 y1 y2 y3 y4 y5 y6
 obtain ⟨⟨x0,x1,x2,x3,x4,x5,x6⟩,_⟩:=can7 h0
 obtain ⟨⟨y0,y1,y2,y3,y4,y5,y6⟩,_⟩:=can7 h1
 clear hb h0 h1
 go_wp2_with (fail)
 go_ret
 exact ⟨rfl,At.out⟩
end Go.Proofs.YtaddkkkchkdgkaaGreatDoor
namespace Tess
open Go
namespace Que
theorem check_mode (s:Sch) (q:Que):check s { q with sets:=[],mode:=2 }=check s { q with sets:=[],mode:=3 }:=by
 unfold check isOf sO4
 simp [within]
end Que
end Tess
namespace Go.Proofs.YtaddkkkchkdgkaaGreatDoor
open Go.RowKit Go.Sort
open Tess (Fil Que)
section
variable {p:Nat→Prop} {n:Nat} {w:World} {v:Value} {q:Que} {va vb vS f0 f1 f2 f3 f4 f5 vh vo:Value}
theorem QA.mod (h:QA p n w v q va vb vS f0 f1 f2 f3 f4 f5 vh vo) (mode:Int) {vS':Value} {sets:List (List ByteArray)} (hS:SA2 p w vS' sets) :
  QA p n w (.agg #[va,vb,.int .i64 mode,vS',.int .i64 q.every,f0,f1,f2,f3,f4,f5,vh,vo,.int .i64 q.limit]) { q with sets:=sets,mode:=mode } va vb vS' f0 f1 f2 f3 f4 f5 vh vo:=
 ⟨rfl,h.aggs,h.mets,h.names,h.small,hS,h.fil,h.conds,h.keys⟩
end
section
variable {w W W':World} {sc qc:Array Value}
end
end Go.Proofs.YtaddkkkchkdgkaaGreatDoor
namespace Go.Proofs.YtaddkkkchkdgkaaGreatDoor
open Go.RowKit Go.Sort
open Tess (CK Pay PO CO2 CO Que ckLt gP gOf)
theorem runG_sub (s:Tess.Sch) (q:Que) (C:List (CK×Pay)):(runG s { q with sets:=[],mode:=3 } C).Sublist (runG s { q with sets:=[],mode:=2 } C):=by
 rw [rGr,rGr]
 exact (Tess.run_sub s q C).map _
theorem runE_sub (s:Tess.Sch) (q:Que) (C:List (CK×Pay)) :
  runE s { q with sets:=[],mode:=3 } C=runE s { q with sets:=[],mode:=2 } C∨runE s { q with sets:=[],mode:=2 } C=160:=by
 have hl:=(runG_sub s q C).length_le
 have hc:=Que.check_mode s q
 unfold runE
 rw [hc]
 by_cases h0:Que.check s { q with sets:=[],mode:=3 }=0
 ·have e0:¬ ((0:Nat)≠0):=by simp
  rw [h0]
  simp only [if_neg e0]
  by_cases h2:3000 < (runG s { q with sets:=[],mode:=2 } C).length
  ·exact .inr (if_pos h2)
  ·rw [if_neg h2,if_neg (show ¬ 3000 < (runG s { q with sets:=[],mode:=3 } C).length by omega)]
   exact .inl rfl
 ·rw [if_pos h0,if_pos h0]
  exact .inl rfl
end Go.Proofs.YtaddkkkchkdgkaaGreatDoor
namespace Go.Proofs.YtaddkkkchkdgkaaGreatDoor
open Go.RowKit Go.Sort Go.Shelf
open Tess (Fil Que CK Pay CO2 CO gP)
theorem sub_ne {α:Type} {x y:α} {r t:List α} (h:(x :: r).Sublist (y :: t)) (hn:x≠y):(x :: r).Sublist t:=by
 cases h with
 | cons _ h=>exact h
 | cons_cons _ h=>exact absurd rfl hn
theorem sub_tail {α:Type} {x:α} {r t:List α} (h:(x :: r).Sublist t):r.Sublist t:=(List.sublist_cons_self x r).trans h
set_option maxRecDepth 100000 in
set_option maxHeartbeats 16000000 in
theorem CRa {T:Lib.PrintTabs} (a0 a1:Addr) {vs vq vr:Value} {rows0:List Tess.Row} {s0:Tess.Sch} {q0:Que} (w:World) (hL:Lw T a0 a1 w) (hs:SA (fun _=>True) w vs s0) (hq:QueOk w vq q0) (hr:RowsIn (fun _=>True) w vr rows0) (hrng:∀ r ∈ rows0,r.rng) :
  Calls Tryz.prog 8 #[vs,vq,vr] w fun e w'=>e = .returned (.bool true)∧Below w.heap.size w w':=by
 obtain ⟨⟨n,va,vb,vS,f0,f1,f2,f3,f4,f5,vh,vo,hq⟩,hK⟩:=hq
 have hs:=hs.ltK
 have D7:=Hd hr.ltR
 clear hr
 have hq:=hq.ltQ
 obtain ⟨vd,vm,rfl,hd,hm,A9,Bf⟩:=hs
 have HS:=Hd (show SA (fun b=>True∧b < w.heap.size) w (.agg #[vd,vm,.int .i64 s0.grain]) s0 from ⟨vd,vm,rfl,hd,hm,A9,Bf⟩)
 obtain ⟨ad,Bl,rfl,_⟩:=sl3 hd
 obtain ⟨am,Bi,rfl,_⟩:=sl3 hm
 have hv:=hq.e
 subst hv
 obtain ⟨ab,cb,rfl,_,Av⟩:=so2 hq.names.1
 obtain ⟨aa,ca,rfl⟩:=hq.aggs.shape
 obtain ⟨aS,cS,rfl⟩:=hq.sets.shape
 obtain ⟨ah,ch,rfl⟩:=hq.conds.shape
 obtain ⟨ao,co,rfl⟩:=hq.keys.shape
 obtain ⟨z0,z1,z2,z3,z4,ez⟩:=FA2.sh2 hq.fil
 simp only [Value.agg.injEq,Array.mk.injEq,List.cons.injEq,and_true] at ez
 obtain ⟨rfl,rfl,rfl,rfl,rfl,rfl⟩:=ez
 have HQ:=Hd hq
 have HL:=Hd hL
 clear hd hm A9 Bf Av hq hL
 have Cp:kO2 (Que.few q0).fil:=kf2 _ hK
 obtain ⟨W0,Dg⟩:∃ W0,(w.alloc (.cells #[.slice ad s0.dims.length Bl,.slice am s0.mets.length Bi,.int .i64 s0.grain] 24)).alloc (.cells #[.slice aa q0.aggs.length ca,.slice ab q0.names.length cb,.int .i64 q0.mode,.slice aS q0.sets.length cS,.int .i64 q0.every,.int .i64 q0.fil.kind,.string q0.fil.name,.slice z0 z1 z2,.int .i64 q0.fil.frm,.int .i64 q0.fil.to,.slice z3 q0.fil.l.length z4,.slice ah q0.conds.length ch,.slice ao q0.keys.length co,.int .i64 q0.limit] 35)=W0:=⟨_,rfl⟩
 obtain ⟨k0,k1,kS,kB⟩:=la3 w (.cells #[.slice ad s0.dims.length Bl,.slice am s0.mets.length Bi,.int .i64 s0.grain] 24) (.cells #[.slice aa q0.aggs.length ca,.slice ab q0.names.length cb,.int .i64 q0.mode,.slice aS q0.sets.length cS,.int .i64 q0.every,.int .i64 q0.fil.kind,.string q0.fil.name,.slice z0 z1 z2,.int .i64 q0.fil.frm,.int .i64 q0.fil.to,.slice z3 q0.fil.l.length z4,.slice ah q0.conds.length ch,.slice ao q0.keys.length co,.int .i64 q0.limit] 35)
 rw [Dg] at k0 k1 kS kB
 have Ca:=Hd (show Bq w _ _ W0 from ⟨k0,k1,kB⟩)
 clear k0 k1 kS kB
 go_enter Tryz.func8,Tryz.ntmps8
 go_wp2_with (fail)
 go_at_call 21
 refine (sa3 a0 a1 W0 (HL.out.below Ca.out.below).vars).mono ?_
 rintro e W1 ⟨rfl,Di⟩
 have A7:=Hd (Ca.out.later Di)
 clear Di Ca Dg
 obtain ⟨⟨x0,x1,x2⟩,x3,x4,x5⟩:=can3 A7.out.k0
 go_wp2_with (fail)
 go_at_call 11
 refine (cSa _ s0 W1 _ (HS.out.ag (Ag.new _ A7.out.below))).mono ?_
 rintro e W2 ⟨Fc,rfl,Bs,C8⟩
 have Ch:=A7.out.later C8
 have Bs:=Bs.weak (q:=Dq w) (Dq.of A7.out.lt)
 obtain ⟨s,C3⟩:∃ s,cutSch s0=s:=⟨_,rfl⟩
 rw [C3] at Bs
 clear C3
 obtain ⟨Aj,Dh,rfl,hd,hm,A9,Bf⟩:=Bs
 have Db:=Hd (show SA (Dq w) W2 (.agg #[Aj,Dh,.int .i64 s.grain]) s from ⟨Aj,Dh,rfl,hd,hm,A9,Bf⟩)
 obtain ⟨Ep,Bc,rfl,_⟩:=sl3 hd
 obtain ⟨Eo,Bk,rfl,_⟩:=sl3 hm
 obtain ⟨W3,Ej,Aq,Dl⟩:=Ch.put0 (.slice Ep s.dims.length Bc) (.slice Eo s.mets.length Bk) (.int .i64 s.grain)
 have C2:=Hd (Db.out.ag Dl)
 have Aq:=Hd Aq
 clear x0 x1 x2 x3 x4 x5 hd hm A9 Bf C8 Db Dl A7
 obtain ⟨⟨x0,x1,x2⟩,x3,x4,x5⟩:=can3 Ch.k0
 obtain ⟨y0,y1,y2,y3,y4,y5,y6,y7,y8,y9,ya,yb,yc,yd⟩:=(ca2 Aq.out.k1).1
 clear Ch
 go_wp2_with (fail)
 go_at_call 12
 refine (fa10 _ n _ q0 _ _ _ _ _ _ _ _ _ _ _ W3 (HQ.out.ag (Ag.new _ Aq.out.below))).mono ?_
 rintro e W4 ⟨v',ua,ub,uS,g0,g1,g2,g3,g4,g5,uh,uo,rfl,Ad,Ar,B6⟩
 have Br:=Aq.out.later B6
 have Ad:=Ad.weak (q:=Dq w) (fun b hb=>by
  rcases hb with hb | hb
  ·exact ⟨by have:=hb.2;omega,by have:=hb.2;omega⟩
  ·exact Dq.of Aq.out.lt b hb)
 have Cx:=Hd (C2.out.ag (Ag.new _ B6))
 have Ax:(Que.few q0).names.length≤10:=by show ((q0.names.take 10).map (cutN 30)).length≤10;simp;omega
 obtain ⟨Q,hQ⟩:∃ Q,Q=Que.few q0:=⟨_,rfl⟩
 rw [← hQ] at Ad Ar Cp Ax
 clear hQ B6 x0 x1 x2 x3 x4 x5 y0 y1 y2 y3 y4 y5 y6 y7 y8 y9 ya yb yc yd Ej C2
 have hv:=Ad.e
 subst hv
 obtain ⟨na,nc,rfl,_,Av⟩:=so2 Ad.names.1
 obtain ⟨ba,bc,rfl⟩:=Ad.aggs.shape
 obtain ⟨ta,tc,rfl⟩:=Ad.sets.shape
 obtain ⟨ha,hc,rfl⟩:=Ad.conds.shape
 obtain ⟨oa,oc,rfl⟩:=Ad.keys.shape
 obtain ⟨j0,j1,j2,j3,j4,ez⟩:=FA2.sh2 Ad.fil
 simp only [Value.agg.injEq,Array.mk.injEq,List.cons.injEq,and_true] at ez
 obtain ⟨rfl,rfl,rfl,rfl,rfl,rfl⟩:=ez
 have Dw:=Hd Ar
 clear Av Ar Aq HQ HS
 obtain ⟨W5,D4,Bn,Ci⟩:=Br.put1 (.slice ba Q.aggs.length bc) (.slice na Q.names.length nc) (.int .i64 Q.mode) (.slice ta Q.sets.length tc) (.int .i64 Q.every) (.int .i64 Q.fil.kind) (.string Q.fil.name) (.slice j0 j1 j2) (.int .i64 Q.fil.frm) (.int .i64 Q.fil.to) (.slice j3 Q.fil.l.length j4) (.slice ha Q.conds.length hc) (.slice oa Q.keys.length oc) (.int .i64 Q.limit)
 obtain ⟨y0,y1,y2,y3,y4,y5,y6,y7,y8,y9,ya,yb,yc,yd⟩:=(ca2 Br.k1).1
 have zf:=(ca2 Br.k1).2
 have Ez:=zf 0 (by omega)
 have E1:=zf 1 (by omega)
 have D8:=zf 2 (by omega)
 have Eg:=zf 3 (by omega)
 have Es:=zf 4 (by omega)
 have D1:=zf 5 (by omega)
 have Ew:=zf 6 (by omega)
 have D0:=zf 7 (by omega)
 have En:=zf 8 (by omega)
 have E0:=zf 9 (by omega)
 have Dz:=zf 10 (by omega)
 have Eb:=zf 11 (by omega)
 have Er:=zf 12 (by omega)
 have E5:=zf 13 (by omega)
 clear zf
 have B1:=Hd (Cx.out.ag Ci)
 have B9:=Hd (Ad.ag Ci)
 have Ai:=Hd Bn
 obtain ⟨x0,x1,x2⟩:=(can3 Bn.k0).1
 obtain ⟨v0,v1,v2,v3,v4,v5,v6,v7,v8,v9,Ay,At,Aw,Aj⟩:=(ca2 Bn.k1).1
 clear Br Ad Bn Ci Cx
 clear x0 x1 x2 v0 v1 v2 v3 v4 v5 v6 v7 v8 v9 Ay At Aw Aj
 have D9:=(ca2 Ai.out.k1).1.2.2.2.1
 have Dt:=(ca2 Ai.out.k1).2 3 (by omega)
 obtain ⟨WS,Dm⟩:∃ WS,W5.setCell ⟨w.heap.size + 1,3,none⟩ (.slice none 0 0)=WS:=⟨_,rfl⟩
 obtain ⟨Bz,Bp⟩:=Ai.out.set1 3 (.slice none 0 0) _ rfl
 rw [Dm] at Bz Bp
 replace B1:=Hd (B1.out.ag Bp)
 replace B9:=Hd ((B9.out.ag Bp).mod Q.mode (SA2.nil _ _))
 replace Ai:=Hd Bz
 obtain ⟨x0,x1,x2⟩:=(can3 Ai.out.k0).1
 obtain ⟨v0,v1,v2,v3,v4,v5,v6,v7,v8,v9,Ay,At,Aw,Aj⟩:=(ca2 Ai.out.k1).1
 clear Bz Bp
 go_wp2_with (fail)
 clear D9 Dt Dm
 have Ec:w.heap.size < WS.heap.size:=by have:=Ai.out.lt;omega
 refine FlowT.wp_region 3 [3,4,5,6,7,8] [4,5,6] 7 8 (Flow.sp3 [.inl ?_,.inl ?_,.inr (iRI (Dq w) (rC3 40 rows0))]) (by kernel_rfl) (by kernel_rfl) ?_ rfl rfl rfl ?_
 rotate_left 2
 ·refine Flow.sm2 ?_
  repeat (first | exact Flow.ln2 | refine Flow.li2 ?_ | refine Flow.li3 (iRI2 _ _) ?_)
 all_goals try simp only [List.take_succ_cons,List.take_zero]
 iterate 2 (refine Flow.tvK rfl (fun K hK=>⟨fun w' hw hG => ?_,?_⟩);(have Df:=Flow.bc4 hw;clear hG hw;unfold Flow.Runs Flow.yields;go_simp;try rfl);go_simp;refine hK _ ?_;clear hK K)
 (refine Flow.tvK2 rfl (fun K hK=>⟨fun w' hw hG => ?_,?_⟩);(have HW:=Hd hw;clear hG hw;unfold Flow.Runs Flow.yields;go_simp;refine (rows_any _ vr rows0 40 (by omega) _ (D7.out.ag (Ag.new _ (Bt Ai.out.below HW.out)))).mono ?_;rintro e w3 ⟨v3,rfl,D5,Ef⟩;exact ⟨v3,rfl,Ef,RowsIn.weak D5 (fun b hb=>by
   have h5:=Ai.out.lt
   have h6:=HW.out.size
   rcases hb with hb | hb
   ·exact ⟨by have:=hb.2;omega,by have:=hb.2;omega⟩
   ·exact Dq.of h5 b (by omega))⟩);intro v6;go_simp;refine hK _ _ ?_;clear hK K)
 refine Flow.tn2 fun W6 hB6 hG => ?_
 have A5:=(show iRI (Dq w) (rC3 40 rows0) v6 W6 by simpa [Flow.upd] using hG 2)
 unfold iRI at A5
 clear hG
 have By:=cut_rng (n:=40) hrng
 have Bu:=cut_len (n:=40) (rows:=rows0)
 obtain ⟨R,hR⟩:∃ R,rC3 40 rows0=R:=⟨_,rfl⟩
 rw [hR] at A5 By Bu
 have Bu:R.length≤50:=by omega
 have Bh:=A5
 obtain ⟨ra,rc,rfl,Fp,_⟩:=LA.open Bh
 have C1:=Hd (Ai.out.later hB6)
 have Dd:=Hd (B1.out.ag (Ag.new _ hB6))
 have Eh:=Hd (B9.out.ag (Ag.new _ hB6))
 have D2:=Hd A5
 have Cy:=Hd By
 have Cb:=Hd Bu
 clear hR A5 Bh hB6 x0 x1 x2 v0 v1 v2 v3 v4 v5 v7 v8 v9 Ay At Aw Aj y0 y1 y2 y3 y4 y5 y6 y7 y8 y9 ya yb yc yd Ez E1 D8 Eg Es D1 Ew D0 En E0 Dz Eb Er E5 D4 By Bu Ec
 have Bm:=Hd (rlC (Dq w) _ _ s R W6 Dd.out D2.out Cb.out Cy.out)
 obtain ⟨eA,hA⟩:∃ eA,rC2 s R=eA:=⟨_,rfl⟩
 obtain ⟨C,hC⟩:∃ C,rC5 s R=C:=⟨_,rfl⟩
 rw [hA,hC] at Bm
 have Cw:=Hd (show ∀ Q',Que.check s Q'=0→CO s C from fun Q' h=>hC ▸ rCo Cb.out Cy.out h)
 have Cj:=Hd (show ([C].flatten.map (·.2.n)).sum≤1000 from hC ▸ rCt s R Cb.out)
 have Ck:=C1.out.lt
 clear hA hC
 go_wp2_with (fail)
 go_at_call 14
 refine Bm.out.mono ?_
 rintro e W7 ⟨A2,A4,A0,rfl,ha,B8⟩
 go_wp2_with (fail)
 refine ⟨rfl,_,_,rfl,rfl,(fun w=>by go_simp;try rfl),_,_,rfl,rfl,(fun w=>by go_simp;try rfl),_,_,rfl,rfl,(fun w=>by go_simp;try rfl),?_⟩
 apply bw2
 ·intro h
  go_wp2_with (fail)
  exact ⟨rfl,h⟩
 ·intro h
  go_wp2_with (fail)
  exact ⟨rfl,h⟩
 have Dr:=Hd (ha.weak (q:=Dq w) (Dq.of Ck))
 have Ce:=Hd (C1.out.later B8)
 have Be:=Hd B8
 clear ha B8
 have E6:=Hd (Dd.out.ag (Ag.new _ Be.out))
 have Ee:=Hd (Eh.out.ag (Ag.new _ Be.out))
 have B7:=Dr
 have Ev:=(ca2 Ce.out.k1).1.2.2.1
 have Ea:=(ca2 Ce.out.k1).2 2 (by omega)
 obtain ⟨WM,C0⟩:∃ WX,W7.setCell ⟨w.heap.size + 1,2,none⟩ (.int .i64 3)=WX:=⟨_,rfl⟩
 obtain ⟨Bx,A1⟩:=Ce.out.set1 2 (.int .i64 3) _ rfl
 rw [C0] at Bx A1
 have Em:=Hd (E6.out.ag A1)
 have E4:=Hd ((Ee.out.ag A1).mod 3 (SA2.nil _ _))
 have A8:=Hd (B7.out.ag A1)
 have Bw:=Hd Bx
 have Dv:=Hd A1
 clear Bx A1
 obtain ⟨x0,x1,x2⟩:=(can3 Bw.out.k0).1
 obtain ⟨v0,v1,v2,v3,v4,v5,v6,v7,v8,v9,Ay,At,Aw,Aj⟩:=(ca2 Bw.out.k1).1
 obtain ⟨WA,A6⟩:∃ WX,WM.alloc (.cells #[.slice A2 A4 A0] 41)=WX:=⟨_,rfl⟩
 have Aa:=(la2 WM (.cells #[.slice A2 A4 A0] 41)).2.2
 have Ah:=parts1 (v:=.slice A2 A4 A0) A8.out
 rw [A6] at Aa Ah
 have Ah:=Ah.weak (q:=Dq w) (fun b hb=>by
  rcases hb with hb | hb
  ·exact hb
  ·exact Dq.of Bw.out.lt b (by omega))
 have Bd:=Hd (Bw.out.later Aa)
 have Au:=Hd (Em.out.ag (Ag.new _ Aa))
 have Dj:=Hd (E4.out.ag (Ag.new _ Aa))
 have Dn:=Hd Aa
 have HF:=Hd (run_any (T:=T) a0 a1 (Dq w) 8 _ _ _ s { Q with sets:=[],mode:=3 } [C] _ _ _ _ _ _ _ _ _ _ _ WA (HL.out.below Bd.out.below).vars (HL.out.below Bd.out.below).vn (HL.out.below Bd.out.below).et Au.out Dj.out (by omega) Cp Ax Ah (by simp) (fun h D hD=>by obtain rfl:=List.mem_singleton.1 hD;exact Cw.out _ h) Cj.out)
 rw [show [C].flatten=C by simp] at HF
 clear Aa Ah
 go_wp2_with (fail)
 go_at_call 22
 refine HF.out.mono ?_
 rintro e WB ⟨gv,rfl,hG,Aa⟩
 obtain ⟨Ff,Fh,Fq,rfl⟩:∃ a n c,gv = .slice a n c:=let ⟨a,c,h,_⟩:=hG;⟨a,_,c,h⟩
 have Cr:=Hd hG
 have Cd:=Hd (Bd.out.later Aa)
 have Ek:=Hd (Au.out.ag (Ag.new _ Aa))
 have Ds:=Hd (Dj.out.ag (Ag.new _ Aa))
 have Cl:=Hd (A8.out.ag (Ag.new _ (Bt Dn.out Aa)))
 have Fj:=Hd Aa
 clear hG Aa A6 HF
 clear x0 x1 x2 v0 v1 v2 v3 v4 v5 v6 v7 v8 v9 Ay At Aw Aj
 clear Ev Ea C0
 have D3:=(ca2 Cd.out.k1).1.2.2.1
 have Do:=(ca2 Cd.out.k1).2 2 (by omega)
 obtain ⟨WN,Cv⟩:∃ WX,WB.setCell ⟨w.heap.size + 1,2,none⟩ (.int .i64 2)=WX:=⟨_,rfl⟩
 obtain ⟨B0,Az⟩:=Cd.out.set1 2 (.int .i64 2) _ rfl
 rw [Cv] at B0 Az
 have Eq:=Hd (Ek.out.ag Az)
 have Eu:=Hd ((Ds.out.ag Az).mod 2 (SA2.nil _ _))
 have Bb:=Hd (Cl.out.ag Az)
 have Bv:=Hd B0
 have Cc:=Hd Az
 clear B0 Az
 obtain ⟨x0,x1,x2⟩:=(can3 Bv.out.k0).1
 obtain ⟨v0,v1,v2,v3,v4,v5,v6,v7,v8,v9,Ay,At,Aw,Aj⟩:=(ca2 Bv.out.k1).1
 obtain ⟨WD,A6⟩:∃ WX,WN.alloc (.cells #[.slice A2 A4 A0] 41)=WX:=⟨_,rfl⟩
 have Aa:=(la2 WN (.cells #[.slice A2 A4 A0] 41)).2.2
 have Ah:=parts1 (v:=.slice A2 A4 A0) Bb.out
 rw [A6] at Aa Ah
 have Ah:=Ah.weak (q:=Dq w) (fun b hb=>by
  rcases hb with hb | hb
  ·exact hb
  ·exact Dq.of Bv.out.lt b (by omega))
 have Bo:=Hd (Bv.out.later Aa)
 have C7:=Hd (Eq.out.ag (Ag.new _ Aa))
 have C9:=Hd (Eu.out.ag (Ag.new _ Aa))
 have Dc:=Hd Aa
 have HF:=Hd (run_any (T:=T) a0 a1 (Dq w) 8 _ _ _ s { Q with sets:=[],mode:=2 } [C] _ _ _ _ _ _ _ _ _ _ _ WD (HL.out.below Bo.out.below).vars (HL.out.below Bo.out.below).vn (HL.out.below Bo.out.below).et C7.out C9.out (by omega) Cp Ax Ah (by simp) (fun h D hD=>by obtain rfl:=List.mem_singleton.1 hD;exact Cw.out _ h) Cj.out)
 rw [show [C].flatten=C by simp] at HF
 clear Aa Ah
 go_wp2_with (fail)
 go_at_call 22
 refine HF.out.mono ?_
 rintro e WE ⟨gv,rfl,hG,Aa⟩
 obtain ⟨Fg,Fl,E9,rfl⟩:∃ a n c,gv = .slice a n c:=let ⟨a,c,h,_⟩:=hG;⟨a,_,c,h⟩
 have C5:=Hd hG
 have Bj:=Hd (Bo.out.later Aa)
 have Fi:=Hd (C7.out.ag (Ag.new _ Aa))
 have E8:=Hd (C9.out.ag (Ag.new _ Aa))
 have E7:=Hd (Bb.out.ag (Ag.new _ (Bt Dc.out Aa)))
 have Ei:=Hd Aa
 clear hG Aa A6 HF
 clear x0 x1 x2 v0 v1 v2 v3 v4 v5 v6 v7 v8 v9 Ay At Aw Aj
 clear D3 Do Cv
 by_cases h1:eA=0
 rotate_left
 ·have e1:(eA != (0:Int))=true:=by rw [bne_iff_ne];exact h1
  go_wp2_with (fail)
  go_ret
  exact ⟨rfl,Bj.out.below⟩
 subst h1
 have Ac:=Hd (runE_sub s Q C)
 by_cases h3:runE s { Q with sets:=[],mode:=3 } C=0
 rotate_left
 ·generalize runE s { Q with sets:=[],mode:=3 } C=E3 at *
  generalize runE s { Q with sets:=[],mode:=2 } C=E2 at *
  have e1:((E3:Int) != (0:Int))=true:=by rw [bne_iff_ne];omega
  by_cases h4:E3=E2
  ·subst h4
   go_wp2_with (fail)
   go_ret
   exact ⟨rfl,Bj.out.below⟩
  ·obtain rfl:=Ac.out.resolve_left h4
   have e2:((E3:Int) == ((160:Nat):Int))=false:=by rw [beq_eq_false_iff_ne];omega
   have e3:((E3:Int) == (160:Int))=false:=by rw [beq_eq_false_iff_ne];omega
   go_wp2_with (fail)
   go_ret
   exact ⟨rfl,Bj.out.below⟩
 by_cases h2:runE s { Q with sets:=[],mode:=2 } C=0
 rotate_left
 ·have h5:=Ac.out.resolve_left (fun h=>h2 (by rw [← h];exact h3))
  rw [h3,h5]
  clear h2 h3 h5 Ac
  go_wp2_with (fail)
  go_ret
  exact ⟨rfl,Bj.out.below⟩
 obtain ⟨Et,_⟩:=rEz h2
 have Cq:=rRz h3
 have A3:=rRz h2
 rw [h2,h3]
 have Cg:=((Cr.out.weak (Dq.of Bd.out.lt)).ag Cc.out).ag (Ag.new _ (Bt Dc.out Ei.out))
 have Cf:=C5.out
 rw [Cq] at Cg
 rw [A3] at Cf
 have As:=runG_sub s Q C
 clear Cr C5 Cj h2 h3 Et A3 Cq Ac
 generalize runG s { Q with sets:=[],mode:=3 } C=GA at *
 generalize runG s { Q with sets:=[],mode:=2 } C=GB at *
 have Ed:=As.length_le
 obtain ⟨Fa,Fd,e1,_,De,_,C6⟩:=LA.open Cg
 obtain ⟨Fm,Fo,e2,_,Cz,_,Da⟩:=LA.open Cf
 simp only [Value.slice.injEq] at e1 e2
 obtain ⟨rfl,Ex,rfl⟩:=e1
 obtain ⟨rfl,Dy,rfl⟩:=e2
 subst Ex Dy
 have Bm:=Hd C6
 have Ey:=Hd Da
 have Ac:=Hd As
 have Dp:(GA.length:Int)≤(GB.length:Int):=by omega
 have De:GA.length≤9223372036854775807:=by unfold maxLen at De;omega
 have Cz:GB.length≤9223372036854775807:=by unfold maxLen at Cz;omega
 clear Cg Cf C6 Da As Ed
 go_wp2_with (fail)
 go_loopw [14,15] (fun at' i wr => ∃ k m:Nat,k≤GA.length∧m≤GB.length∧i = .int .i64 k∧at' = .int .i64 m∧(GA.drop k).Sublist (GB.drop m)∧Below WE.heap.size WE wr) (fun _ i _=>GA.length - (intOf i).toNat)
 case atStart=>exact ⟨0,0,Nat.zero_le _,Nat.zero_le _,rfl,rfl,Ac.out,Below.refl _ _⟩
 case round=>
  obtain ⟨k,m0,hk,El,rfl,rfl,Ct,Cu⟩:=hrel
  obtain ⟨wa,Du⟩:∃ wa,wa=wr:=⟨_,rfl⟩
  subst Du
  have C4:=Hd Cu
  have D6:=Hd Ct
  clear Cu Ct
  by_cases hlt:k < GA.length
  ·have Dx:(k:Int) < (GA.length:Int):=by omega
   go_wp2_with (fail)
   go_loopw [14] (fun at' wr => ∃ m:Nat,m≤GB.length∧at' = .int .i64 m∧(GA.drop k).Sublist (GB.drop m)∧Below WE.heap.size WE wr) (fun at' _=>GB.length - (intOf at').toNat)
   case atStart=>exact ⟨m0,El,rfl,D6.out,C4.out⟩
   case round=>
    obtain ⟨m,hm,rfl,Ba,Ao⟩:=hrel
    have Co:m < GB.length:=by
     rcases Nat.lt_or_ge m GB.length with h | h
     ·exact h
     ·rw [List.drop_eq_nil_of_le h,List.drop_eq_getElem_cons hlt] at Ba
      cases Ba
    have Fb:(m:Int) < (GB.length:Int):=by omega
    have Fn:((m:Int) == (GB.length:Int))=false:=by rw [beq_eq_false_iff_ne];omega
    rw [List.drop_eq_getElem_cons hlt,List.drop_eq_getElem_cons Co] at Ba
    have Ak:=Hd Ba
    have Dk:=Hd Ao
    obtain ⟨b1,B3,rfl,Cs,_,cs,_,Cn,Ae⟩:=Bm.out k hlt
    obtain ⟨b2,B4,rfl,Al,_,ds,_,A3,Af⟩:=Ey.out m Co
    have Au:=Hd (fun W (hW:Below wr.heap.size wr W)=>gsame_any _ _ cs ds GA[k] GB[m] W (Cn.ag (Ag.new _ (Bt Ao hW))) (A3.ag (Ag.new _ (Bt Ao hW))))
    obtain ⟨_,_,_,_,_,_,_,_,_,_,_,_,rfl⟩:=Cn.shapes
    obtain ⟨_,_,_,_,_,_,_,_,_,_,_,_,rfl⟩:=A3.shapes
    have Am:=fun o (ho:o < 7)=>(Ao.cell (p:=⟨b1,B3 + k * 7 + o,none⟩) Cs).trans (Ae o ho)
    have An:=fun o (ho:o < 7)=>(Ao.cell (p:=⟨b2,B4 + m * 7 + o,none⟩) Al).trans (Af o ho)
    have e0:=Am 0 (by omega)
    have e1:=Am 1 (by omega)
    have e2:=Am 2 (by omega)
    have e3:=Am 3 (by omega)
    have e4:=Am 4 (by omega)
    have e5:=Am 5 (by omega)
    have e6:=Am 6 (by omega)
    have g0:=An 0 (by omega)
    have g1:=An 1 (by omega)
    have g2:=An 2 (by omega)
    have g3:=An 3 (by omega)
    have g4:=An 4 (by omega)
    have g5:=An 5 (by omega)
    have g6:=An 6 (by omega)
    simp only [Nat.add_zero,List.getElem?_cons_zero,List.getElem?_cons_succ] at e0 e1 e2 e3 e4 e5 e6 g0 g1 g2 g3 g4 g5 g6
    have Ap:b1 < wr.heap.size:=Nat.lt_of_lt_of_le Cs Ao.size
    have Fe:b2 < wr.heap.size:=Nat.lt_of_lt_of_le Al Ao.size
    have Fk:(0:Int)≤(k:Int):=by omega
    have Fr:(0:Int)≤(m:Int):=by omega
    clear Am An Ae Af Cn A3 Ao Ba
    have Ab:GA[k]=GB[m]→sameB GA[k] GB[m]=true:=sameB_iff.2
    cases hv:sameB GA[k] GB[m]
    ·rw [hv] at Ab Au
     have Bg:=Hd (sub_ne Ak.out fun h=>by cases Ab h)
     rw [← List.drop_eq_getElem_cons hlt] at Bg
     clear Ab hv Ak
     generalize GA[k]=x at *
     generalize GB[m]=y at *
     go_wp2_with (fail)
     refine Flow.wrf 13 (Flow.sp3 [.inl ?_,.inl ?_,.inl ?_,.inl ?_,.inl ?_,.inl ?_,.inl ?_,.inl ?_,.inl ?_,.inl ?_,.inl ?_,.inl ?_,.inl ?_]) (by kernel_rfl) (by kernel_rfl) ?_ ?_
     rotate_left 13
     ·refine Flow.sm2 ?_
      repeat (first | exact Flow.ln2 | refine Flow.li2 ?_)
     all_goals try simp only [List.take_succ_cons,List.take_zero,List.drop_succ_cons,List.drop_zero]
     iterate 13 (refine Flow.tvK rfl (fun K hK=>⟨fun w hw hG => ?_,?_⟩);(have Df:=Flow.bc4 hw;clear hG hw;unfold Flow.Runs Flow.yields;go_simp;try rfl);go_simp;refine hK _ ?_;clear hK K)
     refine Flow.tn2 fun w1 Ap hG => ?_
     clear hG
     have B5:=Hd (Bt Dk.out Ap)
     have Cm:=Hd (Au.out w1 Ap)
     clear Ap
     go_wp2_with (fail)
     go_at_call 20
     refine Cm.out.mono ?_
     rintro e w2 ⟨rfl,Al⟩
     have B2:=Hd (Bt B5.out Al)
     clear Al e0 e1 e2 e3 e4 e5 e6 g0 g1 g2 g3 g4 g5 g6
     go_wp2_with (fail)
     go_roundw
     case rel=>exact ⟨m + 1,by omega,by go_num,Bg.out,B2.out⟩
     case measure=>simp [intOf];omega
    ·rw [hv] at Au
     have Bg:=Hd (sub_tail Ak.out)
     rw [← List.drop_eq_getElem_cons Co] at Bg
     clear Ab hv Ak
     generalize GA[k]=x at *
     generalize GB[m]=y at *
     go_wp2_with (fail)
     refine Flow.wrf 13 (Flow.sp3 [.inl ?_,.inl ?_,.inl ?_,.inl ?_,.inl ?_,.inl ?_,.inl ?_,.inl ?_,.inl ?_,.inl ?_,.inl ?_,.inl ?_,.inl ?_]) (by kernel_rfl) (by kernel_rfl) ?_ ?_
     rotate_left 13
     ·refine Flow.sm2 ?_
      repeat (first | exact Flow.ln2 | refine Flow.li2 ?_)
     all_goals try simp only [List.take_succ_cons,List.take_zero,List.drop_succ_cons,List.drop_zero]
     iterate 13 (refine Flow.tvK rfl (fun K hK=>⟨fun w hw hG => ?_,?_⟩);(have Df:=Flow.bc4 hw;clear hG hw;unfold Flow.Runs Flow.yields;go_simp;try rfl);go_simp;refine hK _ ?_;clear hK K)
     refine Flow.tn2 fun w1 Ap hG => ?_
     clear hG
     have B5:=Hd (Bt Dk.out Ap)
     have Cm:=Hd (Au.out w1 Ap)
     clear Ap
     go_wp2_with (fail)
     go_at_call 20
     refine Cm.out.mono ?_
     rintro e w2 ⟨rfl,Al⟩
     have B2:=Hd (Bt B5.out Al)
     clear Al e0 e1 e2 e3 e4 e5 e6 g0 g1 g2 g3 g4 g5 g6
     go_wp2_with (fail)
     go_roundw
     case rel=>exact ⟨k + 1,m,by omega,hm,by go_num,rfl,Bg.out,B2.out⟩
     case measure=>simp [intOf];omega
  ·have Dx:¬ (k:Int) < (GA.length:Int):=by omega
   go_wp2_with (fail)
   go_ret
   exact ⟨rfl,Bt Bj.out.below C4.out⟩
end Go.Proofs.YtaddkkkchkdgkaaGreatDoor
namespace Go.Proofs.YtaddkkkchkdgkaaGreatDoor
open Go.RowKit Go.Sort
open Tess (Que)
theorem CRW {vs vq vr:Value} {rows0:List Tess.Row} {s0:Tess.Sch} {q0:Que} (w:World) (hV:∃ a0 a1,Lw Lib.goPrintTabs a0 a1 w) (hs:SA (fun _=>True) w vs s0) (hq:QueOk w vq q0) (hr:RowsIn (fun _=>True) w vr rows0) (hrng:∀ r ∈ rows0,r.rng) :
  Calls Tryz.prog 8 #[vs,vq,vr] w fun e w'=>e = .returned (.bool true)∧Below w.heap.size w w':=by
 obtain ⟨a0,a1,hL⟩:=hV
 exact CRa a0 a1 w hL hs hq hr hrng
end Go.Proofs.YtaddkkkchkdgkaaGreatDoor
