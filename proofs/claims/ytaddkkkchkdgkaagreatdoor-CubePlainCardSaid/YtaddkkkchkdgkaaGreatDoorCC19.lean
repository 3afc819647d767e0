/- Joined by mergeK.py: K28p, FlI, K28, FlJ, K29, K30, K31 -/
import Derived.Test.YtaddkkkchkdgkaaGreatDoorCC06
import Derived.Test.YtaddkkkchkdgkaaGreatDoorCC11
import Derived.Test.YtaddkkkchkdgkaaGreatDoorCC01
import Derived.OwnWalkIn
import Derived.RegionIn
import Derived.Test.YtaddkkkchkdgkaaGreatDoorCC08
import Derived.RangeFuncCalls
import Derived.Test.YtaddkkkchkdgkaaGreatDoorCC04
import Derived.Test.YtaddkkkchkdgkaaGreatDoorCC05
import Derived.Test.YtaddkkkchkdgkaaGreatDoorCC14
namespace Go.Proofs.YtaddkkkchkdgkaaGreatDoor
open Go.RowKit Go.Sort
theorem mul_bound {n m:Int} (hn:I64 n) (hm:0≤m∧m≤1000000) : -9223372036854775808000000≤n * m∧n * m≤9223372036854775808000000:=by
 obtain ⟨h1,h2⟩:=hn
 have a1 : -9223372036854775808 * m≤n * m:=Int.mul_le_mul_of_nonneg_right h1 hm.1
 have a2:n * m≤9223372036854775807 * m:=Int.mul_le_mul_of_nonneg_right h2 hm.1
 omega
theorem mul_halves (n:Int) (m:Nat) (hn:I64 n) (hm:m≤1000000):∃ a:Nat,IntKind.u64.wrap n=a∧a < 18446744073709551616∧((a * m % 18446744073709551616:Nat):Int)=wLo (n * m)∧((a * m / 18446744073709551616:Nat):Int) - (if n < 0 then (m:Int) else 0)=wHi (n * m)∧a * m / 18446744073709551616≤1000000:=by
 obtain ⟨a,ha⟩:∃ a:Nat,IntKind.u64.wrap n=a:=⟨(n % 18446744073709551616).toNat,by rw [wu];omega⟩
 refine ⟨a,ha,?_⟩
 rw [wu] at ha
 obtain ⟨h1,h2⟩:=hn
 have Ab:a < 18446744073709551616:=by omega
 obtain ⟨k,hk,Aa⟩:∃ k:Int,k=(if n < 0 then (m:Int) else 0)∧(a:Int) * m=n * m + k * 18446744073709551616:=by
  refine ⟨_,rfl,?_⟩
  split
  ·have e:(a:Int)=n + 18446744073709551616:=by omega
   rw [e,Int.add_mul,Int.mul_comm 18446744073709551616]
  ·have e:(a:Int)=n:=by omega
   rw [e];omega
 have hd:a * m / 18446744073709551616≤1000000:=by
  refine Nat.le_trans ?_ hm
  refine Nat.div_le_of_le_mul ?_
  exact Nat.mul_le_mul_right m (by omega)
 rw [← hk]
 have hc:((a * m:Nat):Int)=n * m + k * 18446744073709551616:=by rw [Int.natCast_mul];exact Aa
 generalize a * m=U at *
 generalize n * m=P at *
 unfold wLo wHi
 refine ⟨Ab,?_,?_,hd⟩ <;> omega
def cmpI (x y:Int):Int:=if x < y then -1 else if y < x then 1 else 0
theorem cmp_wide (n m:Int):(if cmpI (wHi n) (wHi m)≠0 then cmpI (wHi n) (wHi m) else cmpI (wLo n) (wLo m))=cmpI n m:=by
 unfold wHi wLo cmpI
 split <;> split <;> (try split) <;> (try split) <;> omega
theorem cmpI_le (n m:Int):cmpI n m≤0↔n≤m:=by unfold cmpI;split <;> (try split) <;> omega
end Go.Proofs.YtaddkkkchkdgkaaGreatDoor
namespace Go.Flow
open Go Go.RowKit
section
variable {P:Program} {ops:Array Oper} {n:Nat}
theorem wIo {o:Oper} {a:Act} {w:World} {K:Act→World→Prop} {Q:Exit→Act→World→Prop} (hy:yields P o a.eval w fun v w'=>K (a.put o.dst v) w'):o.wpIn Fence.wide n P a w K Q:=by
 unfold Oper.wpIn
 refine ⟨fun _ _=>trivial,?_⟩
 have he:o.semAt Fence.wide.round a.eval=execOp a.eval o:=by simp [Oper.semAt,Fence.wide]
 rw [he]
 unfold yields at hy
 generalize (execOp a.eval o).run P w=r at *
 cases r with
 | ok nx w'=>
   cases nx <;> simp only [Oper.uponIn] <;> first
    | exact hy
    | exact (show False from hy).elim
    | exact ⟨(fun h=>by cases h),callsIn_wide.2 (Calls.mono hy (fun e w'' ⟨v,he,hr⟩=>by subst he;exact hr))⟩
 | halt x w'=>exact hy.elim
theorem wAI3 {md:Region.Mode} {F:Fence} {Q':Exit→Act→World→Prop}:∀ (l:List Oper) (k:Nat) (listed:Array Bool) (a:Act) (w:World),(∀ j,l[j]? = ops[k + j]?) →
  Region.seqB md ops l.length k listed=true→wpListIn F n P ops Q' l a w→wpAnyIn F n P md ops Q' l.length listed a w
 | [],_,_,_,_,_,hB,h=>⟨by simpa [Region.seqB] using hB,h⟩
 | o :: l,k,listed,a,w,hl,hB,h=>by
   have h0:ops[k]? = some o:=by simpa using (hl 0).symm
   simp only [List.length_cons,Region.seqB,Bool.and_eq_true,decide_eq_true_eq] at hB
   refine ⟨fun h1=>(by rw [hB.1] at h1;cases h1),fun i hi => ?_⟩
   rw [hB.1] at hi
   have Aa:i=k:=by simpa using hi
   subst Aa
   have hw:wpOpIn F n P ops Q' i (wpListIn F n P ops Q' l) a w:=by unfold wpOpIn;simp only [h0];exact h
   exact wpOpIn_mono (fun a' w' h'=>wAI3 l (i + 1) _ a' w' (fun j=>by have:=hl (j + 1);simpa [Nat.add_assoc,Nat.add_comm 1 j] using this) hB.2 h') hw
theorem wAI2 {S:Nat→Spec} {w0:World} (hS:∀ i,(S i).mono) {m g:Nat} {L:Array Bool→Act→(Nat→World→Prop)→Prop} {Q:Exit→Act→World→Prop}
  (hL:∀ listed a Γ w,L listed a Γ→Below w0.heap.size w0 w→(∀ j,Γ j w)→wpAnyIn Fence.wide n P .any ops Q g listed a w):∀ (f:Nat) (listed:Array Bool) (a:Act) (Γ:Nat→World→Prop) (w:World),
  aF P ops S w0 m L f listed a Γ→Below w0.heap.size w0 w→(∀ j,Γ j w)→(∀ j,Mono (Γ j))→wpAnyIn Fence.wide n P .any ops Q (f + g) listed a w
 | 0,_,_,_,_,h,hB,hG,_=>by rw [Nat.zero_add];exact hL _ _ _ _ h hB hG
 | f + 1,listed,a,Γ,w,h,hB,hG,hM=>by
   rw [show f + 1 + g=(f + g) + 1 by omega]
   refine ⟨fun h0=>absurd h0 h.1,fun i hi => ?_⟩
   have h1:=(h.2 i hi).2
   unfold fOp at h1
   unfold wpOpIn
   have hM':∀ v j,Mono (upd Γ i ((S i).holds v) j):=fun v j=>by
    by_cases e:j=i
    ·subst e;rw [upd_same];exact hS j v
    ·rw [upd_ne e];exact hM j
   have hG':∀ v w',Below w.heap.size w w'→(S i).holds v w'→∀ j,upd Γ i ((S i).holds v) j w':=fun v w' hb hv j=>by
    by_cases e:j=i
    ·subst e;rw [upd_same];exact hv
    ·rw [upd_ne e];exact hM j _ _ (hG j) hb
   have hok:∀ v w',(S i).holds v w'→(S i).ok v:=fun v w' hv=>by
    cases hs:S i with
    | inl u=>rw [hs] at hv;exact hv
    | inr V=>trivial
   split
   ·rename_i ho
    simp only [ho] at h1
    exact wAI2 hS hL f _ _ _ _ h1 hB hG hM
   ·rename_i o ho
    simp only [ho] at h1
    have h2:=h1.1 w hB (fun j _=>hG j)
    unfold Runs at h2
    split
    ·rename_i hw
     simp only [hw,if_true] at h2
     refine wIo (ym2 ?_ h2)
     intro v w' ⟨hb,hv⟩
     exact wAI2 hS hL f _ _ _ _ (h1.2 v (hok v w' hv)) (hB.trans (hb.mono hB.size)) (hG' v w' hb hv) (hM' v)
    ·rename_i hw
     simp only [hw] at h2
     exact ⟨fun _ _=>trivial,wAI2 hS hL f _ _ _ _ (h1.2 undef (hok _ _ h2)) hB (hG' _ _ (Below.refl _ _) h2) (hM' _)⟩
theorem wIr {id:Nat} {Q:Exit→Act→World→Prop} {a:Act} {w:World} {l:List Oper} (m:Nat) (S:Nat→Spec) (hm:P.follows .mixedOrders=true) (hB:Region.lexTailB .any l.toArray m=true) (hS:∀ i,(S i).mono)
  (h:Tree P l.toArray S w (fun a' Γ => ∀ w',Below w.heap.size w w'→(∀ j,Γ j w')→wpListIn Fence.wide n P l.toArray Q (l.drop m) a' w') (l.take m) 0 a (fun _ _=>True)):(Code.region id l.toArray true).wpIn Fence.wide n P Q a w:=by
 simp only [Region.lexTailB,Bool.and_eq_true,decide_eq_true_eq] at hB
 obtain ⟨⟨⟨⟨Ab,hn⟩,hs⟩,hc⟩,Ac⟩:=hB
 have Ag:m < l.length:=by simpa using hn
 have Aa:(l.take m).length=m:=by simp;omega
 have Ae:(l.drop m).length=l.toArray.size - m:=by simp
 have Ad:HeadInv .any l.toArray m (Array.replicate l.toArray.size false):=
  ⟨by simp,fun j oj _ hl=>(by rw [getD_replicate_false] at hl;cases hl),fun t _ ht=>getD_in (by simpa using ht) (getD_replicate_false _ _)⟩
 have H:=aFl (g:=l.toArray.size - m) Ab hs hc hn (l.take m) 0 _ a (fun _ _=>True) (fun j hj=>by
  have Af:j < m:=by rw [Aa] at hj;exact hj
  simp [Af]) (by simpa using Aa) Ad (by rw [Aa];exact Ac) h
 refine wpIn_region_any hm ?_
 have:=wAI2 (n:=n) (Q:=Q) (g:=l.toArray.size - m) hS (fun listed a' Γ' w' hL hb hG=>by
  have:=wAI3 (md:=.any) (F:=Fence.wide) (n:=n) (Q':=Q) (l.drop m) m listed a' w' (fun j=>by simp [List.getElem?_drop]) (by rw [Ae];exact hL.1) (hL.2 w' hb hG)
  rwa [Ae] at this) _ _ _ _ { w with drawn:=w.drawn + 1 } H ((Below.refl _ _).drew) (fun _=>trivial) (fun _ _ _ _ _=>trivial)
 rw [Aa,show m + (l.toArray.size - m)=l.toArray.size by omega] at this
 exact this
end
end Go.Flow
namespace Go.Proofs.YtaddkkkchkdgkaaGreatDoor
open Go.RowKit Go.Sort
set_option maxRecDepth 100000 in
theorem cmp64_any (x y:Int) (w:World):Calls Tryz.prog 107 #[.int .i64 x,.int .i64 y] w fun e w'=>e = .returned (.int .i64 (cmpI x y))∧Below w.heap.size w w':=by
 have HB:=Hd (Below.refl w.heap.size w)
 rcases Int.lt_trichotomy x y with h | h | h
 ·have hc:cmpI x y = -1:=by unfold cmpI;rw [if_pos h]
  rw [hc]
  clear hc
  go_enter Tryz.func107,Tryz.ntmps107
  go_wp2
  go_ret
  exact ⟨rfl,HB.out⟩
 ·subst h
  have hc:cmpI x x=0:=by unfold cmpI;simp
  rw [hc]
  clear hc
  go_enter Tryz.func107,Tryz.ntmps107
  go_wp2
  go_ret
  exact ⟨rfl,HB.out⟩
 ·have hn:¬ x < y:=by omega
  have hc:cmpI x y=1:=by unfold cmpI;rw [if_neg hn,if_pos h]
  rw [hc]
  clear hc
  go_enter Tryz.func107,Tryz.ntmps107
  go_wp2
  go_ret
  exact ⟨rfl,HB.out⟩
set_option maxRecDepth 100000 in
theorem cmpU64_any (x y:Int) (w:World):Calls Tryz.prog 216 #[.int .u64 x,.int .u64 y] w fun e w'=>e = .returned (.int .i64 (cmpI x y))∧Below w.heap.size w w':=by
 have HB:=Hd (Below.refl w.heap.size w)
 rcases Int.lt_trichotomy x y with h | h | h
 ·have hc:cmpI x y = -1:=by unfold cmpI;rw [if_pos h]
  rw [hc]
  clear hc
  go_enter Tryz.func216,Tryz.ntmps216
  go_wp2
  go_ret
  exact ⟨rfl,HB.out⟩
 ·subst h
  have hc:cmpI x x=0:=by unfold cmpI;simp
  rw [hc]
  clear hc
  go_enter Tryz.func216,Tryz.ntmps216
  go_wp2
  go_ret
  exact ⟨rfl,HB.out⟩
 ·have hn:¬ x < y:=by omega
  have hc:cmpI x y=1:=by unfold cmpI;rw [if_neg hn,if_pos h]
  rw [hc]
  clear hc
  go_enter Tryz.func216,Tryz.ntmps216
  go_wp2
  go_ret
  exact ⟨rfl,HB.out⟩
set_option maxRecDepth 100000 in
theorem or2_any (x y:Int) (b:Nat) (w:World) (h0:w.cell? ⟨b,0,none⟩=some (.int .i64 x)) (h1:w.cell? ⟨b,1,none⟩=some (.int .i64 y)):Calls Tryz.prog 215 #[.slice (some ⟨b,0,none⟩) 2 2] w fun e w'=>e = .returned (.int .i64 (if x≠0 then x else y))∧Below w.heap.size w w':=by
 have HB:=Hd (Below.refl w.heap.size w)
 by_cases hx:x=0
 ·subst hx
  rw [if_neg (by simp)]
  by_cases hy:y=0
  ·subst hy
   go_enter Tryz.func215,Tryz.ntmps215
   go_wp2
   refine wp_loop_rounds 3 ?_
   rw [rounds_succ]
   go_wp2
   rw [rounds_succ]
   go_wp2
   rw [rounds_succ]
   go_wp2
   go_ret
   exact ⟨rfl,HB.out⟩
  ·go_enter Tryz.func215,Tryz.ntmps215
   go_wp2
   refine wp_loop_rounds 3 ?_
   rw [rounds_succ]
   go_wp2
   rw [rounds_succ]
   go_wp2
   go_ret
   exact ⟨rfl,HB.out⟩
 ·rw [if_pos hx]
  go_enter Tryz.func215,Tryz.ntmps215
  go_wp2
  refine wp_loop_rounds 3 ?_
  rw [rounds_succ]
  go_wp2
  go_ret
  exact ⟨rfl,HB.out⟩
set_option maxRecDepth 100000 in
set_option maxHeartbeats 1000000 in
theorem wCa (n m:Int) (w:World):Calls Tryz.prog 183 #[.agg #[.int .i64 (wHi n),.int .u64 (wLo n)],.agg #[.int .i64 (wHi m),.int .u64 (wLo m)]] w fun e w'=>e = .returned (.int .i64 (cmpI n m))∧Below w.heap.size w w':=by
 have HC:=Hd (cmp_wide n m)
 have H1:=Hd (fun W=>cmp64_any (wHi n) (wHi m) W)
 have H2:=Hd (fun W=>cmpU64_any (wLo n) (wLo m) W)
 have HO:=Hd (fun b W h0 h1=>or2_any (cmpI (wHi n) (wHi m)) (cmpI (wLo n) (wLo m)) b W h0 h1)
 rw [HC.out] at HO
 generalize cmpI n m=z at *
 generalize cmpI (wHi n) (wHi m)=z1 at *
 generalize cmpI (wLo n) (wLo m)=z2 at *
 generalize wHi n=a1 at *
 generalize wHi m=a2 at *
 generalize wLo n=b1 at *
 generalize wLo m=b2 at *
 clear HC
 obtain ⟨W0,Ag⟩:∃ W0,(w.alloc (.cells #[.int .i64 a1,.int .u64 b1] 60)).alloc (.cells #[.int .i64 a2,.int .u64 b2] 60)=W0:=⟨_,rfl⟩
 obtain ⟨k0,k1,kS,kB⟩:=la3 w (.cells #[.int .i64 a1,.int .u64 b1] 60) (.cells #[.int .i64 a2,.int .u64 b2] 60)
 rw [Ag] at k0 k1 kS kB
 obtain ⟨⟨x0,x1⟩,_⟩:=can2 k0
 obtain ⟨⟨y0,y1⟩,_⟩:=can2 k1
 have Am:w.heap.size < W0.heap.size:=by omega
 have Al:w.heap.size + 1 < W0.heap.size:=by omega
 have HB:=Hd kB
 clear kS kB k0 k1
 go_enter Tryz.func183,Tryz.ntmps183
 go_wp2_with (fail)
 refine Flow.wrf 10 (Flow.sp3 [.inl ?_,.inl ?_,.inl ?_,.inl ?_,.inl ?_,.inl ?_,.inl ?_,.inl ?_,.inl ?_,.inl ?_]) (by kernel_rfl) (by kernel_rfl) ?_ ?_
 rotate_left 10
 ·refine Flow.sm2 ?_
  repeat (first | exact Flow.ln2 | refine Flow.li2 ?_)
 all_goals try simp only [List.take_succ_cons,List.take_zero,List.drop_succ_cons,List.drop_zero]
 iterate 4 (refine Flow.tvK rfl (fun K hK=>⟨fun w hw hG => ?_,?_⟩);(have Af:=Flow.bc4 hw;clear hG hw;unfold Flow.Runs Flow.yields;go_simp;try rfl);go_simp;refine hK _ ?_;clear hK K)
 (refine Flow.tvK rfl (fun K hK=>⟨fun w hw hG => ?_,?_⟩);(clear hG hw;unfold Flow.Runs Flow.yields;go_simp;refine (H1.out _).mono ?_;rintro e w5 ⟨rfl,Aa⟩;first | exact ⟨_,rfl,Aa,rfl⟩ | (refine ⟨?_,Aa⟩;rfl));go_simp;refine hK _ ?_;clear hK K)
 iterate 4 (refine Flow.tvK rfl (fun K hK=>⟨fun w hw hG => ?_,?_⟩);(have Af:=Flow.bc4 hw;clear hG hw;unfold Flow.Runs Flow.yields;go_simp;try rfl);go_simp;refine hK _ ?_;clear hK K)
 (refine Flow.tvK rfl (fun K hK=>⟨fun w hw hG => ?_,?_⟩);(clear hG hw;unfold Flow.Runs Flow.yields;go_simp;refine (H2.out _).mono ?_;rintro e w5 ⟨rfl,Aa⟩;first | exact ⟨_,rfl,Aa,rfl⟩ | (refine ⟨?_,Aa⟩;rfl));go_simp;refine hK _ ?_;clear hK K)
 refine Flow.tn2 fun w5 hw5 hG => ?_
 clear hG x0 x1 y0 y1
 have Ae:=Hd (Bt HB.out hw5)
 clear hw5
 obtain ⟨W6,Aj⟩:∃ W6,w5.alloc (.cells #[.int .i64 z1,.int .i64 z2] 3)=W6:=⟨_,rfl⟩
 obtain ⟨k6,Ac,Ab⟩:=la2 w5 (.cells #[.int .i64 z1,.int .i64 z2] 3)
 rw [Aj] at k6 Ac Ab
 obtain ⟨⟨q0,q1⟩,_⟩:=can2 k6
 have Ah:=Hd (Bt Ae.out Ab)
 have Ak:=Hd (HO.out _ _ q0 q1)
 clear Ac Ab k6 HO
 go_simp
 go_wp2_with (fail)
 go_at_call 215
 refine Ak.out.mono ?_
 rintro e w7 ⟨rfl,Ad⟩
 have Ai:=Hd (Bt Ah.out Ad)
 clear Ad
 go_wp2
 go_ret
 exact ⟨rfl,Ai.out⟩
set_option maxRecDepth 100000 in
set_option maxHeartbeats 1000000 in
theorem wMul_any (n:Int) (m:Nat) (hn:I64 n) (hm:m≤1000000) (w:World):Calls Tryz.prog 182 #[.int .i64 n,.int .i64 m] w fun e w'=>e = .returned (.agg #[.int .i64 (wHi (n * m)),.int .u64 (wLo (n * m))])∧Below w.heap.size w w':=by
 obtain ⟨a,ha,Ah,Af,Ab,hd⟩:=mul_halves n m hn hm
 have An:IntKind.u64.wrap (m:Int)=(m:Nat):=by rw [wu];omega
 have hM:=Hd (fun W=>Tryz.bits_Mul64 a m Ah (by omega) W)
 rw [← Af]
 obtain ⟨U,hU⟩:∃ U:Nat,a * m / 18446744073709551616=U:=⟨_,rfl⟩
 obtain ⟨V,hV⟩:∃ V:Nat,a * m % 18446744073709551616=V:=⟨_,rfl⟩
 rw [hU] at Ab hd
 rw [hU,hV] at hM
 rw [hV]
 have Al:IntKind.i64.wrap (U:Int)=U:=by rw [IntKind.wrap_i64];omega
 have Ak:IntKind.i64.wrap ((U:Int) - m)=(U:Int) - m:=by rw [IntKind.wrap_i64];omega
 have Am:¬ (m:Int) < 0:=by omega
 generalize wHi (n * m)=z at *
 clear Af hU hV hn hm hd Ah
 obtain ⟨W0,Aj⟩:∃ W0,(w.alloc (.cells #[.int .i64 0,.int .u64 0] 60)).alloc (.cells #[.int .i64 U,.int .u64 V] 60)=W0:=⟨_,rfl⟩
 obtain ⟨k0,k1,kS,kB⟩:=la3 w (.cells #[.int .i64 0,.int .u64 0] 60) (.cells #[.int .i64 U,.int .u64 V] 60)
 rw [Aj] at k0 k1 kS kB
 by_cases h0:n < 0
 ·rw [if_pos h0] at Ab
  have Ag:=heap_setCell_same _ _ 0 _ _ (.int .i64 z) k1
  obtain ⟨⟨x0,x1⟩,f0,f1⟩:=can2 k1
  obtain ⟨⟨y0,y1⟩,g0,g1⟩:=can2 k0
  have Ai:Below w.heap.size w (W0.setCell ⟨w.heap.size + 1,0,none⟩ (.int .i64 z)):=kB.setCell (by show _≤w.heap.size + 1;omega) _
  have Ae:=(heap_setCell_other W0 ⟨w.heap.size + 1,0,none⟩ _ (.int .i64 z) (show w.heap.size≠w.heap.size + 1 by omega)).trans k0
  obtain ⟨⟨p0,p1⟩,_⟩:=can2 Ag
  obtain ⟨⟨r0,r1⟩,s0,s1⟩:=can2 Ae
  have Aa:=heap_setCell_same _ _ 1 _ _ (.int .u64 V) (heap_setCell_same _ _ 0 _ _ (.int .i64 z) Ae)
  obtain ⟨⟨e0,e1⟩,_⟩:=can2 Aa
  have Ac:Below w.heap.size w (((W0.setCell ⟨w.heap.size + 1,0,none⟩ (.int .i64 z)).setCell ⟨w.heap.size,0,none⟩ (.int .i64 z)).setCell ⟨w.heap.size,1,none⟩ (.int .u64 V)):=(Ai.setCell (Nat.le_refl _) _).setCell (Nat.le_refl _) _
  have Ad:=Hd Ac
  rw [Ab] at Ak
  clear Ag Ae Aa Ai Ac k0 k1 kS kB
  go_enter Tryz.func182,Tryz.ntmps182
  go_wp2_with (go_at_call 214;refine (hM.out _).mono ?_;rintro e w1 ⟨rfl,rfl⟩)
  refine bodyPost_ret (v:=.agg #[.int .i64 z,.int .u64 V]) (by simp [results,Tryz.results182,go_sem,e0,e1]) rfl ⟨rfl,Ad.out⟩
 ·rw [if_neg h0] at Ab
  obtain ⟨⟨x0,x1⟩,f0,f1⟩:=can2 k1
  obtain ⟨⟨y0,y1⟩,g0,g1⟩:=can2 k0
  have hz:(U:Int)=z:=by omega
  have Aa:=heap_setCell_same _ _ 1 _ _ (.int .u64 V) (heap_setCell_same _ _ 0 _ _ (.int .i64 U) k0)
  obtain ⟨⟨e0,e1⟩,_⟩:=can2 Aa
  have Ac:Below w.heap.size w ((W0.setCell ⟨w.heap.size,0,none⟩ (.int .i64 U)).setCell ⟨w.heap.size,1,none⟩ (.int .u64 V)):=(kB.setCell (Nat.le_refl _) _).setCell (Nat.le_refl _) _
  have Ad:=Hd Ac
  rw [← hz]
  clear Aa Ac k0 k1 kS kB hz Ab
  go_enter Tryz.func182,Tryz.ntmps182
  go_wp2_with (go_at_call 214;refine (hM.out _).mono ?_;rintro e w1 ⟨rfl,rfl⟩)
  refine bodyPost_ret (v:=.agg #[.int .i64 U,.int .u64 V]) (by simp [results,Tryz.results182,go_sem,e0,e1]) rfl ⟨rfl,Ad.out⟩
end Go.Proofs.YtaddkkkchkdgkaaGreatDoor
namespace Go.Flow
open Go Go.RowKit
section
variable {P:Program} {ops:Array Oper} {n:Nat} {lr:Nat}
def noDefer (l:List Oper):Bool:=l.all fun o=>match o.op with | .defer _=>false | _=>true
theorem noDefer_at {l:List Oper} (h:noDefer l=true) {i:Nat} {o:Oper} (ho:l[i]? = some o):∀ c,o.op ≠ .defer c:=by
 intro c e
 have:=List.all_eq_true.1 h o (List.mem_of_getElem? ho)
 rw [e] at this;cases this
theorem wIR2 {o:Oper} {a:Act} {w:World} {K:Act→World→Prop} {Q:Exit→Act→World→Prop} (hd:∀ c,o.op ≠ .defer c) (hy:yields P o a.eval w fun v w'=>K (a.put o.dst v) w'):o.wpIn (Fence.wide.inRound lr) n P a w K Q:=by
 unfold Oper.wpIn
 refine ⟨fun _ _=>trivial,?_⟩
 have he:o.semAt (Fence.wide.inRound lr).round a.eval=execOp a.eval o:=Oper.semAt_eq _ _ _ hd
 rw [he]
 unfold yields at hy
 generalize (execOp a.eval o).run P w=r at *
 cases r with
 | ok nx w'=>
   cases nx <;> simp only [Oper.uponIn] <;> first
    | exact hy
    | exact (show False from hy).elim
    | exact ⟨(fun h=>by cases h),CallsIn.inRound lr (callsIn_wide.2 (Calls.mono hy (fun e w'' ⟨v,he,hr⟩=>by subst he;exact hr)))⟩
 | halt x w'=>exact hy.elim
theorem wAI {S:Nat→Spec} {w0:World} (hND:noDefer ops.toList=true) (hS:∀ i,(S i).mono) {m g:Nat} {L:Array Bool→Act→(Nat→World→Prop)→Prop} {Q:Exit→Act→World→Prop}
  (hL:∀ listed a Γ w,L listed a Γ→Below w0.heap.size w0 w→(∀ j,Γ j w)→wpAnyIn (Fence.wide.inRound lr) n P .any ops Q g listed a w):∀ (f:Nat) (listed:Array Bool) (a:Act) (Γ:Nat→World→Prop) (w:World),
  aF P ops S w0 m L f listed a Γ→Below w0.heap.size w0 w→(∀ j,Γ j w)→(∀ j,Mono (Γ j))→wpAnyIn (Fence.wide.inRound lr) n P .any ops Q (f + g) listed a w
 | 0,_,_,_,_,h,hB,hG,_=>by rw [Nat.zero_add];exact hL _ _ _ _ h hB hG
 | f + 1,listed,a,Γ,w,h,hB,hG,hM=>by
   rw [show f + 1 + g=(f + g) + 1 by omega]
   refine ⟨fun h0=>absurd h0 h.1,fun i hi => ?_⟩
   have h1:=(h.2 i hi).2
   unfold fOp at h1
   unfold wpOpIn
   have hM':∀ v j,Mono (upd Γ i ((S i).holds v) j):=fun v j=>by
    by_cases e:j=i
    ·subst e;rw [upd_same];exact hS j v
    ·rw [upd_ne e];exact hM j
   have hG':∀ v w',Below w.heap.size w w'→(S i).holds v w'→∀ j,upd Γ i ((S i).holds v) j w':=fun v w' hb hv j=>by
    by_cases e:j=i
    ·subst e;rw [upd_same];exact hv
    ·rw [upd_ne e];exact hM j _ _ (hG j) hb
   have hok:∀ v w',(S i).holds v w'→(S i).ok v:=fun v w' hv=>by
    cases hs:S i with
    | inl u=>rw [hs] at hv;exact hv
    | inr V=>trivial
   split
   ·rename_i ho
    simp only [ho] at h1
    exact wAI hND hS hL f _ _ _ _ h1 hB hG hM
   ·rename_i o ho
    simp only [ho] at h1
    have h2:=h1.1 w hB (fun j _=>hG j)
    unfold Runs at h2
    split
    ·rename_i hw
     simp only [hw,if_true] at h2
     refine wIR2 (noDefer_at hND (i:=i) (by simpa using ho)) (ym2 ?_ h2)
     intro v w' ⟨hb,hv⟩
     exact wAI hND hS hL f _ _ _ _ (h1.2 v (hok v w' hv)) (hB.trans (hb.mono hB.size)) (hG' v w' hb hv) (hM' v)
    ·rename_i hw
     simp only [hw] at h2
     exact ⟨fun _ _=>trivial,wAI hND hS hL f _ _ _ _ (h1.2 undef (hok _ _ h2)) hB (hG' _ _ (Below.refl _ _) h2) (hM' _)⟩
theorem wIR {id:Nat} {Q:Exit→Act→World→Prop} {a:Act} {w:World} {l:List Oper} (m:Nat) (S:Nat→Spec) (hND:noDefer l=true) (hm:P.follows .mixedOrders=true) (hB:Region.lexTailB .any l.toArray m=true) (hS:∀ i,(S i).mono)
  (h:Tree P l.toArray S w (fun a' Γ => ∀ w',Below w.heap.size w w'→(∀ j,Γ j w')→wpListIn (Fence.wide.inRound lr) n P l.toArray Q (l.drop m) a' w') (l.take m) 0 a (fun _ _=>True)):(Code.region id l.toArray true).wpIn (Fence.wide.inRound lr) n P Q a w:=by
 simp only [Region.lexTailB,Bool.and_eq_true,decide_eq_true_eq] at hB
 obtain ⟨⟨⟨⟨Ab,hn⟩,hs⟩,hc⟩,Ac⟩:=hB
 have Ag:m < l.length:=by simpa using hn
 have Aa:(l.take m).length=m:=by simp;omega
 have Ae:(l.drop m).length=l.toArray.size - m:=by simp
 have Ad:HeadInv .any l.toArray m (Array.replicate l.toArray.size false):=
  ⟨by simp,fun j oj _ hl=>(by rw [getD_replicate_false] at hl;cases hl),fun t _ ht=>getD_in (by simpa using ht) (getD_replicate_false _ _)⟩
 have H:=aFl (g:=l.toArray.size - m) Ab hs hc hn (l.take m) 0 _ a (fun _ _=>True) (fun j hj=>by
  have Af:j < m:=by rw [Aa] at hj;exact hj
  simp [Af]) (by simpa using Aa) Ad (by rw [Aa];exact Ac) h
 refine wpIn_region_any hm ?_
 have:=wAI (n:=n) (Q:=Q) (g:=l.toArray.size - m) (by simpa using hND) hS (fun listed a' Γ' w' hL hb hG=>by
  have:=wAI3 (md:=.any) (F:=Fence.wide.inRound lr) (n:=n) (Q':=Q) (l.drop m) m listed a' w' (fun j=>by simp [List.getElem?_drop]) (by rw [Ae];exact hL.1) (hL.2 w' hb hG)
  rwa [Ae] at this) _ _ _ _ { w with drawn:=w.drawn + 1 } H ((Below.refl _ _).drew) (fun _=>trivial) (fun _ _ _ _ _=>trivial)
 rw [Aa,show m + (l.toArray.size - m)=l.toArray.size by omega] at this
 exact this
end
end Go.Flow
namespace Go.Proofs.YtaddkkkchkdgkaaGreatDoor
open Go.RowKit Go.Sort Go.Shelf
attribute [local go_sem] Oper.semAt_some
theorem roundIn_in {n m:Nat} {P:Program} {l l2:Nat} {f:FuncId} {tmps:Array Value} {assign body:Code} {w:World} {R:Ending→World→Prop} (h:RoundIn Fence.wide n P l f tmps assign body w R):RoundIn (Fence.wide.inRound l2) m P l f tmps assign body w R:=
 ⟨h.1,fun c cs _=>h.2 c cs (room_wide _)⟩
def Iter (gf:FuncId) (lb:Array Value) (m:Nat) (vs:List (Array Value)) (q:Nat→Prop) (W0:World):Prop:=
 ∀ (l:Nat) (fn0:FuncId) (T:Array Value→Array Value) (A B:Code) (Inv:Nat→World→Prop),
   (∀ k W W',Inv k W→Below W.heap.size W W'→Inv k W')→(∀ k W W' l' o,Inv k W→l < l'→W.heap[l']? = some o→o.isCells=false→Rf.SB l' W W'→Inv k W')→(∀ k W,Inv k W→l < W.heap.size∧Ag q W0 W) →
   (∀ k W,Inv k W→∀ z:Array Value,z.size=m→(Instr.yield l z).run Tryz.prog W = .ok (.round l fn0 (T z) A B) W) →
   (∀ k W (hk:k < vs.length),Inv k W→RoundIn Fence.wide 5 Tryz.prog l fn0 (T vs[k]) A B W (fun e W'=>e = .returned (.bool true)∧Inv (k + 1) W')) →
   ∀ W,Inv 0 W→Calls Tryz.prog gf (#[.func (.yield l) #[] #[]] ++ lb) W fun e W'=>(∃ v,e = .returned v)∧Inv vs.length W'
theorem values_any (a:Option Addr) (n c:Nat) (w:World):Calls Tryz.prog 228 #[.slice a n c] w fun e w'=>e = .returned (.func (.func 238) #[] #[.pointer (some ⟨w.heap.size,0,none⟩)])∧w'=w.alloc (.cells #[.slice a n c] 54):=by
 go_enter Tryz.func228,Tryz.ntmps228
 go_wp2
 go_ret
 exact ⟨rfl,rfl⟩
theorem numbers_any (a:Option Addr) (n c:Nat) (w:World):Calls Tryz.prog 212 #[.slice a n c] w fun e w'=>e = .returned (.func (.func 227) #[] #[.pointer (some ⟨w.heap.size,0,none⟩)])∧w'=w.alloc (.cells #[.slice a n c] 54):=by
 go_enter Tryz.func212,Tryz.ntmps212
 go_wp2
 go_ret
 exact ⟨rfl,rfl⟩
set_option maxRecDepth 100000 in
set_option maxHeartbeats 2000000 in
theorem values_iter (ns:List Int) (b:Nat) (v:Value) (p q:Nat→Prop) (hpq:∀ c,p c→q c) (W0:World) (h0:W0.cell? ⟨b,0,none⟩=some v) (hb:q b) (hv:RA 1 intF p W0 v ns) :
  Iter 238 #[.pointer (some ⟨b,0,none⟩)] 1 (ns.map fun n=>#[.int .i64 n]) q W0:=by
 intro l Al T A B Ac Af _ Ab hy hr W hI
 have HI:=Hd hI
 have Ak:=Hd Af
 have Ae:=Hd Ab
 have HY:=Hd hy
 have HR:=Hd hr
 have Aa:=World.block_lt_of_cell? W0 _ h0
 have HV:=Hd (fun k X (h:Ac k X)=>hv.ag ((Ae.out k X h).2.weak hpq))
 have c1:=((Ae.out 0 W hI).2.cell Aa hb).trans h0
 obtain ⟨a,c,rfl,hl,_⟩:=hv
 have hl:ns.length≤9223372036854775807:=by unfold maxLen at *;omega
 clear hI Af Ab hy hr
 refine (callsIn_wide (n:=5)).1 ?_
 refine callsIn_of_wp Tryz.func238 rfl trivial ?_ rfl
 simp only [Tryz.ntmps238,List.size_toArray,List.length_cons,List.length_nil,Nat.reduceAdd,Nat.reduceSub,Array.replicate_succ,Array.replicate_zero,List.push_toArray,List.append_toArray,List.nil_append,List.cons_append]
 gi_wp2
 gi_loopw [7] (fun i wr => ∃ k:Nat,k≤ns.length∧i = .int .i64 k∧Ac k wr) (fun i _=>ns.length - (intOf i).toNat)
 case atStart=>exact ⟨0,Nat.zero_le _,rfl,HI.out⟩
 case round=>
  clear c1
  obtain ⟨k,hk,rfl,hI⟩:=hrel
  have HJ:=Hd hI
  clear hI
  by_cases hlt:k < ns.length
  ·have Aj:(k:Int) < (ns.length:Int):=by omega
   obtain ⟨b1,An,rfl,Am,Ah⟩:=(HV.out k wr HJ.out).num1 hlt
   have Ag:=HY.out k wr HJ.out #[.int .i64 ns[k]] rfl
   have Ad:=Hd (HR.out k wr (by simp;omega) HJ.out)
   simp only [List.getElem_map] at Ad
   generalize ns[k]=z at *
   gi_wp2
   refine rIa (Ad.out.mono ?_)
   clear Ag Ah
   rintro e w1 ⟨rfl,hinv⟩
   have HW:=Hd hinv
   clear hinv
   gi_wp2
   go_roundw
   case rel=>exact ⟨k + 1,by omega,by go_num,HW.out⟩
   case measure=>simp [intOf];omega
  ·have Aj:¬ (k:Int) < (ns.length:Int):=by omega
   have Ai:k=ns.length:=by omega
   gi_wp2
   go_end0
   refine ⟨⟨_,rfl⟩,?_⟩
   exact Ai ▸ HJ.out
def IterK (gf:FuncId) (lb:Array Value) (m:Nat) (vs:List (Array Value)) (q:Nat→Prop) (W0:World):Prop:=
 ∀ (l:Nat) (fn0:FuncId) (T:Array Value→Array Value) (A B:Code) (Inv:Nat→World→Prop),
   (∀ k W W',Inv k W→Below W.heap.size W W'→Inv k W')→(∀ k W W' l' o,Inv k W→l < l'→W.heap[l']? = some o→o.isCells=false→Rf.SB l' W W'→Inv k W')→(∀ k W,Inv k W→l < W.heap.size∧Ag q W0 W) →
   (∀ k W,Inv k W→∀ z:Array Value,z.size=m→(Instr.yield l z).run Tryz.prog W = .ok (.round l fn0 (T z) A B) W) →
   (∀ k W (hk:k < vs.length),Inv k W→RoundIn Fence.wide 5 Tryz.prog l fn0 (T vs[k]) A B W (fun e W'=>e = .returned (.bool true)∧Inv (k + 1) W'∧∀ b,l < b→b < W.heap.size→W'.heap[b]? = W.heap[b]?)) →
   ∀ W,Inv 0 W→Calls Tryz.prog gf (#[.func (.yield l) #[] #[]] ++ lb) W fun e W'=>(∃ v,e = .returned v)∧Inv vs.length W'
set_option maxRecDepth 100000 in
set_option maxHeartbeats 4000000 in
theorem numbers_iter (ns:List Int) (b:Nat) (v:Value) (p q:Nat→Prop) (hpq:∀ c,p c→q c) (hok:∀ n ∈ ns,I64 n) (W0:World) (h0:W0.cell? ⟨b,0,none⟩=some v) (hb:q b) (hv:RA 1 intF p W0 v ns) :
  IterK 227 #[.pointer (some ⟨b,0,none⟩)] 1 (ns.map fun n=>#[.agg (wF n).toArray]) q W0:=by
 intro l B2 T A B Aj Be A6 A7 hy hr W hI
 have HI:=Hd hI
 have Al:=Hd Be
 have Ah:=Hd A6
 have Ai:=Hd A7
 have HY:=Hd hy
 have HR:=Hd hr
 have Bx:=Hd hok
 have An:=World.block_lt_of_cell? W0 _ h0
 have c1:=((Ai.out 0 W hI).2.cell An hb).trans h0
 have B7:=(Ai.out 0 W hI).1
 obtain ⟨a,c,rfl,hl,_⟩:=id hv
 have B0:=Hd hv.lt
 clear hI Be A6 A7 hy hr hok hv
 obtain ⟨W1,Bd⟩:∃ W1,W.alloc (.cells #[.func (.yield l) #[] #[]] 306)=W1:=⟨_,rfl⟩
 obtain ⟨k1,A1,Ak⟩:=la2 W (.cells #[.func (.yield l) #[] #[]] 306)
 rw [Bd] at k1 A1 Ak
 have Bw:=World.block_lt_of_cell? W _ c1
 have d1:=(Ak.cell (p:=⟨b,0,none⟩) Bw).trans c1
 obtain ⟨W2,A8⟩:∃ W2,W1.alloc (.cells #[.slice a ns.length c] 54)=W2:=⟨_,rfl⟩
 obtain ⟨k2,Bi,Af⟩:=la2 W1 (.cells #[.slice a ns.length c] 54)
 rw [A8] at k2 Bi Af
 have A2:Below W.heap.size W W2:=Bt Ak Af
 have Av:Aj 0 W2:=Al.out 0 W W2 HI.out A2
 have Ae:=(Ai.out 0 W2 Av).2
 have A9:=Hd (values_iter ns W1.heap.size (.slice a ns.length c) (fun x=>p x∧x < W0.heap.size) (fun x=>(p x∧x < W0.heap.size)∨x=W1.heap.size) (fun _ h => .inl h) W2 (cell_of_row _ _ 0 _ _ _ k2) (.inr rfl) (B0.out.ag ⟨Ae.1,fun x hx hp=>Ae.2 x hx (hpq _ hp.1)⟩))
 have Ay:=Hd Av
 have Bl:=Hd ((Af.block _ (by omega)).trans k1)
 have Ao:=Hd k2
 have Bs:=Hd Af
 clear Av Ae c1 k1 k2 Ak Af A2
 refine (callsIn_wide (n:=5)).1 ?_
 refine callsIn_of_wp_marks Tryz.func227 rfl trivial ?_ rfl
 simp only [Tryz.ntmps227,List.size_toArray,List.length_cons,List.length_nil,Nat.reduceAdd,Nat.reduceSub,Array.replicate_succ,Array.replicate_zero,List.push_toArray,List.append_toArray,List.nil_append,List.cons_append]
 gi_wp2
 refine Rf.wIs ?_
 gi_wp2
 refine wpIn_label ?_
 gi_wp2_with (refine ⟨trivial,?_⟩;gi_at_call 228;refine (callsIn_wide.2 (values_any a ns.length c _)).mono ?_;rintro e w2 ⟨rfl,rfl⟩)
 have Bq:W2.heap.size=W.heap.size + 2:=by omega
 rw [A1] at A9 Ao Bs
 refine Rf.rw2 (gf:=238) (lb:=#[.pointer (some ⟨W.heap.size + 1,0,none⟩)]) rfl (enters_of Tryz.func238 (by kernel_rfl) rfl) ?_
 intro fn W3 hL hD Bf A0
 rw [Bq] at hL hD A0 ⊢
 obtain ⟨Aa,Ac,hL⟩:∃ Aa:Loop,Aa=_∧W3.heap[W.heap.size + 2 + 1]? = some (.loop Aa):=⟨_,rfl,hL⟩
 have Au:=Hd Ac
 have Aw:Aa.state = .ready∧Aa.params.size=1∧Aa.pending=none:=by rw [Ac];exact ⟨rfl,rfl,rfl⟩
 clear Ac
 obtain ⟨Aw,Bj,Bu⟩:=Aw
 have Ab:Below W2.heap.size W2 W3:=Bf
 have Ax:Aj 0 W3∧W3.heap[W.heap.size]? = some (.cells #[.func (.yield l) #[] #[]] 306 (0,0))∧W3.heap[W.heap.size + 1]? = some (.cells #[.slice a ns.length c] 54 (0,0))∧W3.heap[W.heap.size + 2]? = some (.deferred (some []))∧W3.heap[W.heap.size + 2 + 1]? = some (.loop Aa):=
  ⟨Al.out _ _ _ Ay.out Ab,(Ab.block _ (by omega)).trans Bl.out,(Ab.block _ (by omega)).trans Ao.out,hD,hL⟩
 obtain ⟨J,hJ⟩:∃ J:Nat→World→Prop,J=fun k X=>Aj k X∧X.heap[W.heap.size]? = some (.cells #[.func (.yield l) #[] #[]] 306 (0,0))∧X.heap[W.heap.size + 1]? = some (.cells #[.slice a ns.length c] 54 (0,0))∧X.heap[W.heap.size + 2]? = some (.deferred (some []))∧X.heap[W.heap.size + 2 + 1]? = some (.loop Aa):=⟨_,rfl⟩
 have HJ:RowKit.Hid (∀ k X,J k X↔(Aj k X∧X.heap[W.heap.size]? = some (.cells #[.func (.yield l) #[] #[]] 306 (0,0))∧X.heap[W.heap.size + 1]? = some (.cells #[.slice a ns.length c] 54 (0,0))∧X.heap[W.heap.size + 2]? = some (.deferred (some []))∧X.heap[W.heap.size + 2 + 1]? = some (.loop Aa))):=Hd fun k X=>by rw [hJ]
 have Bm:J 0 W3:=(HJ.out _ _).2 Ax
 clear hJ Ax Bf Ab hL hD A0 Bd A8
 refine callsIn_wide.2 ((A9.out (W.heap.size + 2 + 1) Aa.fn (fun v=>(Aa.params.zip v).foldl (fun tmps (t,a)=>tmps.setIfInBounds t a) Aa.tmps) Aa.assign Aa.body J ?_ ?_ ?_ ?_ ?_ W3 Bm).mono ?_)
 ·intro k X X' h hb
  obtain ⟨h1,h2,h3,h4,h5⟩:=(HJ.out _ _).1 h
  exact (HJ.out _ _).2 ⟨Al.out _ _ _ h1 hb,(hb.block _ (Array.getElem?_eq_some_iff.1 h2).1).trans h2,(hb.block _ (Array.getElem?_eq_some_iff.1 h3).1).trans h3,(hb.block _ (Array.getElem?_eq_some_iff.1 h4).1).trans h4,(hb.block _ (Array.getElem?_eq_some_iff.1 h5).1).trans h5⟩
 ·intro k X X' l' o h B5 ho hc hs
  obtain ⟨h1,h2,h3,h4,h5⟩:=(HJ.out _ _).1 h
  exact (HJ.out _ _).2 ⟨Ah.out _ _ _ l' o h1 (by omega) ho hc hs,(hs.block _ (by omega)).trans h2,(hs.block _ (by omega)).trans h3,(hs.block _ (by omega)).trans h4,(hs.block _ (by omega)).trans h5⟩
 ·intro k X h
  obtain ⟨h1,h2,h3,h4,h5⟩:=(HJ.out _ _).1 h
  have hx:=(Array.getElem?_eq_some_iff.1 h5).1
  refine ⟨hx,by omega,fun x hxl Am => ?_⟩
  rcases Am with ⟨Am,A4⟩ | rfl
  ·exact ((Ai.out _ _ h1).2.2 x A4 (hpq _ Am)).trans ((Ai.out _ _ Ay.out).2.2 x A4 (hpq _ Am)).symm
  ·exact h3.trans Ao.out.symm
 ·intro k X h z hz
  obtain ⟨h1,h2,h3,h4,h5⟩:=(HJ.out _ _).1 h
  exact run_yield h5 (by rw [Bj,hz])
 ·intro k X hk h
  obtain ⟨h1,h2,h3,h4,h5⟩:=(HJ.out _ _).1 h
  rw [List.length_map] at hk
  have Br:=Hd h1
  have H2:=Hd h2
  have H5:=Hd h5
  have Bo:=Hd (fun X' (g1:Aj (k + 1) X') (gk:∀ b,l < b→b < X.heap.size→b≠W.heap.size + 2 + 1→X'.heap[b]? = X.heap[b]?) (gl:X'.heap[W.heap.size + 2 + 1]? = some (.loop Aa))=>(HJ.out (k + 1) X').2 ⟨g1,(gk _ (by omega) (Array.getElem?_eq_some_iff.1 h2).1 (by omega)).trans h2,(gk _ (by omega) (Array.getElem?_eq_some_iff.1 h3).1 (by omega)).trans h3,(gk _ (by omega) (Array.getElem?_eq_some_iff.1 h4).1 (by omega)).trans h4,gl⟩)
  have Ap:=Hd (fun X=>HR.out k X (by simpa using hk))
  simp only [List.getElem_map] at Ap ⊢
  have Bz:=Hd (fun X=>wOf_eq ns[k] (Bx.out _ (List.getElem_mem hk)) X)
  unfold wF at Ap
  generalize ns[k]=z at *
  have B6:=Hd (Array.getElem?_eq_some_iff.1 h5).1
  clear h h1 h2 h3 h4 h5
  refine Rf.rw3 (r:=Aa) ?_
  have Bg:=Au.out
  subst Bg
  dsimp only
  gi_wp2_with (rw [Oper.semAt_eq _ _ _ (fun c h=>by cases h)];go_simp;try go_bits)
  refine ⟨H5.out,fun X2 hs2 hl2 => ?_⟩
  have Ag:=(hs2.block W.heap.size (by omega)).trans H2.out
  have At:=Hd (Ah.out k X X2 _ _ Br.out (by omega) H5.out rfl hs2)
  have Bn:=Hd (fun b hb=>hs2.block b hb)
  have B1:=Hd hs2.size
  have Bk:=Hd hl2
  have Bb:=Hd (Array.getElem?_eq_some_iff.1 hl2).1
  have c2:=(cob Ag).1
  have Aq:W.heap.size < X2.heap.size:=by have:=Bb.out;omega
  clear hs2 hl2 Ag
  gi_wp2_with (rw [Oper.semAt_eq _ _ _ (fun c h=>by cases h)];go_simp;try go_bits)
  refine Flow.wIR 3 (Flow.sp3 [.inl ?_,.inl ?_,.inl ?_]) (by kernel_rfl) (by kernel_rfl) (by kernel_rfl) ?_ ?_
  rotate_left 3
  ·refine Flow.sm2 ?_
   repeat (first | exact Flow.ln2 | refine Flow.li2 ?_)
  all_goals try simp only [List.take_succ_cons,List.take_zero,List.drop_succ_cons,List.drop_zero]
  iterate 2 (refine Flow.tvK rfl (fun K hK=>⟨fun w hw hG => ?_,?_⟩);(have B4:=Flow.bc4 hw;clear hG hw;unfold Flow.Runs Flow.yields;go_simp;try rfl);go_simp;refine hK _ ?_;clear hK K)
  (refine Flow.tvK rfl (fun K hK=>⟨fun w hw hG => ?_,?_⟩);(clear hG hw;unfold Flow.Runs Flow.yields;go_simp;refine (Bz.out _).mono ?_;rintro e w5 ⟨rfl,Ad⟩;first | exact ⟨_,rfl,Ad,rfl⟩ | (refine ⟨?_,Ad⟩;rfl));go_simp;refine hK _ ?_;clear hK K)
  refine Flow.tn2 fun X5 hX5 hG => ?_
  clear hG c2
  have As:=Al.out k X2 X5 At.out hX5
  have Bh:=HY.out k X5 As #[.agg #[.int .i64 (wHi z),.int .u64 (wLo z)]] rfl
  have By:=Hd (Ap.out X5 As)
  have Bp:=Hd hX5
  clear As hX5
  gi_wp2_with (rw [Oper.semAt_eq _ _ _ (fun c h=>by cases h)];go_simp;try go_bits)
  refine roundIn_in (By.out.mono ?_)
  clear Bh Aq
  rintro e X6 ⟨rfl,hinv,Ba⟩
  have Bv:=Hd hinv
  have A3:=Hd Ba
  clear hinv Ba
  gi_wp2_with (rw [Oper.semAt_eq _ _ _ (fun c h=>by cases h)];go_simp;try go_bits)
  have B3:=B1.out
  have Ag:=Bb.out
  have Ad:=Bp.out
  have A5:=(A3.out (W.heap.size + 2 + 1) (by omega) (Nat.lt_of_lt_of_le Ag Ad.size)).trans ((Ad.block _ Ag).trans Bk.out)
  refine ⟨A5,fun X7 hs7 hl7=>⟨rfl,Bo.out X7 (Ah.out _ _ _ _ _ Bv.out (by omega) A5 rfl hs7) (fun b h1 h2 h3 => ?_) hl7⟩⟩
  rw [hs7.block b h3,A3.out b h1 (by have:=Ad.size;omega),Ad.block b (by omega),Bn.out b h3]
 ·rintro e W8 ⟨⟨vv,rfl⟩,h⟩
  obtain ⟨h1,h2,h3,h4,h5⟩:=(HJ.out _ _).1 h
  refine ⟨⟨_,rfl⟩,Aa,h5,by rw [Aw];decide,?_⟩
  intro W9 Ar
  rw [Bu]
  dsimp only
  have Az:=Ah.out _ _ _ _ _ h1 (by omega) h5 rfl Ar
  have Bc:=(Ar.block (W.heap.size + 2) (by omega)).trans h4
  have HF:=Hd (Ah.out _ _ _ _ _ Az (by omega) Bc rfl (Rf.SB.put W9 (W.heap.size + 2) (.deferred none)))
  clear h h1 h2 h3 h4 h5 Ar Az
  gi_wp2
  refine ⟨by simp,.inl ⟨_,_,rfl,run_takeDeferred Bc,?_⟩⟩
  refine ⟨.tuple #[],by simp [results,Tryz.results227,go_sem],⟨_,rfl⟩,?_⟩
  have hf:=HF.out
  rw [List.length_map] at hf ⊢
  exact hf
end Go.Proofs.YtaddkkkchkdgkaaGreatDoor
namespace Go.Proofs.YtaddkkkchkdgkaaGreatDoor
open Go.RowKit Go.Sort Go.Shelf
attribute [local go_sem] Oper.semAt_some
set_option maxRecDepth 100000 in
set_option maxHeartbeats 2000000 in
theorem all_any (p:Nat→Prop) (v:Value) (l:List Int) (w:World) (hv:RA 2 wF p w v l) (hl:l.length≤1000) (hok:∀ k,k < l.length→WOk ((l.take k).sum + l.getD k 0)) :
  Calls Tryz.prog 213 #[v] w fun e w'=>e = .returned (.agg #[.int .i64 (wHi l.sum),.int .u64 (wLo l.sum)])∧Below w.heap.size w w':=by
 have HV:=Hd hv
 have An:=Hd hok
 obtain ⟨a,c,rfl,_⟩:=hv
 clear hok
 obtain ⟨W0,Ai⟩:∃ W0,(w.alloc (.cells #[.int .i64 0,.int .u64 0] 60)).alloc (.cells #[.int .i64 0,.int .u64 0] 60)=W0:=⟨_,rfl⟩
 obtain ⟨k0,k1,kS,kB⟩:=la3 w (.cells #[.int .i64 0,.int .u64 0] 60) (.cells #[.int .i64 0,.int .u64 0] 60)
 rw [Ai] at k0 k1 kS kB
 have K0:=Hd k0
 have K1:=Hd k1
 have KB:=Hd kB
 clear k0 k1 kB kS
 go_enter Tryz.func213,Tryz.ntmps213
 go_wp2_with (fail)
 go_loopw [8] (fun i wr => ∃ k:Nat,k≤l.length∧i = .int .i64 k∧wr.heap[w.heap.size]? = some (.cells #[.int .i64 0,.int .u64 0] 60 (0,0))∧wr.heap[w.heap.size + 1]? = some (.cells #[.int .i64 (wHi (l.take k).sum),.int .u64 (wLo (l.take k).sum)] 60 (0,0))∧Below w.heap.size w wr) (fun i _=>l.length - (intOf i).toNat)
 case atStart=>exact ⟨0,Nat.zero_le _,rfl,K0.out,K1.out,KB.out⟩
 case round=>
  clear Ai
  obtain ⟨k,hk,rfl,h0,h1,hB⟩:=hrel
  by_cases hlt:k < l.length
  ·have Am:(k:Int) < (l.length:Int):=by omega
   obtain ⟨b,Ap,rfl,hb,c0,c1⟩:=(HV.out.ag (Ag.new p hB)).num2 hlt
   have Af:=An.out k hlt
   have Ak:l.getD k 0=l[k]:=by simp [List.getD,hlt]
   rw [Ak] at Af
   have Ab:(l.take (k + 1)).sum=(l.take k).sum + l[k]:=by rw [List.take_succ_eq_append_getElem hlt,List.sum_append_int];simp
   have Ad:=Hd (fun W=>wAa (l.take k).sum l[k] Af W)
   rw [← Ab] at Ad
   have H0:=Hd h0
   have H1:=Hd h1
   have HB:=Hd hB
   have Ac:w.heap.size + 1 < wr.heap.size:=(Array.getElem?_eq_some_iff.1 h1).1
   obtain ⟨⟨x0,x1⟩,_⟩:=can2 h1
   clear Af Ak Ab h0 h1 hB
   generalize hS':(l.take (k + 1)).sum=S' at *
   have Ao:=Hd hS'
   clear hS'
   generalize (l.take k).sum=S at *
   generalize l[k]=z at *
   obtain ⟨W1,Aj⟩:∃ W1,wr.alloc (.cells #[.int .i64 (wHi z),.int .u64 (wLo z)] 60)=W1:=⟨_,rfl⟩
   obtain ⟨q1,qS,qB⟩:=la2 wr (.cells #[.int .i64 (wHi z),.int .u64 (wLo z)] 60)
   rw [Aj] at q1 qS qB
   obtain ⟨⟨y0,y1⟩,_⟩:=can2 q1
   have r1:=(qB.block _ Ac).trans H1.out
   obtain ⟨⟨z0,z1⟩,_⟩:=can2 r1
   have Al:=Hd qB
   clear q1 qS qB r1
   go_wp2_with (fail)
   go_at_call 97
   refine (Ad.out _).mono ?_
   rintro e w2 ⟨rfl,Ah⟩
   have Aa:=Bt Al.out Ah
   have g1:=(Aa.block _ Ac).trans H1.out
   have g0:=(Aa.block w.heap.size (by omega)).trans H0.out
   obtain ⟨_,f0,f1⟩:=can2 g1
   have G1:=Hd g1
   have G0:=Hd g0
   have Ae:=Hd (Bt HB.out Aa)
   clear Ah Aa g1 g0 x0 x1 y0 y1 z0 z1 c0 c1 Aj
   go_wp2
   go_roundw
   case rel=>
    refine ⟨k + 1,by omega,by go_num,?_,by rw [Ao.out];exact heap_setCell_same _ _ 1 _ _ (.int .u64 (wLo S')) (heap_setCell_same _ _ 0 _ _ (.int .i64 (wHi S')) G1.out),(Ae.out.setCell (by show _≤w.heap.size + 1;omega) _).setCell (by show _≤w.heap.size + 1;omega) _⟩
    rw [heap_setCell_other _ _ _ _ (show w.heap.size≠w.heap.size + 1 by omega),heap_setCell_other _ _ _ _ (show w.heap.size≠w.heap.size + 1 by omega)]
    exact G0.out
   case measure=>simp [intOf];omega
  ·have Am:¬ (k:Int) < (l.length:Int):=by omega
   obtain rfl:k=l.length:=by omega
   rw [List.take_length] at h1
   obtain ⟨⟨x0,x1⟩,_⟩:=can2 h1
   obtain ⟨⟨y0,y1⟩,f0,f1⟩:=can2 h0
   have hq:=heap_setCell_same _ _ 1 _ _ (.int .u64 (wLo l.sum)) (heap_setCell_same _ _ 0 _ _ (.int .i64 (wHi l.sum)) h0)
   obtain ⟨⟨e0,e1⟩,_⟩:=can2 hq
   have Ae:RowKit.Hid (Below w.heap.size w ((wr.setCell ⟨w.heap.size,0,none⟩ (.int .i64 (wHi l.sum))).setCell ⟨w.heap.size,1,none⟩ (.int .u64 (wLo l.sum)))):=Hd ((hB.setCell (Nat.le_refl _) _).setCell (Nat.le_refl _) _)
   clear h0 h1 hB hq
   go_wp2_with (fail)
   refine bodyPost_ret (v:=.agg #[.int .i64 (wHi l.sum),.int .u64 (wLo l.sum)]) (by simp [results,Tryz.results213,go_sem,e0,e1]) rfl ⟨rfl,Ae.out⟩
theorem all2_any (x y:Int) (b:Nat) (w:World) (hx:WOk x) (hxy:WOk (x + y)) (h:w.heap[b]? = some (.cells #[.int .i64 (wHi x),.int .u64 (wLo x),.int .i64 (wHi y),.int .u64 (wLo y)] 60 (0,0))) :
  Calls Tryz.prog 213 #[.slice (some ⟨b,0,none⟩) 2 2] w fun e w'=>e = .returned (.agg #[.int .i64 (wHi (x + y)),.int .u64 (wLo (x + y))])∧Below w.heap.size w w':=by
 have hb:=(Array.getElem?_eq_some_iff.1 h).1
 have hr:RA 2 wF (fun _=>True) w (.slice (some ⟨b,0,none⟩) 2 2) [x,y]:=by
  refine ⟨_,2,rfl,(show (2:Nat)≤maxLen by decide),Nat.le_refl 2,(fun e=>by cases e),fun _=>⟨b,0,rfl,hb,trivial,fun j hj i hi => ?_⟩⟩
  have Ab:j < 2:=hj
  rcases (show j=0∨j=1 by omega) with rfl | rfl <;> rcases (show i=0∨i=1 by omega) with rfl | rfl
  ·exact cell_of_row _ _ 0 _ _ _ h
  ·exact cell_of_row _ _ 1 _ _ _ h
  ·exact cell_of_row _ _ 2 _ _ _ h
  ·exact cell_of_row _ _ 3 _ _ _ h
 have:=all_any _ _ [x,y] w hr (show (2:Nat)≤1000 by decide) (fun k hk=>by
  have Aa:k < 2:=hk
  rcases (show k=0∨k=1 by omega) with rfl | rfl
  ·simpa using hx
  ·simpa using hxy)
 simpa using this
end Go.Proofs.YtaddkkkchkdgkaaGreatDoor
namespace Go.Proofs.YtaddkkkchkdgkaaGreatDoor
open Go.RowKit Go.Sort Go.Shelf
attribute [local go_sem] Oper.semAt_some
set_option maxRecDepth 100000 in
set_option maxHeartbeats 4000000 in
theorem wSum_any (p:Nat→Prop) (v:Value) (ns:List Int) (w:World) (hv:RA 1 intF p w v ns) (hok:∀ n ∈ ns,I64 n) (hs:∀ k,k < ns.length→WOk (ns.take k).sum∧WOk ((ns.take k).sum + ns.getD k 0)) :
  Calls Tryz.prog 181 #[v] w fun e w'=>e = .returned (.agg #[.int .i64 (wHi ns.sum),.int .u64 (wLo ns.sum)])∧Below w.heap.size w w':=by
 have Bn:=Hd hv.lt
 have HS:=Hd hs
 obtain ⟨a,c,rfl,_⟩:=id hv
 clear hv hs
 obtain ⟨W1,A5⟩:∃ W1,((w.alloc (.cells #[.int .i64 0,.int .u64 0] 60)).alloc (.cells #[.int .i64 0,.int .u64 0] 60)).alloc (.cells #[.slice a ns.length c] 54)=W1:=⟨_,rfl⟩
 obtain ⟨k0,k1,k2,kS,kB⟩:=laid3 w (.cells #[.int .i64 0,.int .u64 0] 60) (.cells #[.int .i64 0,.int .u64 0] 60) (.cells #[.slice a ns.length c] 54)
 rw [A5] at k0 k1 k2 kS kB
 have Bp:=Hd (numbers_iter ns (w.heap.size + 2) (.slice a ns.length c) (fun x=>p x∧x < w.heap.size) (fun x=>(p x∧x < w.heap.size)∨x=w.heap.size + 2) (fun _ h => .inl h) hok W1 (cell_of_row _ _ 0 _ _ _ k2) (.inr rfl) (Bn.out.ag (Ag.new _ kB)))
 have K0:=Hd k0
 have K1:=Hd k1
 have K2:=Hd k2
 have KB:=Hd kB
 clear k0 k1 k2 kB
 refine (callsIn_wide (n:=5)).1 ?_
 refine callsIn_of_wp_marks Tryz.func181 rfl trivial ?_ rfl
 simp only [Tryz.ntmps181,List.size_toArray,List.length_cons,List.length_nil,Nat.reduceAdd,Nat.reduceSub,Array.replicate_succ,Array.replicate_zero,List.push_toArray,List.append_toArray,List.nil_append,List.cons_append]
 gi_wp2_with (refine ⟨trivial,?_⟩;gi_at_call 212;refine (callsIn_wide.2 (numbers_any a ns.length c _)).mono ?_;rintro e w2 ⟨rfl,rfl⟩)
 refine Rf.rw2 (gf:=227) (lb:=#[.pointer (some ⟨w.heap.size + 2,0,none⟩)]) rfl (enters_of Tryz.func227 (by kernel_rfl) rfl) ?_
 intro fn W3 hL hD Al Ay
 rw [kS] at hL hD Ay ⊢
 obtain ⟨Aa,Ab,hL⟩:∃ Aa:Loop,Aa=_∧W3.heap[w.heap.size + 3 + 1]? = some (.loop Aa):=⟨_,rfl,hL⟩
 have Aw:=Hd Ab
 have Ax:Aa.state = .ready∧Aa.params.size=1∧Aa.pending=none:=by rw [Ab];exact ⟨rfl,rfl,rfl⟩
 clear Ab
 obtain ⟨Ax,Bb,Bj⟩:=Ax
 obtain ⟨J,hJ⟩:∃ J:Nat→World→Prop,J=fun k X=>X.heap[w.heap.size]? = some (.cells #[.int .i64 0,.int .u64 0] 60 (0,0))∧X.heap[w.heap.size + 1]? = some (.cells #[.int .i64 (wHi (ns.take k).sum),.int .u64 (wLo (ns.take k).sum)] 60 (0,0))∧X.heap[w.heap.size + 2]? = some (.cells #[.slice a ns.length c] 54 (0,0))∧X.heap[w.heap.size + 3]? = some (.deferred (some []))∧X.heap[w.heap.size + 3 + 1]? = some (.loop Aa)∧Below w.heap.size w X:=⟨_,rfl⟩
 have HJ:RowKit.Hid (∀ k X,J k X↔(X.heap[w.heap.size]? = some (.cells #[.int .i64 0,.int .u64 0] 60 (0,0))∧X.heap[w.heap.size + 1]? = some (.cells #[.int .i64 (wHi (ns.take k).sum),.int .u64 (wLo (ns.take k).sum)] 60 (0,0))∧X.heap[w.heap.size + 2]? = some (.cells #[.slice a ns.length c] 54 (0,0))∧X.heap[w.heap.size + 3]? = some (.deferred (some []))∧X.heap[w.heap.size + 3 + 1]? = some (.loop Aa)∧Below w.heap.size w X)):=Hd fun k X=>by rw [hJ]
 have Bf:J 0 W3:=(HJ.out _ _).2 ⟨(Al.block _ (by omega)).trans K0.out,(Al.block _ (by omega)).trans K1.out,(Al.block _ (by omega)).trans K2.out,hD,hL,Bt KB.out Al⟩
 clear hJ Al hL hD Ay A5
 refine callsIn_wide.2 ((Bp.out (w.heap.size + 3 + 1) Aa.fn (fun v=>(Aa.params.zip v).foldl (fun tmps (t,a)=>tmps.setIfInBounds t a) Aa.tmps) Aa.assign Aa.body J ?_ ?_ ?_ ?_ ?_ W3 Bf).mono ?_)
 ·intro k X X' h hb
  obtain ⟨h1,h2,h3,h4,h5,h6⟩:=(HJ.out _ _).1 h
  exact (HJ.out _ _).2 ⟨(hb.block _ (Array.getElem?_eq_some_iff.1 h1).1).trans h1,(hb.block _ (Array.getElem?_eq_some_iff.1 h2).1).trans h2,(hb.block _ (Array.getElem?_eq_some_iff.1 h3).1).trans h3,(hb.block _ (Array.getElem?_eq_some_iff.1 h4).1).trans h4,(hb.block _ (Array.getElem?_eq_some_iff.1 h5).1).trans h5,Bt h6 hb⟩
 ·intro k X X' l' o h Br ho hc hs
  obtain ⟨h1,h2,h3,h4,h5,h6⟩:=(HJ.out _ _).1 h
  exact (HJ.out _ _).2 ⟨(hs.block _ (by omega)).trans h1,(hs.block _ (by omega)).trans h2,(hs.block _ (by omega)).trans h3,(hs.block _ (by omega)).trans h4,(hs.block _ (by omega)).trans h5,h6.trans (hs.below (by omega))⟩
 ·intro k X h
  obtain ⟨h1,h2,h3,h4,h5,h6⟩:=(HJ.out _ _).1 h
  have hx:=(Array.getElem?_eq_some_iff.1 h5).1
  refine ⟨hx,by omega,fun x hxl A3 => ?_⟩
  rcases A3 with ⟨A3,A2⟩ | rfl
  ·exact (h6.block x A2).trans (KB.out.block x A2).symm
  ·exact h3.trans K2.out.symm
 ·intro k X h z hz
  obtain ⟨h1,h2,h3,h4,h5,h6⟩:=(HJ.out _ _).1 h
  exact run_yield h5 (by rw [Bb,hz])
 ·intro k X hk h
  obtain ⟨h1,h2,h3,h4,h5,h6⟩:=(HJ.out _ _).1 h
  rw [List.length_map] at hk
  have HX:=Hd (HJ.out k X)
  have Bq:=Hd h
  have Am:=HS.out k hk
  have A7:ns.getD k 0=ns[k]:=by simp [List.getD,hk]
  rw [A7] at Am
  have Ah:(ns.take (k + 1)).sum=(ns.take k).sum + ns[k]:=by rw [List.take_succ_eq_append_getElem hk,List.sum_append_int];simp
  have Aq:=Hd (fun b W=>all2_any (ns.take k).sum ns[k] b W Am.1 Am.2)
  have Az:=Hd (HJ.out (k + 1))
  rw [Ah] at Az
  simp only [List.getElem_map]
  unfold wF
  clear Am A7 Ah HJ
  have H1:=Hd h1
  have H2:=Hd h2
  have H3:=Hd h3
  have H4:=Hd h4
  have H5:=Hd h5
  have H6:=Hd h6
  have A0:=Hd (Array.getElem?_eq_some_iff.1 h5).1
  generalize (ns.take k).sum=S at *
  generalize ns[k]=z at *
  generalize J (k + 1)=J' at *
  clear h h1 h2 h3 h4 h5 h6
  refine Rf.rw3 (r:=Aa) ?_
  have Ba:=Aw.out
  subst Ba
  dsimp only
  obtain ⟨X1,Bk⟩:∃ X1,X.alloc (.cells #[.int .i64 (wHi z),.int .u64 (wLo z)] 60)=X1:=⟨_,rfl⟩
  obtain ⟨q1,qS,qB⟩:=la2 X (.cells #[.int .i64 (wHi z),.int .u64 (wLo z)] 60)
  rw [Bk] at q1 qS qB
  have Q1:=Hd q1
  have QS:=Hd qS
  have QB:=Hd qB
  clear q1 qS qB
  gi_wp2_with (rw [Oper.semAt_eq _ _ _ (fun c h=>by cases h)];go_simp;try go_bits)
  have Ap:=A0.out
  refine ⟨(QB.out.block _ Ap).trans H5.out,fun X2 hs2 hl2 => ?_⟩
  have Bi:=QS.out
  have At:=hs2.size
  have g1:=(hs2.block (w.heap.size + 1) (by omega)).trans ((QB.out.block _ (by omega)).trans H2.out)
  have gq:=(hs2.block X.heap.size (by omega)).trans Q1.out
  obtain ⟨⟨x0,x1⟩,_⟩:=can2 g1
  obtain ⟨⟨y0,y1⟩,_⟩:=can2 gq
  obtain ⟨X3,A8⟩:∃ X3,X2.alloc (.cells #[.int .i64 (wHi S),.int .u64 (wLo S),.int .i64 (wHi z),.int .u64 (wLo z)] 60)=X3:=⟨_,rfl⟩
  obtain ⟨r1,rS,rB⟩:=la2 X2 (.cells #[.int .i64 (wHi S),.int .u64 (wLo S),.int .i64 (wHi z),.int .u64 (wLo z)] 60)
  rw [A8] at r1 rS rB
  have Bo:=Hd (Aq.out _ _ r1)
  have Ar:=Hd (show ∀ b,b < X.heap.size→b≠w.heap.size + 3 + 1→X3.heap[b]? = X.heap[b]? from fun b h1 h2=>(rB.block b (by omega)).trans ((hs2.block b h2).trans (QB.out.block b h1)))
  have Bl:=Hd ((rB.block _ (by omega)).trans hl2)
  have Bd:=Hd (Bt ((Bt H6.out QB.out).trans (hs2.below (by omega))) rB)
  have A9:=Hd (show X.heap.size < X3.heap.size by omega)
  have A1:=Hd ((rB.block (w.heap.size + 1) (by omega)).trans g1)
  clear g1 gq r1 rS rB Bi At hs2 hl2 Ap
  gi_wp2_with (first | (refine ⟨trivial,?_⟩;gi_at_call 213;refine CallsIn.mono (CallsIn.inRound _ (callsIn_wide.2 Bo.out)) ?_;rintro e w5 ⟨rfl,Ac⟩;have Bh:=Hd Ac;have As:=(Ac.block _ (Array.getElem?_eq_some_iff.1 A1.out).1).trans A1.out;have Bg:=Hd As;obtain ⟨⟨p0,p1⟩,f0,f1⟩:=can2 As;clear Ac As) | (rw [Oper.semAt_eq _ _ _ (fun c h=>by cases h)];go_simp;try go_bits))
  have Ac:=Bh.out
  have Ap:=A0.out
  have Bs:=A9.out
  obtain ⟨W6,Ao⟩:∃ W6,(w5.setCell ⟨w.heap.size + 1,0,none⟩ (.int .i64 (wHi (S + z)))).setCell ⟨w.heap.size + 1,1,none⟩ (.int .u64 (wLo (S + z)))=W6:=⟨_,rfl⟩
  have Ai:∀ b,b≠w.heap.size + 1→W6.heap[b]? = w5.heap[b]? := fun b hb=>by rw [← Ao,heap_setCell_other _ _ _ _ (show b≠w.heap.size + 1 from hb),heap_setCell_other _ _ _ _ (show b≠w.heap.size + 1 from hb)]
  have An:∀ b,b < X.heap.size→b≠w.heap.size + 3 + 1→b≠w.heap.size + 1→W6.heap[b]? = X.heap[b]? := fun b h1 h2 h3=>(Ai b h3).trans ((Ac.block b (by omega)).trans (Ar.out b h1 h2))
  have Bm:=(Ai (w.heap.size + 3 + 1) (by omega)).trans ((Ac.block _ (by omega)).trans Bl.out)
  have Be:W6.heap[w.heap.size + 1]? = some (.cells #[.int .i64 (wHi (S + z)),.int .u64 (wLo (S + z))] 60 (0,0)):=by rw [← Ao];exact heap_setCell_same _ _ 1 _ _ (.int .u64 (wLo (S + z))) (heap_setCell_same _ _ 0 _ _ (.int .i64 (wHi (S + z))) Bg.out)
  have Bc:Below w.heap.size w W6:=by rw [← Ao];exact ((Bt Bd.out Ac).setCell (by show _≤w.heap.size + 1;omega) _).setCell (by show _≤w.heap.size + 1;omega) _
  rw [Ao]
  refine ⟨Bm,fun X7 hs7 hl7=>⟨rfl,(Az.out X7).2 ⟨?_,?_,?_,?_,hl7,Bc.trans (hs7.below (by omega))⟩,fun b h1 h2 => ?_⟩⟩
  ·exact (hs7.block _ (by omega)).trans ((An _ (by omega) (by omega) (by omega)).trans H1.out)
  ·exact (hs7.block _ (by omega)).trans Be
  ·exact (hs7.block _ (by omega)).trans ((An _ (by omega) (by omega) (by omega)).trans H3.out)
  ·exact (hs7.block _ (by omega)).trans ((An _ (by omega) (by omega) (by omega)).trans H4.out)
  ·exact (hs7.block b (by omega)).trans (An b h2 (by omega) (by omega))
 ·rintro e W8 ⟨⟨vv,rfl⟩,h⟩
  rw [List.length_map,HJ.out,List.take_length] at h
  obtain ⟨h1,h2,h3,h4,h5,h6⟩:=h
  refine ⟨⟨_,rfl⟩,Aa,h5,by rw [Ax];decide,?_⟩
  intro W9 Aj
  rw [Bj]
  dsimp only
  have A6:=(Aj.block (w.heap.size + 3) (by omega)).trans h4
  have g0:=(Aj.block w.heap.size (by omega)).trans h1
  have g1:=(Aj.block (w.heap.size + 1) (by omega)).trans h2
  have A4:=h6.trans (Aj.below (by omega))
  obtain ⟨⟨x0,x1⟩,_⟩:=can2 g1
  obtain ⟨_,f0,f1⟩:=can2 g0
  have hq:=heap_setCell_same _ _ 1 _ _ (.int .u64 (wLo ns.sum)) (heap_setCell_same _ _ 0 _ _ (.int .i64 (wHi ns.sum)) g0)
  obtain ⟨Ae,Ad⟩:∃ Ae,(W9.setCell ⟨w.heap.size,0,none⟩ (.int .i64 (wHi ns.sum))).setCell ⟨w.heap.size,1,none⟩ (.int .u64 (wLo ns.sum))=Ae:=⟨_,rfl⟩
  have Ak:Below w.heap.size w Ae:=by rw [← Ad];exact (A4.setCell (Nat.le_refl _) _).setCell (Nat.le_refl _) _
  have Au:Ae.heap[w.heap.size + 3]? = some (.deferred (some [])):=by rw [← Ad,heap_setCell_other _ _ _ _ (show w.heap.size + 3≠w.heap.size by omega),heap_setCell_other _ _ _ _ (show w.heap.size + 3≠w.heap.size by omega)];exact A6
  rw [Ad] at hq
  have Af:=(World.putObj_heap_other (w:=Ae) (o:=.deferred none) (show w.heap.size≠w.heap.size + 3 by omega)).trans hq
  obtain ⟨⟨e0,e1⟩,_⟩:=can2 Af
  have Av:=Hd (Ak.trans ((Rf.SB.put Ae (w.heap.size + 3) (.deferred none)).below (show w.heap.size≤w.heap.size + 3 by omega)))
  clear h1 h2 h3 h4 h5 h6 Aj g0 g1 A4 hq Af Ak A6
  gi_wp2
  refine ⟨by simp,.inl ⟨_,_,rfl,run_takeDeferred Au,?_⟩⟩
  refine ⟨.agg #[.int .i64 (wHi ns.sum),.int .u64 (wLo ns.sum)],by simp [results,Tryz.results181,go_sem,e0,e1],rfl,Av.out⟩
end Go.Proofs.YtaddkkkchkdgkaaGreatDoor
