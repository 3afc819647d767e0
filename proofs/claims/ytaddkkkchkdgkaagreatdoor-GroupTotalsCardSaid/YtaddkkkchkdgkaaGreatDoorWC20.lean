/- Joined by mergeK.py: K28p, FlI, K28, FlJ, K29, K30 -/
import Derived.Test.YtaddkkkchkdgkaaGreatDoorWC07
import Derived.Test.YtaddkkkchkdgkaaGreatDoorWC12
import Derived.Test.YtaddkkkchkdgkaaGreatDoorWC01
import Derived.OwnWalkIn
import Derived.RegionIn
import Derived.Test.YtaddkkkchkdgkaaGreatDoorWC09
import Derived.RangeFuncCalls
import Derived.Test.YtaddkkkchkdgkaaGreatDoorWC05
import Derived.Test.YtaddkkkchkdgkaaGreatDoorWC06
import Derived.Test.YtaddkkkchkdgkaaGreatDoorWC15
namespace Go.Proofs.YtaddkkkchkdgkaaGreatDoor
open Go.RowKit Go.Sort
theorem mul_bound {n m:Int} (hn:I64 n) (hm:0≤m∧m≤1000000) : -9223372036854775808000000≤n * m∧n * m≤9223372036854775808000000:=by
 obtain ⟨h1,h2⟩:=hn
 have a1 : -9223372036854775808 * m≤n * m:=Int.mul_le_mul_of_nonneg_right h1 hm.1
 have a2:n * m≤9223372036854775807 * m:=Int.mul_le_mul_of_nonneg_right h2 hm.1
 omega
theorem mul_halves (n:Int) (m:Nat) (hn:I64 n) (hm:m≤1000000):∃ a:Nat,IntKind.u64.wrap n=a∧a < 18446744073709551616∧((a * m % 18446744073709551616:Nat):Int)=wLo (n * m)∧((a * m / 18446744073709551616:Nat):Int) - (if n < 0 then (m:Int) else 0)=wHi (n * m)∧a * m / 18446744073709551616≤1000000:=by
 obtain ⟨a,ha⟩:∃ a:Nat,IntKind.u64.wrap n=a:=⟨(n % 18446744073709551616).toNat,by rw [wrap_u64'];omega⟩
 refine ⟨a,ha,?_⟩
 rw [wrap_u64'] at ha
 obtain ⟨h1,h2⟩:=hn
 have hlt:a < 18446744073709551616:=by omega
 obtain ⟨k,hk,hkm⟩:∃ k:Int,k=(if n < 0 then (m:Int) else 0)∧(a:Int) * m=n * m + k * 18446744073709551616:=by
  refine ⟨_,rfl,?_⟩
  split
  ·have e:(a:Int)=n + 18446744073709551616:=by omega
   rw [e,Int.add_mul,Int.mul_comm 18446744073709551616]
  ·have e:(a:Int)=n:=by omega
   rw [e];omega
 have hd:a * m / 18446744073709551616≤1000000:=by
  refine Nat.le_trans ?_ hm
  refine Nat.div_le_of_le_mul ?_
  exact Nat.mul_le_mul_right m (by omega)
 rw [← hk]
 have hc:((a * m:Nat):Int)=n * m + k * 18446744073709551616:=by rw [Int.natCast_mul];exact hkm
 generalize a * m=U at *
 generalize n * m=P at *
 unfold wLo wHi
 refine ⟨hlt,?_,?_,hd⟩ <;> omega
def cmpI (x y:Int):Int:=if x < y then -1 else if y < x then 1 else 0
theorem cmp_wide (n m:Int):(if cmpI (wHi n) (wHi m)≠0 then cmpI (wHi n) (wHi m) else cmpI (wLo n) (wLo m))=cmpI n m:=by
 unfold wHi wLo cmpI
 split <;> split <;> (try split) <;> (try split) <;> omega
theorem cmpI_le (n m:Int):cmpI n m≤0↔n≤m:=by unfold cmpI;split <;> (try split) <;> omega
end Go.Proofs.YtaddkkkchkdgkaaGreatDoor
namespace Go.Flow
open Go Go.RowKit
section
variable {P:Program} {ops:Array Oper} {n:Nat}
theorem wpIn_of_yields {o:Oper} {a:Act} {w:World} {K:Act→World→Prop} {Q:Exit→Act→World→Prop} (hy:yields P o a.eval w fun v w'=>K (a.put o.dst v) w'):o.wpIn Fence.wide n P a w K Q:=by
 unfold Oper.wpIn
 refine ⟨fun _ _=>trivial,?_⟩
 have he:o.semAt Fence.wide.round a.eval=execOp a.eval o:=by simp [Oper.semAt,Fence.wide]
 rw [he]
 unfold yields at hy
 generalize (execOp a.eval o).run P w=r at *
 cases r with
 | ok nx w'=>
   cases nx <;> simp only [Oper.uponIn] <;> first
    | exact hy
    | exact (show False from hy).elim
    | exact ⟨(fun h=>by cases h),callsIn_wide.2 (Calls.mono hy (fun e w'' ⟨v,he,hr⟩=>by subst he;exact hr))⟩
 | halt x w'=>exact hy.elim
theorem wpAnyIn_of_seq {md:Region.Mode} {F:Fence} {Q':Exit→Act→World→Prop}:∀ (l:List Oper) (k:Nat) (listed:Array Bool) (a:Act) (w:World),(∀ j,l[j]? = ops[k + j]?) →
  Region.seqB md ops l.length k listed=true→wpListIn F n P ops Q' l a w→wpAnyIn F n P md ops Q' l.length listed a w
 | [],_,_,_,_,_,hB,h=>⟨by simpa [Region.seqB] using hB,h⟩
 | o :: l,k,listed,a,w,hl,hB,h=>by
   have h0:ops[k]? = some o:=by simpa using (hl 0).symm
   simp only [List.length_cons,Region.seqB,Bool.and_eq_true,decide_eq_true_eq] at hB
   refine ⟨fun h1=>(by rw [hB.1] at h1;cases h1),fun i hi => ?_⟩
   rw [hB.1] at hi
   have hik:i=k:=by simpa using hi
   subst hik
   have hw:wpOpIn F n P ops Q' i (wpListIn F n P ops Q' l) a w:=by unfold wpOpIn;simp only [h0];exact h
   exact wpOpIn_mono (fun a' w' h'=>wpAnyIn_of_seq l (i + 1) _ a' w' (fun j=>by have:=hl (j + 1);simpa [Nat.add_assoc,Nat.add_comm 1 j] using this) hB.2 h') hw
theorem wpAnyIn_of_anyFL {S:Nat→Spec} {w0:World} (hS:∀ i,(S i).mono) {m g:Nat} {L:Array Bool→Act→(Nat→World→Prop)→Prop} {Q:Exit→Act→World→Prop}
  (hL:∀ listed a Γ w,L listed a Γ→Below w0.heap.size w0 w→(∀ j,Γ j w)→wpAnyIn Fence.wide n P .any ops Q g listed a w):∀ (f:Nat) (listed:Array Bool) (a:Act) (Γ:Nat→World→Prop) (w:World),
  anyFL P ops S w0 m L f listed a Γ→Below w0.heap.size w0 w→(∀ j,Γ j w)→(∀ j,Mono (Γ j))→wpAnyIn Fence.wide n P .any ops Q (f + g) listed a w
 | 0,_,_,_,_,h,hB,hG,_=>by rw [Nat.zero_add];exact hL _ _ _ _ h hB hG
 | f + 1,listed,a,Γ,w,h,hB,hG,hM=>by
   rw [show f + 1 + g=(f + g) + 1 by omega]
   refine ⟨fun h0=>absurd h0 h.1,fun i hi => ?_⟩
   have h1:=(h.2 i hi).2
   unfold fOp at h1
   unfold wpOpIn
   have hM':∀ v j,Mono (upd Γ i ((S i).holds v) j):=fun v j=>by
    by_cases e:j=i
    ·subst e;rw [upd_same];exact hS j v
    ·rw [upd_ne e];exact hM j
   have hG':∀ v w',Below w.heap.size w w'→(S i).holds v w'→∀ j,upd Γ i ((S i).holds v) j w':=fun v w' hb hv j=>by
    by_cases e:j=i
    ·subst e;rw [upd_same];exact hv
    ·rw [upd_ne e];exact hM j _ _ (hG j) hb
   have hok:∀ v w',(S i).holds v w'→(S i).ok v:=fun v w' hv=>by
    cases hs:S i with
    | inl u=>rw [hs] at hv;exact hv
    | inr V=>trivial
   split
   ·rename_i ho
    simp only [ho] at h1
    exact wpAnyIn_of_anyFL hS hL f _ _ _ _ h1 hB hG hM
   ·rename_i o ho
    simp only [ho] at h1
    have h2:=h1.1 w hB (fun j _=>hG j)
    unfold Runs at h2
    split
    ·rename_i hw
     simp only [hw,if_true] at h2
     refine wpIn_of_yields (yields_mono ?_ h2)
     intro v w' ⟨hb,hv⟩
     exact wpAnyIn_of_anyFL hS hL f _ _ _ _ (h1.2 v (hok v w' hv)) (hB.trans (hb.mono hB.size)) (hG' v w' hb hv) (hM' v)
    ·rename_i hw
     simp only [hw] at h2
     exact ⟨fun _ _=>trivial,wpAnyIn_of_anyFL hS hL f _ _ _ _ (h1.2 undef (hok _ _ h2)) hB (hG' _ _ (Below.refl _ _) h2) (hM' _)⟩
theorem wpIn_region_flow_tail {id:Nat} {Q:Exit→Act→World→Prop} {a:Act} {w:World} {l:List Oper} (m:Nat) (S:Nat→Spec) (hm:P.follows .mixedOrders=true) (hB:Region.lexTailB .any l.toArray m=true) (hS:∀ i,(S i).mono)
  (h:Tree P l.toArray S w (fun a' Γ => ∀ w',Below w.heap.size w w'→(∀ j,Γ j w')→wpListIn Fence.wide n P l.toArray Q (l.drop m) a' w') (l.take m) 0 a (fun _ _=>True)):(Code.region id l.toArray true).wpIn Fence.wide n P Q a w:=by
 simp only [Region.lexTailB,Bool.and_eq_true,decide_eq_true_eq] at hB
 obtain ⟨⟨⟨⟨hsel,hn⟩,hs⟩,hc⟩,hlex⟩:=hB
 have hn':m < l.length:=by simpa using hn
 have htl:(l.take m).length=m:=by simp;omega
 have hdl:(l.drop m).length=l.toArray.size - m:=by simp
 have inv0:HeadInv .any l.toArray m (Array.replicate l.toArray.size false):=
  ⟨by simp,fun j oj _ hl=>(by rw [getD_replicate_false] at hl;cases hl),fun t _ ht=>getD_in (by simpa using ht) (getD_replicate_false _ _)⟩
 have H:=anyFL_lex (g:=l.toArray.size - m) hsel hs hc hn (l.take m) 0 _ a (fun _ _=>True) (fun j hj=>by
  have hj':j < m:=by rw [htl] at hj;exact hj
  simp [hj']) (by simpa using htl) inv0 (by rw [htl];exact hlex) h
 refine wpIn_region_any hm ?_
 have:=wpAnyIn_of_anyFL (n:=n) (Q:=Q) (g:=l.toArray.size - m) hS (fun listed a' Γ' w' hL hb hG=>by
  have:=wpAnyIn_of_seq (md:=.any) (F:=Fence.wide) (n:=n) (Q':=Q) (l.drop m) m listed a' w' (fun j=>by simp [List.getElem?_drop]) (by rw [hdl];exact hL.1) (hL.2 w' hb hG)
  rwa [hdl] at this) _ _ _ _ { w with drawn:=w.drawn + 1 } H ((Below.refl _ _).drew) (fun _=>trivial) (fun _ _ _ _ _=>trivial)
 rw [htl,show m + (l.toArray.size - m)=l.toArray.size by omega] at this
 exact this
end
end Go.Flow
namespace Go.Proofs.YtaddkkkchkdgkaaGreatDoor
open Go.RowKit Go.Sort
set_option maxRecDepth 100000 in
theorem cmp64_any (x y:Int) (w:World):Calls Tryz.prog 107 #[.int .i64 x,.int .i64 y] w fun e w'=>e = .returned (.int .i64 (cmpI x y))∧Below w.heap.size w w':=by
 have HB:=Lib.hid (Below.refl w.heap.size w)
 rcases Int.lt_trichotomy x y with h | h | h
 ·have hc:cmpI x y = -1:=by unfold cmpI;rw [if_pos h]
  rw [hc]
  clear hc
  go_enter Tryz.func107,Tryz.ntmps107
  go_wp2
  go_ret
  exact ⟨rfl,HB.out⟩
 ·subst h
  have hc:cmpI x x=0:=by unfold cmpI;simp
  rw [hc]
  clear hc
  go_enter Tryz.func107,Tryz.ntmps107
  go_wp2
  go_ret
  exact ⟨rfl,HB.out⟩
 ·have hn:¬ x < y:=by omega
  have hc:cmpI x y=1:=by unfold cmpI;rw [if_neg hn,if_pos h]
  rw [hc]
  clear hc
  go_enter Tryz.func107,Tryz.ntmps107
  go_wp2
  go_ret
  exact ⟨rfl,HB.out⟩
set_option maxRecDepth 100000 in
theorem cmpU64_any (x y:Int) (w:World):Calls Tryz.prog 216 #[.int .u64 x,.int .u64 y] w fun e w'=>e = .returned (.int .i64 (cmpI x y))∧Below w.heap.size w w':=by
 have HB:=Lib.hid (Below.refl w.heap.size w)
 rcases Int.lt_trichotomy x y with h | h | h
 ·have hc:cmpI x y = -1:=by unfold cmpI;rw [if_pos h]
  rw [hc]
  clear hc
  go_enter Tryz.func216,Tryz.ntmps216
  go_wp2
  go_ret
  exact ⟨rfl,HB.out⟩
 ·subst h
  have hc:cmpI x x=0:=by unfold cmpI;simp
  rw [hc]
  clear hc
  go_enter Tryz.func216,Tryz.ntmps216
  go_wp2
  go_ret
  exact ⟨rfl,HB.out⟩
 ·have hn:¬ x < y:=by omega
  have hc:cmpI x y=1:=by unfold cmpI;rw [if_neg hn,if_pos h]
  rw [hc]
  clear hc
  go_enter Tryz.func216,Tryz.ntmps216
  go_wp2
  go_ret
  exact ⟨rfl,HB.out⟩
set_option maxRecDepth 100000 in
theorem or2_any (x y:Int) (b:Nat) (w:World) (h0:w.cell? ⟨b,0,none⟩=some (.int .i64 x)) (h1:w.cell? ⟨b,1,none⟩=some (.int .i64 y)):Calls Tryz.prog 215 #[.slice (some ⟨b,0,none⟩) 2 2] w fun e w'=>e = .returned (.int .i64 (if x≠0 then x else y))∧Below w.heap.size w w':=by
 have HB:=Lib.hid (Below.refl w.heap.size w)
 by_cases hx:x=0
 ·subst hx
  rw [if_neg (by simp)]
  by_cases hy:y=0
  ·subst hy
   go_enter Tryz.func215,Tryz.ntmps215
   go_wp2
   refine wp_loop_rounds 3 ?_
   rw [rounds_succ]
   go_wp2
   rw [rounds_succ]
   go_wp2
   rw [rounds_succ]
   go_wp2
   go_ret
   exact ⟨rfl,HB.out⟩
  ·go_enter Tryz.func215,Tryz.ntmps215
   go_wp2
   refine wp_loop_rounds 3 ?_
   rw [rounds_succ]
   go_wp2
   rw [rounds_succ]
   go_wp2
   go_ret
   exact ⟨rfl,HB.out⟩
 ·rw [if_pos hx]
  go_enter Tryz.func215,Tryz.ntmps215
  go_wp2
  refine wp_loop_rounds 3 ?_
  rw [rounds_succ]
  go_wp2
  go_ret
  exact ⟨rfl,HB.out⟩
set_option maxRecDepth 100000 in
set_option maxHeartbeats 1000000 in
theorem wCompare_any (n m:Int) (w:World):Calls Tryz.prog 183 #[.agg #[.int .i64 (wHi n),.int .u64 (wLo n)],.agg #[.int .i64 (wHi m),.int .u64 (wLo m)]] w fun e w'=>e = .returned (.int .i64 (cmpI n m))∧Below w.heap.size w w':=by
 have HC:=Lib.hid (cmp_wide n m)
 have H1:=Lib.hid (fun W=>cmp64_any (wHi n) (wHi m) W)
 have H2:=Lib.hid (fun W=>cmpU64_any (wLo n) (wLo m) W)
 have HO:=Lib.hid (fun b W h0 h1=>or2_any (cmpI (wHi n) (wHi m)) (cmpI (wLo n) (wLo m)) b W h0 h1)
 rw [HC.out] at HO
 generalize cmpI n m=z at *
 generalize cmpI (wHi n) (wHi m)=z1 at *
 generalize cmpI (wLo n) (wLo m)=z2 at *
 generalize wHi n=a1 at *
 generalize wHi m=a2 at *
 generalize wLo n=b1 at *
 generalize wLo m=b2 at *
 clear HC
 obtain ⟨W0,hW0⟩:∃ W0,(w.alloc (.cells #[.int .i64 a1,.int .u64 b1] 60)).alloc (.cells #[.int .i64 a2,.int .u64 b2] 60)=W0:=⟨_,rfl⟩
 obtain ⟨k0,k1,kS,kB⟩:=laid2 w (.cells #[.int .i64 a1,.int .u64 b1] 60) (.cells #[.int .i64 a2,.int .u64 b2] 60)
 rw [hW0] at k0 k1 kS kB
 obtain ⟨⟨x0,x1⟩,_⟩:=can2 k0
 obtain ⟨⟨y0,y1⟩,_⟩:=can2 k1
 have hl0:w.heap.size < W0.heap.size:=by omega
 have hl1:w.heap.size + 1 < W0.heap.size:=by omega
 have HB:=Lib.hid kB
 clear kS kB k0 k1
 go_enter Tryz.func183,Tryz.ntmps183
 go_wp2_with (fail)
 refine Flow.wp_region_flow_tail 10 (Flow.specs [.inl ?_,.inl ?_,.inl ?_,.inl ?_,.inl ?_,.inl ?_,.inl ?_,.inl ?_,.inl ?_,.inl ?_]) (by kernel_rfl) (by kernel_rfl) ?_ ?_
 rotate_left 10
 ·refine Flow.specs_mono ?_
  repeat (first | exact Flow.lmono_nil | refine Flow.lmono_inl ?_)
 all_goals try simp only [List.take_succ_cons,List.take_zero,List.drop_succ_cons,List.drop_zero]
 iterate 4 (refine Flow.tree_valK rfl (fun K hK=>⟨fun w hw hG => ?_,?_⟩);(have hcl:=Flow.bcell hw;clear hG hw;unfold Flow.Runs Flow.yields;go_simp;try rfl);go_simp;refine hK _ ?_;clear hK K)
 (refine Flow.tree_valK rfl (fun K hK=>⟨fun w hw hG => ?_,?_⟩);(clear hG hw;unfold Flow.Runs Flow.yields;go_simp;refine (H1.out _).mono ?_;rintro e w5 ⟨rfl,hb5⟩;first | exact ⟨_,rfl,hb5,rfl⟩ | (refine ⟨?_,hb5⟩;rfl));go_simp;refine hK _ ?_;clear hK K)
 iterate 4 (refine Flow.tree_valK rfl (fun K hK=>⟨fun w hw hG => ?_,?_⟩);(have hcl:=Flow.bcell hw;clear hG hw;unfold Flow.Runs Flow.yields;go_simp;try rfl);go_simp;refine hK _ ?_;clear hK K)
 (refine Flow.tree_valK rfl (fun K hK=>⟨fun w hw hG => ?_,?_⟩);(clear hG hw;unfold Flow.Runs Flow.yields;go_simp;refine (H2.out _).mono ?_;rintro e w5 ⟨rfl,hb5⟩;first | exact ⟨_,rfl,hb5,rfl⟩ | (refine ⟨?_,hb5⟩;rfl));go_simp;refine hK _ ?_;clear hK K)
 refine Flow.tree_nil fun w5 hw5 hG => ?_
 clear hG x0 x1 y0 y1
 have HB5:=Lib.hid (Bt HB.out hw5)
 clear hw5
 obtain ⟨W6,hW6⟩:∃ W6,w5.alloc (.cells #[.int .i64 z1,.int .i64 z2] 3)=W6:=⟨_,rfl⟩
 obtain ⟨k6,kS6,kB6⟩:=laid1 w5 (.cells #[.int .i64 z1,.int .i64 z2] 3)
 rw [hW6] at k6 kS6 kB6
 obtain ⟨⟨q0,q1⟩,_⟩:=can2 k6
 have HB6:=Lib.hid (Bt HB5.out kB6)
 have HO6:=Lib.hid (HO.out _ _ q0 q1)
 clear kS6 kB6 k6 HO
 go_simp
 go_wp2_with (fail)
 go_at_call 215
 refine HO6.out.mono ?_
 rintro e w7 ⟨rfl,hb7⟩
 have HB7:=Lib.hid (Bt HB6.out hb7)
 clear hb7
 go_wp2
 go_ret
 exact ⟨rfl,HB7.out⟩
set_option maxRecDepth 100000 in
set_option maxHeartbeats 1000000 in
theorem wMul_any (n:Int) (m:Nat) (hn:I64 n) (hm:m≤1000000) (w:World):Calls Tryz.prog 182 #[.int .i64 n,.int .i64 m] w fun e w'=>e = .returned (.agg #[.int .i64 (wHi (n * m)),.int .u64 (wLo (n * m))])∧Below w.heap.size w w':=by
 obtain ⟨a,ha,hal,hlo,hhi,hd⟩:=mul_halves n m hn hm
 have hmw:IntKind.u64.wrap (m:Int)=(m:Nat):=by rw [wrap_u64'];omega
 have hM:=Lib.hid (fun W=>Tryz.bits_Mul64 a m hal (by omega) W)
 rw [← hlo]
 obtain ⟨U,hU⟩:∃ U:Nat,a * m / 18446744073709551616=U:=⟨_,rfl⟩
 obtain ⟨V,hV⟩:∃ V:Nat,a * m % 18446744073709551616=V:=⟨_,rfl⟩
 rw [hU] at hhi hd
 rw [hU,hV] at hM
 rw [hV]
 have hUw:IntKind.i64.wrap (U:Int)=U:=by rw [IntKind.wrap_i64];omega
 have hUm:IntKind.i64.wrap ((U:Int) - m)=(U:Int) - m:=by rw [IntKind.wrap_i64];omega
 have hm0:¬ (m:Int) < 0:=by omega
 generalize wHi (n * m)=z at *
 clear hlo hU hV hn hm hd hal
 obtain ⟨W0,hW0⟩:∃ W0,(w.alloc (.cells #[.int .i64 0,.int .u64 0] 60)).alloc (.cells #[.int .i64 U,.int .u64 V] 60)=W0:=⟨_,rfl⟩
 obtain ⟨k0,k1,kS,kB⟩:=laid2 w (.cells #[.int .i64 0,.int .u64 0] 60) (.cells #[.int .i64 U,.int .u64 V] 60)
 rw [hW0] at k0 k1 kS kB
 by_cases h0:n < 0
 ·rw [if_pos h0] at hhi
  have hk2:=heap_setCell_same _ _ 0 _ _ (.int .i64 z) k1
  obtain ⟨⟨x0,x1⟩,f0,f1⟩:=can2 k1
  obtain ⟨⟨y0,y1⟩,g0,g1⟩:=can2 k0
  have hb2:Below w.heap.size w (W0.setCell ⟨w.heap.size + 1,0,none⟩ (.int .i64 z)):=kB.setCell (by show _≤w.heap.size + 1;omega) _
  have hk3:=(heap_setCell_other W0 ⟨w.heap.size + 1,0,none⟩ _ (.int .i64 z) (show w.heap.size≠w.heap.size + 1 by omega)).trans k0
  obtain ⟨⟨p0,p1⟩,_⟩:=can2 hk2
  obtain ⟨⟨r0,r1⟩,s0,s1⟩:=can2 hk3
  have hk4:=heap_setCell_same _ _ 1 _ _ (.int .u64 V) (heap_setCell_same _ _ 0 _ _ (.int .i64 z) hk3)
  obtain ⟨⟨e0,e1⟩,_⟩:=can2 hk4
  have hb4:Below w.heap.size w (((W0.setCell ⟨w.heap.size + 1,0,none⟩ (.int .i64 z)).setCell ⟨w.heap.size,0,none⟩ (.int .i64 z)).setCell ⟨w.heap.size,1,none⟩ (.int .u64 V)):=(hb2.setCell (Nat.le_refl _) _).setCell (Nat.le_refl _) _
  have HB4:=Lib.hid hb4
  rw [hhi] at hUm
  clear hk2 hk3 hk4 hb2 hb4 k0 k1 kS kB
  go_enter Tryz.func182,Tryz.ntmps182
  go_wp2_with (go_at_call 214;refine (hM.out _).mono ?_;rintro e w1 ⟨rfl,rfl⟩)
  refine bodyPost_ret (v:=.agg #[.int .i64 z,.int .u64 V]) (by simp [results,Tryz.results182,go_sem,e0,e1]) rfl ⟨rfl,HB4.out⟩
 ·rw [if_neg h0] at hhi
  obtain ⟨⟨x0,x1⟩,f0,f1⟩:=can2 k1
  obtain ⟨⟨y0,y1⟩,g0,g1⟩:=can2 k0
  have hz:(U:Int)=z:=by omega
  have hk4:=heap_setCell_same _ _ 1 _ _ (.int .u64 V) (heap_setCell_same _ _ 0 _ _ (.int .i64 U) k0)
  obtain ⟨⟨e0,e1⟩,_⟩:=can2 hk4
  have hb4:Below w.heap.size w ((W0.setCell ⟨w.heap.size,0,none⟩ (.int .i64 U)).setCell ⟨w.heap.size,1,none⟩ (.int .u64 V)):=(kB.setCell (Nat.le_refl _) _).setCell (Nat.le_refl _) _
  have HB4:=Lib.hid hb4
  rw [← hz]
  clear hk4 hb4 k0 k1 kS kB hz hhi
  go_enter Tryz.func182,Tryz.ntmps182
  go_wp2_with (go_at_call 214;refine (hM.out _).mono ?_;rintro e w1 ⟨rfl,rfl⟩)
  refine bodyPost_ret (v:=.agg #[.int .i64 U,.int .u64 V]) (by simp [results,Tryz.results182,go_sem,e0,e1]) rfl ⟨rfl,HB4.out⟩
end Go.Proofs.YtaddkkkchkdgkaaGreatDoor
namespace Go.Flow
open Go Go.RowKit
section
variable {P:Program} {ops:Array Oper} {n:Nat} {lr:Nat}
def noDefer (l:List Oper):Bool:=l.all fun o=>match o.op with | .defer _=>false | _=>true
theorem noDefer_at {l:List Oper} (h:noDefer l=true) {i:Nat} {o:Oper} (ho:l[i]? = some o):∀ c,o.op ≠ .defer c:=by
 intro c e
 have:=List.all_eq_true.1 h o (List.mem_of_getElem? ho)
 rw [e] at this;cases this
theorem wpInR_of_yields {o:Oper} {a:Act} {w:World} {K:Act→World→Prop} {Q:Exit→Act→World→Prop} (hd:∀ c,o.op ≠ .defer c) (hy:yields P o a.eval w fun v w'=>K (a.put o.dst v) w'):o.wpIn (Fence.wide.inRound lr) n P a w K Q:=by
 unfold Oper.wpIn
 refine ⟨fun _ _=>trivial,?_⟩
 have he:o.semAt (Fence.wide.inRound lr).round a.eval=execOp a.eval o:=Oper.semAt_eq _ _ _ hd
 rw [he]
 unfold yields at hy
 generalize (execOp a.eval o).run P w=r at *
 cases r with
 | ok nx w'=>
   cases nx <;> simp only [Oper.uponIn] <;> first
    | exact hy
    | exact (show False from hy).elim
    | exact ⟨(fun h=>by cases h),CallsIn.inRound lr (callsIn_wide.2 (Calls.mono hy (fun e w'' ⟨v,he,hr⟩=>by subst he;exact hr)))⟩
 | halt x w'=>exact hy.elim
theorem wpAnyInR_of_anyFL {S:Nat→Spec} {w0:World} (hND:noDefer ops.toList=true) (hS:∀ i,(S i).mono) {m g:Nat} {L:Array Bool→Act→(Nat→World→Prop)→Prop} {Q:Exit→Act→World→Prop}
  (hL:∀ listed a Γ w,L listed a Γ→Below w0.heap.size w0 w→(∀ j,Γ j w)→wpAnyIn (Fence.wide.inRound lr) n P .any ops Q g listed a w):∀ (f:Nat) (listed:Array Bool) (a:Act) (Γ:Nat→World→Prop) (w:World),
  anyFL P ops S w0 m L f listed a Γ→Below w0.heap.size w0 w→(∀ j,Γ j w)→(∀ j,Mono (Γ j))→wpAnyIn (Fence.wide.inRound lr) n P .any ops Q (f + g) listed a w
 | 0,_,_,_,_,h,hB,hG,_=>by rw [Nat.zero_add];exact hL _ _ _ _ h hB hG
 | f + 1,listed,a,Γ,w,h,hB,hG,hM=>by
   rw [show f + 1 + g=(f + g) + 1 by omega]
   refine ⟨fun h0=>absurd h0 h.1,fun i hi => ?_⟩
   have h1:=(h.2 i hi).2
   unfold fOp at h1
   unfold wpOpIn
   have hM':∀ v j,Mono (upd Γ i ((S i).holds v) j):=fun v j=>by
    by_cases e:j=i
    ·subst e;rw [upd_same];exact hS j v
    ·rw [upd_ne e];exact hM j
   have hG':∀ v w',Below w.heap.size w w'→(S i).holds v w'→∀ j,upd Γ i ((S i).holds v) j w':=fun v w' hb hv j=>by
    by_cases e:j=i
    ·subst e;rw [upd_same];exact hv
    ·rw [upd_ne e];exact hM j _ _ (hG j) hb
   have hok:∀ v w',(S i).holds v w'→(S i).ok v:=fun v w' hv=>by
    cases hs:S i with
    | inl u=>rw [hs] at hv;exact hv
    | inr V=>trivial
   split
   ·rename_i ho
    simp only [ho] at h1
    exact wpAnyInR_of_anyFL hND hS hL f _ _ _ _ h1 hB hG hM
   ·rename_i o ho
    simp only [ho] at h1
    have h2:=h1.1 w hB (fun j _=>hG j)
    unfold Runs at h2
    split
    ·rename_i hw
     simp only [hw,if_true] at h2
     refine wpInR_of_yields (noDefer_at hND (i:=i) (by simpa using ho)) (yields_mono ?_ h2)
     intro v w' ⟨hb,hv⟩
     exact wpAnyInR_of_anyFL hND hS hL f _ _ _ _ (h1.2 v (hok v w' hv)) (hB.trans (hb.mono hB.size)) (hG' v w' hb hv) (hM' v)
    ·rename_i hw
     simp only [hw] at h2
     exact ⟨fun _ _=>trivial,wpAnyInR_of_anyFL hND hS hL f _ _ _ _ (h1.2 undef (hok _ _ h2)) hB (hG' _ _ (Below.refl _ _) h2) (hM' _)⟩
theorem wpInR_region_flow_tail {id:Nat} {Q:Exit→Act→World→Prop} {a:Act} {w:World} {l:List Oper} (m:Nat) (S:Nat→Spec) (hND:noDefer l=true) (hm:P.follows .mixedOrders=true) (hB:Region.lexTailB .any l.toArray m=true) (hS:∀ i,(S i).mono)
  (h:Tree P l.toArray S w (fun a' Γ => ∀ w',Below w.heap.size w w'→(∀ j,Γ j w')→wpListIn (Fence.wide.inRound lr) n P l.toArray Q (l.drop m) a' w') (l.take m) 0 a (fun _ _=>True)):(Code.region id l.toArray true).wpIn (Fence.wide.inRound lr) n P Q a w:=by
 simp only [Region.lexTailB,Bool.and_eq_true,decide_eq_true_eq] at hB
 obtain ⟨⟨⟨⟨hsel,hn⟩,hs⟩,hc⟩,hlex⟩:=hB
 have hn':m < l.length:=by simpa using hn
 have htl:(l.take m).length=m:=by simp;omega
 have hdl:(l.drop m).length=l.toArray.size - m:=by simp
 have inv0:HeadInv .any l.toArray m (Array.replicate l.toArray.size false):=
  ⟨by simp,fun j oj _ hl=>(by rw [getD_replicate_false] at hl;cases hl),fun t _ ht=>getD_in (by simpa using ht) (getD_replicate_false _ _)⟩
 have H:=anyFL_lex (g:=l.toArray.size - m) hsel hs hc hn (l.take m) 0 _ a (fun _ _=>True) (fun j hj=>by
  have hj':j < m:=by rw [htl] at hj;exact hj
  simp [hj']) (by simpa using htl) inv0 (by rw [htl];exact hlex) h
 refine wpIn_region_any hm ?_
 have:=wpAnyInR_of_anyFL (n:=n) (Q:=Q) (g:=l.toArray.size - m) (by simpa using hND) hS (fun listed a' Γ' w' hL hb hG=>by
  have:=wpAnyIn_of_seq (md:=.any) (F:=Fence.wide.inRound lr) (n:=n) (Q':=Q) (l.drop m) m listed a' w' (fun j=>by simp [List.getElem?_drop]) (by rw [hdl];exact hL.1) (hL.2 w' hb hG)
  rwa [hdl] at this) _ _ _ _ { w with drawn:=w.drawn + 1 } H ((Below.refl _ _).drew) (fun _=>trivial) (fun _ _ _ _ _=>trivial)
 rw [htl,show m + (l.toArray.size - m)=l.toArray.size by omega] at this
 exact this
end
end Go.Flow
namespace Go.Proofs.YtaddkkkchkdgkaaGreatDoor
open Go.RowKit Go.Sort Go.Shelf
attribute [local go_sem] Oper.semAt_some
theorem roundIn_in {n m:Nat} {P:Program} {l l2:Nat} {f:FuncId} {tmps:Array Value} {assign body:Code} {w:World} {R:Ending→World→Prop} (h:RoundIn Fence.wide n P l f tmps assign body w R):RoundIn (Fence.wide.inRound l2) m P l f tmps assign body w R:=
 ⟨h.1,fun c cs _=>h.2 c cs (room_wide _)⟩
def Iter (gf:FuncId) (lb:Array Value) (m:Nat) (vs:List (Array Value)) (q:Nat→Prop) (W0:World):Prop:=
 ∀ (l:Nat) (fn0:FuncId) (T:Array Value→Array Value) (A B:Code) (Inv:Nat→World→Prop),
   (∀ k W W',Inv k W→Below W.heap.size W W'→Inv k W')→(∀ k W W' l' o,Inv k W→l < l'→W.heap[l']? = some o→o.isCells=false→Rf.SameBut l' W W'→Inv k W')→(∀ k W,Inv k W→l < W.heap.size∧Ag q W0 W) →
   (∀ k W,Inv k W→∀ z:Array Value,z.size=m→(Instr.yield l z).run Tryz.prog W = .ok (.round l fn0 (T z) A B) W) →
   (∀ k W (hk:k < vs.length),Inv k W→RoundIn Fence.wide 5 Tryz.prog l fn0 (T vs[k]) A B W (fun e W'=>e = .returned (.bool true)∧Inv (k + 1) W')) →
   ∀ W,Inv 0 W→Calls Tryz.prog gf (#[.func (.yield l) #[] #[]] ++ lb) W fun e W'=>(∃ v,e = .returned v)∧Inv vs.length W'
theorem values_any (a:Option Addr) (n c:Nat) (w:World):Calls Tryz.prog 228 #[.slice a n c] w fun e w'=>e = .returned (.func (.func 238) #[] #[.pointer (some ⟨w.heap.size,0,none⟩)])∧w'=w.alloc (.cells #[.slice a n c] 54):=by
 go_enter Tryz.func228,Tryz.ntmps228
 go_wp2
 go_ret
 exact ⟨rfl,rfl⟩
theorem numbers_any (a:Option Addr) (n c:Nat) (w:World):Calls Tryz.prog 212 #[.slice a n c] w fun e w'=>e = .returned (.func (.func 227) #[] #[.pointer (some ⟨w.heap.size,0,none⟩)])∧w'=w.alloc (.cells #[.slice a n c] 54):=by
 go_enter Tryz.func212,Tryz.ntmps212
 go_wp2
 go_ret
 exact ⟨rfl,rfl⟩
set_option maxRecDepth 100000 in
set_option maxHeartbeats 2000000 in
theorem values_iter (ns:List Int) (b:Nat) (v:Value) (p q:Nat→Prop) (hpq:∀ c,p c→q c) (W0:World) (h0:W0.cell? ⟨b,0,none⟩=some v) (hb:q b) (hv:RowsAt 1 intF p W0 v ns) :
  Iter 238 #[.pointer (some ⟨b,0,none⟩)] 1 (ns.map fun n=>#[.int .i64 n]) q W0:=by
 intro l fn0 T A B Inv hIB _ hIA hy hr W hI
 have HI:=Lib.hid hI
 have HIB:=Lib.hid hIB
 have HIA:=Lib.hid hIA
 have HY:=Lib.hid hy
 have HR:=Lib.hid hr
 have hblt:=World.block_lt_of_cell? W0 _ h0
 have HV:=Lib.hid (fun k X (h:Inv k X)=>hv.ag ((HIA.out k X h).2.weak hpq))
 have c1:=((HIA.out 0 W hI).2.cell hblt hb).trans h0
 obtain ⟨a,c,rfl,hl,_⟩:=hv
 have hl:ns.length≤9223372036854775807:=by unfold maxLen at *;omega
 clear hI hIB hIA hy hr
 refine (callsIn_wide (n:=5)).1 ?_
 refine callsIn_of_wp Tryz.func238 rfl trivial ?_ rfl
 simp only [Tryz.ntmps238,List.size_toArray,List.length_cons,List.length_nil,Nat.reduceAdd,Nat.reduceSub,Array.replicate_succ,Array.replicate_zero,List.push_toArray,List.append_toArray,List.nil_append,List.cons_append]
 gi_wp2
 gi_loopw [7] (fun i wr => ∃ k:Nat,k≤ns.length∧i = .int .i64 k∧Inv k wr) (fun i _=>ns.length - (intOf i).toNat)
 case atStart=>exact ⟨0,Nat.zero_le _,rfl,HI.out⟩
 case round=>
  clear c1
  obtain ⟨k,hk,rfl,hI⟩:=hrel
  have HJ:=Lib.hid hI
  clear hI
  by_cases hlt:k < ns.length
  ·have hki:(k:Int) < (ns.length:Int):=by omega
   obtain ⟨b1,off,rfl,hb1,hc1⟩:=(HV.out k wr HJ.out).num1 hlt
   have hyl:=HY.out k wr HJ.out #[.int .i64 ns[k]] rfl
   have HRR:=Lib.hid (HR.out k wr (by simp;omega) HJ.out)
   simp only [List.getElem_map] at HRR
   generalize ns[k]=z at *
   gi_wp2
   refine roundIn_any (HRR.out.mono ?_)
   clear hyl hc1
   rintro e w1 ⟨rfl,hinv⟩
   have HW:=Lib.hid hinv
   clear hinv
   gi_wp2
   go_roundw
   case rel=>exact ⟨k + 1,by omega,by go_num,HW.out⟩
   case measure=>simp [intOf];omega
  ·have hki:¬ (k:Int) < (ns.length:Int):=by omega
   have hkm:k=ns.length:=by omega
   gi_wp2
   go_end0
   refine ⟨⟨_,rfl⟩,?_⟩
   exact hkm ▸ HJ.out
def IterK (gf:FuncId) (lb:Array Value) (m:Nat) (vs:List (Array Value)) (q:Nat→Prop) (W0:World):Prop:=
 ∀ (l:Nat) (fn0:FuncId) (T:Array Value→Array Value) (A B:Code) (Inv:Nat→World→Prop),
   (∀ k W W',Inv k W→Below W.heap.size W W'→Inv k W')→(∀ k W W' l' o,Inv k W→l < l'→W.heap[l']? = some o→o.isCells=false→Rf.SameBut l' W W'→Inv k W')→(∀ k W,Inv k W→l < W.heap.size∧Ag q W0 W) →
   (∀ k W,Inv k W→∀ z:Array Value,z.size=m→(Instr.yield l z).run Tryz.prog W = .ok (.round l fn0 (T z) A B) W) →
   (∀ k W (hk:k < vs.length),Inv k W→RoundIn Fence.wide 5 Tryz.prog l fn0 (T vs[k]) A B W (fun e W'=>e = .returned (.bool true)∧Inv (k + 1) W'∧∀ b,l < b→b < W.heap.size→W'.heap[b]? = W.heap[b]?)) →
   ∀ W,Inv 0 W→Calls Tryz.prog gf (#[.func (.yield l) #[] #[]] ++ lb) W fun e W'=>(∃ v,e = .returned v)∧Inv vs.length W'
set_option maxRecDepth 100000 in
set_option maxHeartbeats 4000000 in
theorem numbers_iter (ns:List Int) (b:Nat) (v:Value) (p q:Nat→Prop) (hpq:∀ c,p c→q c) (hok:∀ n ∈ ns,I64 n) (W0:World) (h0:W0.cell? ⟨b,0,none⟩=some v) (hb:q b) (hv:RowsAt 1 intF p W0 v ns) :
  IterK 227 #[.pointer (some ⟨b,0,none⟩)] 1 (ns.map fun n=>#[.agg (wideF n).toArray]) q W0:=by
 intro l fn0 T A B Inv hIB hIS hIA hy hr W hI
 have HI:=Lib.hid hI
 have HIB:=Lib.hid hIB
 have HIS:=Lib.hid hIS
 have HIA:=Lib.hid hIA
 have HY:=Lib.hid hy
 have HR:=Lib.hid hr
 have HOK:=Lib.hid hok
 have hblt:=World.block_lt_of_cell? W0 _ h0
 have c1:=((HIA.out 0 W hI).2.cell hblt hb).trans h0
 have hlW:=(HIA.out 0 W hI).1
 obtain ⟨a,c,rfl,hl,_⟩:=id hv
 have HVL:=Lib.hid hv.lt
 clear hI hIB hIS hIA hy hr hok hv
 obtain ⟨W1,hW1⟩:∃ W1,W.alloc (.cells #[.func (.yield l) #[] #[]] 306)=W1:=⟨_,rfl⟩
 obtain ⟨k1,kS1,kB1⟩:=laid1 W (.cells #[.func (.yield l) #[] #[]] 306)
 rw [hW1] at k1 kS1 kB1
 have hbW:=World.block_lt_of_cell? W _ c1
 have d1:=(kB1.cell (p:=⟨b,0,none⟩) hbW).trans c1
 obtain ⟨W2,hW2⟩:∃ W2,W1.alloc (.cells #[.slice a ns.length c] 54)=W2:=⟨_,rfl⟩
 obtain ⟨k2,kS2,kB2⟩:=laid1 W1 (.cells #[.slice a ns.length c] 54)
 rw [hW2] at k2 kS2 kB2
 have hb2:Below W.heap.size W W2:=Bt kB1 kB2
 have hI2:Inv 0 W2:=HIB.out 0 W W2 HI.out hb2
 have hAg2:=(HIA.out 0 W2 hI2).2
 have HCT:=Lib.hid (values_iter ns W1.heap.size (.slice a ns.length c) (fun x=>p x∧x < W0.heap.size) (fun x=>(p x∧x < W0.heap.size)∨x=W1.heap.size) (fun _ h => .inl h) W2 (cell_of_row _ _ 0 _ _ _ k2) (.inr rfl) (HVL.out.ag ⟨hAg2.1,fun x hx hp=>hAg2.2 x hx (hpq _ hp.1)⟩))
 have HI2:=Lib.hid hI2
 have HKY:=Lib.hid ((kB2.block _ (by omega)).trans k1)
 have HKV:=Lib.hid k2
 have HBV:=Lib.hid kB2
 clear hI2 hAg2 c1 k1 k2 kB1 kB2 hb2
 refine (callsIn_wide (n:=5)).1 ?_
 refine callsIn_of_wp_marks Tryz.func227 rfl trivial ?_ rfl
 simp only [Tryz.ntmps227,List.size_toArray,List.length_cons,List.length_nil,Nat.reduceAdd,Nat.reduceSub,Array.replicate_succ,Array.replicate_zero,List.push_toArray,List.append_toArray,List.nil_append,List.cons_append]
 gi_wp2
 refine Rf.wpIn_scope_straight ?_
 gi_wp2
 refine wpIn_label ?_
 gi_wp2_with (refine ⟨trivial,?_⟩;gi_at_call 228;refine (callsIn_wide.2 (values_any a ns.length c _)).mono ?_;rintro e w2 ⟨rfl,rfl⟩)
 have kS3:W2.heap.size=W.heap.size + 2:=by omega
 rw [kS1] at HCT HKV HBV
 refine Rf.range_wide (gf:=238) (lb:=#[.pointer (some ⟨W.heap.size + 1,0,none⟩)]) rfl (enters_of Tryz.func238 (by kernel_rfl) rfl) ?_
 intro fn W3 hL hD hB3 hS3
 rw [kS3] at hL hD hS3 ⊢
 obtain ⟨rec,hrec,hL⟩:∃ rec:Loop,rec=_∧W3.heap[W.heap.size + 2 + 1]? = some (.loop rec):=⟨_,rfl,hL⟩
 have HREC:=Lib.hid hrec
 have hst:rec.state = .ready∧rec.params.size=1∧rec.pending=none:=by rw [hrec];exact ⟨rfl,rfl,rfl⟩
 clear hrec
 obtain ⟨hst,hps,hpe⟩:=hst
 have hB3':Below W2.heap.size W2 W3:=hB3
 have hI0:Inv 0 W3∧W3.heap[W.heap.size]? = some (.cells #[.func (.yield l) #[] #[]] 306 (0,0))∧W3.heap[W.heap.size + 1]? = some (.cells #[.slice a ns.length c] 54 (0,0))∧W3.heap[W.heap.size + 2]? = some (.deferred (some []))∧W3.heap[W.heap.size + 2 + 1]? = some (.loop rec):=
  ⟨HIB.out _ _ _ HI2.out hB3',(hB3'.block _ (by omega)).trans HKY.out,(hB3'.block _ (by omega)).trans HKV.out,hD,hL⟩
 obtain ⟨J,hJ⟩:∃ J:Nat→World→Prop,J=fun k X=>Inv k X∧X.heap[W.heap.size]? = some (.cells #[.func (.yield l) #[] #[]] 306 (0,0))∧X.heap[W.heap.size + 1]? = some (.cells #[.slice a ns.length c] 54 (0,0))∧X.heap[W.heap.size + 2]? = some (.deferred (some []))∧X.heap[W.heap.size + 2 + 1]? = some (.loop rec):=⟨_,rfl⟩
 have HJ:RowKit.Hid (∀ k X,J k X↔(Inv k X∧X.heap[W.heap.size]? = some (.cells #[.func (.yield l) #[] #[]] 306 (0,0))∧X.heap[W.heap.size + 1]? = some (.cells #[.slice a ns.length c] 54 (0,0))∧X.heap[W.heap.size + 2]? = some (.deferred (some []))∧X.heap[W.heap.size + 2 + 1]? = some (.loop rec))):=Lib.hid fun k X=>by rw [hJ]
 have hJ0:J 0 W3:=(HJ.out _ _).2 hI0
 clear hJ hI0 hB3 hB3' hL hD hS3 hW1 hW2
 refine callsIn_wide.2 ((HCT.out (W.heap.size + 2 + 1) rec.fn (fun v=>(rec.params.zip v).foldl (fun tmps (t,a)=>tmps.setIfInBounds t a) rec.tmps) rec.assign rec.body J ?_ ?_ ?_ ?_ ?_ W3 hJ0).mono ?_)
 ·intro k X X' h hb
  obtain ⟨h1,h2,h3,h4,h5⟩:=(HJ.out _ _).1 h
  exact (HJ.out _ _).2 ⟨HIB.out _ _ _ h1 hb,(hb.block _ (Array.getElem?_eq_some_iff.1 h2).1).trans h2,(hb.block _ (Array.getElem?_eq_some_iff.1 h3).1).trans h3,(hb.block _ (Array.getElem?_eq_some_iff.1 h4).1).trans h4,(hb.block _ (Array.getElem?_eq_some_iff.1 h5).1).trans h5⟩
 ·intro k X X' l' o h hl' ho hc hs
  obtain ⟨h1,h2,h3,h4,h5⟩:=(HJ.out _ _).1 h
  exact (HJ.out _ _).2 ⟨HIS.out _ _ _ l' o h1 (by omega) ho hc hs,(hs.block _ (by omega)).trans h2,(hs.block _ (by omega)).trans h3,(hs.block _ (by omega)).trans h4,(hs.block _ (by omega)).trans h5⟩
 ·intro k X h
  obtain ⟨h1,h2,h3,h4,h5⟩:=(HJ.out _ _).1 h
  have hx:=(Array.getElem?_eq_some_iff.1 h5).1
  refine ⟨hx,by omega,fun x hxl hx2 => ?_⟩
  rcases hx2 with ⟨hx2,hx3⟩ | rfl
  ·exact ((HIA.out _ _ h1).2.2 x hx3 (hpq _ hx2)).trans ((HIA.out _ _ HI2.out).2.2 x hx3 (hpq _ hx2)).symm
  ·exact h3.trans HKV.out.symm
 ·intro k X h z hz
  obtain ⟨h1,h2,h3,h4,h5⟩:=(HJ.out _ _).1 h
  exact run_yield h5 (by rw [hps,hz])
 ·intro k X hk h
  obtain ⟨h1,h2,h3,h4,h5⟩:=(HJ.out _ _).1 h
  rw [List.length_map] at hk
  have HI1:=Lib.hid h1
  have H2:=Lib.hid h2
  have H5:=Lib.hid h5
  have HJK:=Lib.hid (fun X' (g1:Inv (k + 1) X') (gk:∀ b,l < b→b < X.heap.size→b≠W.heap.size + 2 + 1→X'.heap[b]? = X.heap[b]?) (gl:X'.heap[W.heap.size + 2 + 1]? = some (.loop rec))=>(HJ.out (k + 1) X').2 ⟨g1,(gk _ (by omega) (Array.getElem?_eq_some_iff.1 h2).1 (by omega)).trans h2,(gk _ (by omega) (Array.getElem?_eq_some_iff.1 h3).1 (by omega)).trans h3,(gk _ (by omega) (Array.getElem?_eq_some_iff.1 h4).1 (by omega)).trans h4,gl⟩)
  have HRK:=Lib.hid (fun X=>HR.out k X (by simpa using hk))
  simp only [List.getElem_map] at HRK ⊢
  have HOF:=Lib.hid (fun X=>wOf_eq ns[k] (HOK.out _ (List.getElem_mem hk)) X)
  unfold wideF at HRK
  generalize ns[k]=z at *
  have HX5:=Lib.hid (Array.getElem?_eq_some_iff.1 h5).1
  clear h h1 h2 h3 h4 h5
  refine Rf.round_wide (r:=rec) ?_
  have hrr:=HREC.out
  subst hrr
  dsimp only
  gi_wp2_with (rw [Oper.semAt_eq _ _ _ (fun c h=>by cases h)];go_simp;try go_bits)
  refine ⟨H5.out,fun X2 hs2 hl2 => ?_⟩
  have hk2:=(hs2.block W.heap.size (by omega)).trans H2.out
  have HI2':=Lib.hid (HIS.out k X X2 _ _ HI1.out (by omega) H5.out rfl hs2)
  have HBL:=Lib.hid (fun b hb=>hs2.block b hb)
  have HSZ:=Lib.hid hs2.size
  have HL2:=Lib.hid hl2
  have HK2:=Lib.hid (Array.getElem?_eq_some_iff.1 hl2).1
  have c2:=(cell_of_box hk2).1
  have hlt2:W.heap.size < X2.heap.size:=by have:=HK2.out;omega
  clear hs2 hl2 hk2
  gi_wp2_with (rw [Oper.semAt_eq _ _ _ (fun c h=>by cases h)];go_simp;try go_bits)
  refine Flow.wpInR_region_flow_tail 3 (Flow.specs [.inl ?_,.inl ?_,.inl ?_]) (by kernel_rfl) (by kernel_rfl) (by kernel_rfl) ?_ ?_
  rotate_left 3
  ·refine Flow.specs_mono ?_
   repeat (first | exact Flow.lmono_nil | refine Flow.lmono_inl ?_)
  all_goals try simp only [List.take_succ_cons,List.take_zero,List.drop_succ_cons,List.drop_zero]
  iterate 2 (refine Flow.tree_valK rfl (fun K hK=>⟨fun w hw hG => ?_,?_⟩);(have hcl:=Flow.bcell hw;clear hG hw;unfold Flow.Runs Flow.yields;go_simp;try rfl);go_simp;refine hK _ ?_;clear hK K)
  (refine Flow.tree_valK rfl (fun K hK=>⟨fun w hw hG => ?_,?_⟩);(clear hG hw;unfold Flow.Runs Flow.yields;go_simp;refine (HOF.out _).mono ?_;rintro e w5 ⟨rfl,hb5⟩;first | exact ⟨_,rfl,hb5,rfl⟩ | (refine ⟨?_,hb5⟩;rfl));go_simp;refine hK _ ?_;clear hK K)
  refine Flow.tree_nil fun X5 hX5 hG => ?_
  clear hG c2
  have hI5:=HIB.out k X2 X5 HI2'.out hX5
  have hyl:=HY.out k X5 hI5 #[.agg #[.int .i64 (wHi z),.int .u64 (wLo z)]] rfl
  have HRR:=Lib.hid (HRK.out X5 hI5)
  have HB5:=Lib.hid hX5
  clear hI5 hX5
  gi_wp2_with (rw [Oper.semAt_eq _ _ _ (fun c h=>by cases h)];go_simp;try go_bits)
  refine roundIn_in (HRR.out.mono ?_)
  clear hyl hlt2
  rintro e X6 ⟨rfl,hinv,hbl⟩
  have HV6:=Lib.hid hinv
  have HB6:=Lib.hid hbl
  clear hinv hbl
  gi_wp2_with (rw [Oper.semAt_eq _ _ _ (fun c h=>by cases h)];go_simp;try go_bits)
  have hsz:=HSZ.out
  have hk2:=HK2.out
  have hb5:=HB5.out
  have hl6:=(HB6.out (W.heap.size + 2 + 1) (by omega) (Nat.lt_of_lt_of_le hk2 hb5.size)).trans ((hb5.block _ hk2).trans HL2.out)
  refine ⟨hl6,fun X7 hs7 hl7=>⟨rfl,HJK.out X7 (HIS.out _ _ _ _ _ HV6.out (by omega) hl6 rfl hs7) (fun b h1 h2 h3 => ?_) hl7⟩⟩
  rw [hs7.block b h3,HB6.out b h1 (by have:=hb5.size;omega),hb5.block b (by omega),HBL.out b h3]
 ·rintro e W8 ⟨⟨vv,rfl⟩,h⟩
  obtain ⟨h1,h2,h3,h4,h5⟩:=(HJ.out _ _).1 h
  refine ⟨⟨_,rfl⟩,rec,h5,by rw [hst];decide,?_⟩
  intro W9 hW9
  rw [hpe]
  dsimp only
  have hI9:=HIS.out _ _ _ _ _ h1 (by omega) h5 rfl hW9
  have hK9:=(hW9.block (W.heap.size + 2) (by omega)).trans h4
  have HF:=Lib.hid (HIS.out _ _ _ _ _ hI9 (by omega) hK9 rfl (Rf.SameBut.put W9 (W.heap.size + 2) (.deferred none)))
  clear h h1 h2 h3 h4 h5 hW9 hI9
  gi_wp2
  refine ⟨by simp,.inl ⟨_,_,rfl,run_takeDeferred hK9,?_⟩⟩
  refine ⟨.tuple #[],by simp [results,Tryz.results227,go_sem],⟨_,rfl⟩,?_⟩
  have hf:=HF.out
  rw [List.length_map] at hf ⊢
  exact hf
end Go.Proofs.YtaddkkkchkdgkaaGreatDoor
namespace Go.Proofs.YtaddkkkchkdgkaaGreatDoor
open Go.RowKit Go.Sort Go.Shelf
attribute [local go_sem] Oper.semAt_some
set_option maxRecDepth 100000 in
set_option maxHeartbeats 2000000 in
theorem all_any (p:Nat→Prop) (v:Value) (l:List Int) (w:World) (hv:RowsAt 2 wideF p w v l) (hl:l.length≤1000) (hok:∀ k,k < l.length→WOk ((l.take k).sum + l.getD k 0)) :
  Calls Tryz.prog 213 #[v] w fun e w'=>e = .returned (.agg #[.int .i64 (wHi l.sum),.int .u64 (wLo l.sum)])∧Below w.heap.size w w':=by
 have HV:=Lib.hid hv
 have HOK:=Lib.hid hok
 obtain ⟨a,c,rfl,_⟩:=hv
 clear hok
 obtain ⟨W0,hW0⟩:∃ W0,(w.alloc (.cells #[.int .i64 0,.int .u64 0] 60)).alloc (.cells #[.int .i64 0,.int .u64 0] 60)=W0:=⟨_,rfl⟩
 obtain ⟨k0,k1,kS,kB⟩:=laid2 w (.cells #[.int .i64 0,.int .u64 0] 60) (.cells #[.int .i64 0,.int .u64 0] 60)
 rw [hW0] at k0 k1 kS kB
 have K0:=Lib.hid k0
 have K1:=Lib.hid k1
 have KB:=Lib.hid kB
 clear k0 k1 kB kS
 go_enter Tryz.func213,Tryz.ntmps213
 go_wp2_with (fail)
 go_loopw [8] (fun i wr => ∃ k:Nat,k≤l.length∧i = .int .i64 k∧wr.heap[w.heap.size]? = some (.cells #[.int .i64 0,.int .u64 0] 60 (0,0))∧wr.heap[w.heap.size + 1]? = some (.cells #[.int .i64 (wHi (l.take k).sum),.int .u64 (wLo (l.take k).sum)] 60 (0,0))∧Below w.heap.size w wr) (fun i _=>l.length - (intOf i).toNat)
 case atStart=>exact ⟨0,Nat.zero_le _,rfl,K0.out,K1.out,KB.out⟩
 case round=>
  clear hW0
  obtain ⟨k,hk,rfl,h0,h1,hB⟩:=hrel
  by_cases hlt:k < l.length
  ·have hki:(k:Int) < (l.length:Int):=by omega
   obtain ⟨b,off,rfl,hb,c0,c1⟩:=(HV.out.ag (Ag.new p hB)).num2 hlt
   have hs1:=HOK.out k hlt
   have hgd:l.getD k 0=l[k]:=by simp [List.getD,hlt]
   rw [hgd] at hs1
   have hsum:(l.take (k + 1)).sum=(l.take k).sum + l[k]:=by rw [List.take_succ_eq_append_getElem hlt,List.sum_append_int];simp
   have HADD:=Lib.hid (fun W=>wAdd_any (l.take k).sum l[k] hs1 W)
   rw [← hsum] at HADD
   have H0:=Lib.hid h0
   have H1:=Lib.hid h1
   have HB:=Lib.hid hB
   have hlt1:w.heap.size + 1 < wr.heap.size:=(Array.getElem?_eq_some_iff.1 h1).1
   obtain ⟨⟨x0,x1⟩,_⟩:=can2 h1
   clear hs1 hgd hsum h0 h1 hB
   generalize hS':(l.take (k + 1)).sum=S' at *
   have HS':=Lib.hid hS'
   clear hS'
   generalize (l.take k).sum=S at *
   generalize l[k]=z at *
   obtain ⟨W1,hW1⟩:∃ W1,wr.alloc (.cells #[.int .i64 (wHi z),.int .u64 (wLo z)] 60)=W1:=⟨_,rfl⟩
   obtain ⟨q1,qS,qB⟩:=laid1 wr (.cells #[.int .i64 (wHi z),.int .u64 (wLo z)] 60)
   rw [hW1] at q1 qS qB
   obtain ⟨⟨y0,y1⟩,_⟩:=can2 q1
   have r1:=(qB.block _ hlt1).trans H1.out
   obtain ⟨⟨z0,z1⟩,_⟩:=can2 r1
   have HQB:=Lib.hid qB
   clear q1 qS qB r1
   go_wp2_with (fail)
   go_at_call 97
   refine (HADD.out _).mono ?_
   rintro e w2 ⟨rfl,hb2⟩
   have hb2':=Bt HQB.out hb2
   have g1:=(hb2'.block _ hlt1).trans H1.out
   have g0:=(hb2'.block w.heap.size (by omega)).trans H0.out
   obtain ⟨_,f0,f1⟩:=can2 g1
   have G1:=Lib.hid g1
   have G0:=Lib.hid g0
   have HB2:=Lib.hid (Bt HB.out hb2')
   clear hb2 hb2' g1 g0 x0 x1 y0 y1 z0 z1 c0 c1 hW1
   go_wp2
   go_roundw
   case rel=>
    refine ⟨k + 1,by omega,by go_num,?_,by rw [HS'.out];exact heap_setCell_same _ _ 1 _ _ (.int .u64 (wLo S')) (heap_setCell_same _ _ 0 _ _ (.int .i64 (wHi S')) G1.out),(HB2.out.setCell (by show _≤w.heap.size + 1;omega) _).setCell (by show _≤w.heap.size + 1;omega) _⟩
    rw [heap_setCell_other _ _ _ _ (show w.heap.size≠w.heap.size + 1 by omega),heap_setCell_other _ _ _ _ (show w.heap.size≠w.heap.size + 1 by omega)]
    exact G0.out
   case measure=>simp [intOf];omega
  ·have hki:¬ (k:Int) < (l.length:Int):=by omega
   obtain rfl:k=l.length:=by omega
   rw [List.take_length] at h1
   obtain ⟨⟨x0,x1⟩,_⟩:=can2 h1
   obtain ⟨⟨y0,y1⟩,f0,f1⟩:=can2 h0
   have hq:=heap_setCell_same _ _ 1 _ _ (.int .u64 (wLo l.sum)) (heap_setCell_same _ _ 0 _ _ (.int .i64 (wHi l.sum)) h0)
   obtain ⟨⟨e0,e1⟩,_⟩:=can2 hq
   have HB2:RowKit.Hid (Below w.heap.size w ((wr.setCell ⟨w.heap.size,0,none⟩ (.int .i64 (wHi l.sum))).setCell ⟨w.heap.size,1,none⟩ (.int .u64 (wLo l.sum)))):=Lib.hid ((hB.setCell (Nat.le_refl _) _).setCell (Nat.le_refl _) _)
   clear h0 h1 hB hq
   go_wp2_with (fail)
   refine bodyPost_ret (v:=.agg #[.int .i64 (wHi l.sum),.int .u64 (wLo l.sum)]) (by simp [results,Tryz.results213,go_sem,e0,e1]) rfl ⟨rfl,HB2.out⟩
theorem all2_any (x y:Int) (b:Nat) (w:World) (hx:WOk x) (hxy:WOk (x + y)) (h:w.heap[b]? = some (.cells #[.int .i64 (wHi x),.int .u64 (wLo x),.int .i64 (wHi y),.int .u64 (wLo y)] 60 (0,0))) :
  Calls Tryz.prog 213 #[.slice (some ⟨b,0,none⟩) 2 2] w fun e w'=>e = .returned (.agg #[.int .i64 (wHi (x + y)),.int .u64 (wLo (x + y))])∧Below w.heap.size w w':=by
 have hb:=(Array.getElem?_eq_some_iff.1 h).1
 have hr:RowsAt 2 wideF (fun _=>True) w (.slice (some ⟨b,0,none⟩) 2 2) [x,y]:=by
  refine ⟨_,2,rfl,(show (2:Nat)≤maxLen by decide),Nat.le_refl 2,(fun e=>by cases e),fun _=>⟨b,0,rfl,hb,trivial,fun j hj i hi => ?_⟩⟩
  have hj':j < 2:=hj
  rcases (show j=0∨j=1 by omega) with rfl | rfl <;> rcases (show i=0∨i=1 by omega) with rfl | rfl
  ·exact cell_of_row _ _ 0 _ _ _ h
  ·exact cell_of_row _ _ 1 _ _ _ h
  ·exact cell_of_row _ _ 2 _ _ _ h
  ·exact cell_of_row _ _ 3 _ _ _ h
 have:=all_any _ _ [x,y] w hr (show (2:Nat)≤1000 by decide) (fun k hk=>by
  have hk':k < 2:=hk
  rcases (show k=0∨k=1 by omega) with rfl | rfl
  ·simpa using hx
  ·simpa using hxy)
 simpa using this
end Go.Proofs.YtaddkkkchkdgkaaGreatDoor
