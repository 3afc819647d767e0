/- Joined by mergeK.py: K28, K29, K30, K31, K32 -/
import Derived.Test.YtjdccifdkjnknaaGreatDoorAC06
import Derived.Test.YtjdccifdkjnknaaGreatDoorAC09
import Derived.Test.YtjdccifdkjnknaaGreatDoorAC02
import Derived.Test.YtjdccifdkjnknaaGreatDoorAC01
import Derived.Test.YtjdccifdkjnknaaGreatDoorAC08
import Derived.Test.YtjdccifdkjnknaaGreatDoorAC19
import Derived.Test.YtjdccifdkjnknaaGreatDoorAC04
import Derived.Laws.StructEq
namespace Go.Proofs.YtjdccifdkjnknaaGreatDoor
open Go.RowKit Go.Sort
set_option maxRecDepth 100000 in
theorem cmp64_any (x y:Int) (w:World):Calls Tryz.prog 183 #[.int .i64 x,.int .i64 y] w fun e w'=>e = .returned (.int .i64 (cmpI x y))∧Below w.heap.size w w':=by
 have HB:=Hd (Below.refl w.heap.size w)
 rcases Int.lt_trichotomy x y with h | h | h
 ·have hc:cmpI x y = -1:=by unfold cmpI;rw [if_pos h]
  rw [hc]
  clear hc
  go_enter Tryz.func183,Tryz.ntmps183
  go_wp2
  go_ret
  exact ⟨rfl,HB.out⟩
 ·subst h
  have hc:cmpI x x=0:=by unfold cmpI;simp
  rw [hc]
  clear hc
  go_enter Tryz.func183,Tryz.ntmps183
  go_wp2
  go_ret
  exact ⟨rfl,HB.out⟩
 ·have hn:¬ x < y:=by omega
  have hc:cmpI x y=1:=by unfold cmpI;rw [if_neg hn,if_pos h]
  rw [hc]
  clear hc
  go_enter Tryz.func183,Tryz.ntmps183
  go_wp2
  go_ret
  exact ⟨rfl,HB.out⟩
set_option maxRecDepth 100000 in
theorem cmpU64_any (x y:Int) (w:World):Calls Tryz.prog 184 #[.int .u64 x,.int .u64 y] w fun e w'=>e = .returned (.int .i64 (cmpI x y))∧Below w.heap.size w w':=by
 have HB:=Hd (Below.refl w.heap.size w)
 rcases Int.lt_trichotomy x y with h | h | h
 ·have hc:cmpI x y = -1:=by unfold cmpI;rw [if_pos h]
  rw [hc]
  clear hc
  go_enter Tryz.func184,Tryz.ntmps184
  go_wp2
  go_ret
  exact ⟨rfl,HB.out⟩
 ·subst h
  have hc:cmpI x x=0:=by unfold cmpI;simp
  rw [hc]
  clear hc
  go_enter Tryz.func184,Tryz.ntmps184
  go_wp2
  go_ret
  exact ⟨rfl,HB.out⟩
 ·have hn:¬ x < y:=by omega
  have hc:cmpI x y=1:=by unfold cmpI;rw [if_neg hn,if_pos h]
  rw [hc]
  clear hc
  go_enter Tryz.func184,Tryz.ntmps184
  go_wp2
  go_ret
  exact ⟨rfl,HB.out⟩
set_option maxRecDepth 100000 in
theorem or2_any (x y:Int) (b:Nat) (w:World) (h0:w.cell? ⟨b,0,none⟩=some (.int .i64 x)) (h1:w.cell? ⟨b,1,none⟩=some (.int .i64 y)):Calls Tryz.prog 182 #[.slice (some ⟨b,0,none⟩) 2 2] w fun e w'=>e = .returned (.int .i64 (if x≠0 then x else y))∧Below w.heap.size w w':=by
 have HB:=Hd (Below.refl w.heap.size w)
 by_cases hx:x=0
 ·subst hx
  rw [if_neg (by simp)]
  by_cases hy:y=0
  ·subst hy
   go_enter Tryz.func182,Tryz.ntmps182
   go_wp2
   refine wp_loop_rounds 3 ?_
   rw [rounds_succ]
   go_wp2
   rw [rounds_succ]
   go_wp2
   rw [rounds_succ]
   go_wp2
   go_ret
   exact ⟨rfl,HB.out⟩
  ·go_enter Tryz.func182,Tryz.ntmps182
   go_wp2
   refine wp_loop_rounds 3 ?_
   rw [rounds_succ]
   go_wp2
   rw [rounds_succ]
   go_wp2
   go_ret
   exact ⟨rfl,HB.out⟩
 ·rw [if_pos hx]
  go_enter Tryz.func182,Tryz.ntmps182
  go_wp2
  refine wp_loop_rounds 3 ?_
  rw [rounds_succ]
  go_wp2
  go_ret
  exact ⟨rfl,HB.out⟩
set_option maxRecDepth 100000 in
set_option maxHeartbeats 1000000 in
theorem wCa (n m:Int) (w:World):Calls Tryz.prog 137 #[.agg #[.int .i64 (wHi n),.int .u64 (wLo n)],.agg #[.int .i64 (wHi m),.int .u64 (wLo m)]] w fun e w'=>e = .returned (.int .i64 (cmpI n m))∧Below w.heap.size w w':=by
 have HC:=Hd (cmp_wide n m)
 have H1:=Hd (fun W=>cmp64_any (wHi n) (wHi m) W)
 have H2:=Hd (fun W=>cmpU64_any (wLo n) (wLo m) W)
 have HO:=Hd (fun b W h0 h1=>or2_any (cmpI (wHi n) (wHi m)) (cmpI (wLo n) (wLo m)) b W h0 h1)
 rw [HC.out] at HO
 generalize cmpI n m=z at *
 generalize cmpI (wHi n) (wHi m)=z1 at *
 generalize cmpI (wLo n) (wLo m)=z2 at *
 generalize wHi n=a1 at *
 generalize wHi m=a2 at *
 generalize wLo n=b1 at *
 generalize wLo m=b2 at *
 clear HC
 obtain ⟨W0,Af⟩:∃ W0,(w.alloc (.cells #[.int .i64 a1,.int .u64 b1] 100)).alloc (.cells #[.int .i64 a2,.int .u64 b2] 100)=W0:=⟨_,rfl⟩
 obtain ⟨k0,k1,kS,kB⟩:=la3 w (.cells #[.int .i64 a1,.int .u64 b1] 100) (.cells #[.int .i64 a2,.int .u64 b2] 100)
 rw [Af] at k0 k1 kS kB
 obtain ⟨⟨x0,x1⟩,_⟩:=can2 k0
 obtain ⟨⟨y0,y1⟩,_⟩:=can2 k1
 have Am:w.heap.size < W0.heap.size:=by omega
 have Al:w.heap.size + 1 < W0.heap.size:=by omega
 have HB:=Hd kB
 clear kS kB k0 k1
 go_enter Tryz.func137,Tryz.ntmps137
 go_wp2_with (fail)
 refine Flow.wrf 10 (Flow.sp3 [.inl ?_,.inl ?_,.inl ?_,.inl ?_,.inl ?_,.inl ?_,.inl ?_,.inl ?_,.inl ?_,.inl ?_]) (by kernel_rfl) (by kernel_rfl) ?_ ?_
 rotate_left 10
 ·refine Flow.sm2 ?_
  repeat (first | exact Flow.ln2 | refine Flow.li2 ?_)
 all_goals try simp only [List.take_succ_cons,List.take_zero,List.drop_succ_cons,List.drop_zero]
 iterate 4 (refine Flow.tvK rfl (fun K hK=>⟨fun w hw hG => ?_,?_⟩);(have Aj:=Flow.bc4 hw;clear hG hw;unfold Flow.Runs Flow.yields;go_simp;try rfl);go_simp;refine hK _ ?_;clear hK K)
 (refine Flow.tvK rfl (fun K hK=>⟨fun w hw hG => ?_,?_⟩);(clear hG hw;unfold Flow.Runs Flow.yields;go_simp;refine (H1.out _).mono ?_;rintro e w5 ⟨rfl,Aa⟩;first | exact ⟨_,rfl,Aa,rfl⟩ | (refine ⟨?_,Aa⟩;rfl));go_simp;refine hK _ ?_;clear hK K)
 iterate 4 (refine Flow.tvK rfl (fun K hK=>⟨fun w hw hG => ?_,?_⟩);(have Aj:=Flow.bc4 hw;clear hG hw;unfold Flow.Runs Flow.yields;go_simp;try rfl);go_simp;refine hK _ ?_;clear hK K)
 (refine Flow.tvK rfl (fun K hK=>⟨fun w hw hG => ?_,?_⟩);(clear hG hw;unfold Flow.Runs Flow.yields;go_simp;refine (H2.out _).mono ?_;rintro e w5 ⟨rfl,Aa⟩;first | exact ⟨_,rfl,Aa,rfl⟩ | (refine ⟨?_,Aa⟩;rfl));go_simp;refine hK _ ?_;clear hK K)
 refine Flow.tn2 fun w5 hw5 hG => ?_
 clear hG x0 x1 y0 y1
 have Ah:=Hd (Bt HB.out hw5)
 clear hw5
 obtain ⟨W6,Ae⟩:∃ W6,w5.alloc (.cells #[.int .i64 z1,.int .i64 z2] 3)=W6:=⟨_,rfl⟩
 obtain ⟨k6,Ad,Ab⟩:=la2 w5 (.cells #[.int .i64 z1,.int .i64 z2] 3)
 rw [Ae] at k6 Ad Ab
 obtain ⟨⟨q0,q1⟩,_⟩:=can2 k6
 have Ag:=Hd (Bt Ah.out Ab)
 have Ai:=Hd (HO.out _ _ q0 q1)
 clear Ad Ab k6 HO
 go_simp
 go_wp2_with (fail)
 go_at_call 182
 refine Ai.out.mono ?_
 rintro e w7 ⟨rfl,Ac⟩
 have Ak:=Hd (Bt Ag.out Ac)
 clear Ac
 go_wp2
 go_ret
 exact ⟨rfl,Ak.out⟩
set_option maxRecDepth 100000 in
set_option maxHeartbeats 1000000 in
theorem wMa (n:Int) (m:Nat) (hn:I64 n) (hm:m≤1000000) (w:World):Calls Tryz.prog 136 #[.int .i64 n,.int .i64 m] w fun e w'=>e = .returned (.agg #[.int .i64 (wHi (n * m)),.int .u64 (wLo (n * m))])∧Below w.heap.size w w':=by
 obtain ⟨a,ha,Af,Ai,Aa,hd⟩:=mul_halves n m hn hm
 have Am:IntKind.u64.wrap (m:Int)=(m:Nat):=by rw [wu];omega
 have hM:=Hd (fun W=>Tryz.bits_Mul64 a m Af (by omega) W)
 rw [← Ai]
 obtain ⟨U,hU⟩:∃ U:Nat,a * m / 18446744073709551616=U:=⟨_,rfl⟩
 obtain ⟨V,hV⟩:∃ V:Nat,a * m % 18446744073709551616=V:=⟨_,rfl⟩
 rw [hU] at Aa hd
 rw [hU,hV] at hM
 rw [hV]
 have An:IntKind.i64.wrap (U:Int)=U:=by rw [IntKind.wrap_i64];omega
 have Aj:IntKind.i64.wrap ((U:Int) - m)=(U:Int) - m:=by rw [IntKind.wrap_i64];omega
 have Al:¬ (m:Int) < 0:=by omega
 generalize wHi (n * m)=z at *
 clear Ai hU hV hn hm hd Af
 obtain ⟨W0,Ak⟩:∃ W0,(w.alloc (.cells #[.int .i64 0,.int .u64 0] 100)).alloc (.cells #[.int .i64 U,.int .u64 V] 100)=W0:=⟨_,rfl⟩
 obtain ⟨k0,k1,kS,kB⟩:=la3 w (.cells #[.int .i64 0,.int .u64 0] 100) (.cells #[.int .i64 U,.int .u64 V] 100)
 rw [Ak] at k0 k1 kS kB
 by_cases h0:n < 0
 ·rw [if_pos h0] at Aa
  have Ag:=heap_setCell_same _ _ 0 _ _ (.int .i64 z) k1
  obtain ⟨⟨x0,x1⟩,f0,f1⟩:=can2 k1
  obtain ⟨⟨y0,y1⟩,g0,g1⟩:=can2 k0
  have Ah:Below w.heap.size w (W0.setCell ⟨w.heap.size + 1,0,none⟩ (.int .i64 z)):=kB.setCell (by show _≤w.heap.size + 1;omega) _
  have Ad:=(heap_setCell_other W0 ⟨w.heap.size + 1,0,none⟩ _ (.int .i64 z) (show w.heap.size≠w.heap.size + 1 by omega)).trans k0
  obtain ⟨⟨p0,p1⟩,_⟩:=can2 Ag
  obtain ⟨⟨r0,r1⟩,s0,s1⟩:=can2 Ad
  have Ac:=heap_setCell_same _ _ 1 _ _ (.int .u64 V) (heap_setCell_same _ _ 0 _ _ (.int .i64 z) Ad)
  obtain ⟨⟨e0,e1⟩,_⟩:=can2 Ac
  have Ab:Below w.heap.size w (((W0.setCell ⟨w.heap.size + 1,0,none⟩ (.int .i64 z)).setCell ⟨w.heap.size,0,none⟩ (.int .i64 z)).setCell ⟨w.heap.size,1,none⟩ (.int .u64 V)):=(Ah.setCell (Nat.le_refl _) _).setCell (Nat.le_refl _) _
  have Ae:=Hd Ab
  rw [Aa] at Aj
  clear Ag Ad Ac Ah Ab k0 k1 kS kB
  go_enter Tryz.func136,Tryz.ntmps136
  go_wp2_with (go_at_call 181;refine (hM.out _).mono ?_;rintro e w1 ⟨rfl,rfl⟩)
  refine bodyPost_ret (v:=.agg #[.int .i64 z,.int .u64 V]) (by simp [results,Tryz.results136,go_sem,e0,e1]) rfl ⟨rfl,Ae.out⟩
 ·rw [if_neg h0] at Aa
  obtain ⟨⟨x0,x1⟩,f0,f1⟩:=can2 k1
  obtain ⟨⟨y0,y1⟩,g0,g1⟩:=can2 k0
  have hz:(U:Int)=z:=by omega
  have Ac:=heap_setCell_same _ _ 1 _ _ (.int .u64 V) (heap_setCell_same _ _ 0 _ _ (.int .i64 U) k0)
  obtain ⟨⟨e0,e1⟩,_⟩:=can2 Ac
  have Ab:Below w.heap.size w ((W0.setCell ⟨w.heap.size,0,none⟩ (.int .i64 U)).setCell ⟨w.heap.size,1,none⟩ (.int .u64 V)):=(kB.setCell (Nat.le_refl _) _).setCell (Nat.le_refl _) _
  have Ae:=Hd Ab
  rw [← hz]
  clear Ac Ab k0 k1 kS kB hz Aa
  go_enter Tryz.func136,Tryz.ntmps136
  go_wp2_with (go_at_call 181;refine (hM.out _).mono ?_;rintro e w1 ⟨rfl,rfl⟩)
  refine bodyPost_ret (v:=.agg #[.int .i64 U,.int .u64 V]) (by simp [results,Tryz.results136,go_sem,e0,e1]) rfl ⟨rfl,Ae.out⟩
end Go.Proofs.YtjdccifdkjnknaaGreatDoor
namespace Go.Proofs.YtjdccifdkjnknaaGreatDoor
open Go.RowKit Go.Sort Go.Shelf
attribute [local go_sem] Oper.semAt_some
theorem roundIn_in {n m:Nat} {P:Program} {l l2:Nat} {f:FuncId} {tmps:Array Value} {assign body:Code} {w:World} {R:Ending→World→Prop} (h:RoundIn Fence.wide n P l f tmps assign body w R):RoundIn (Fence.wide.inRound l2) m P l f tmps assign body w R:=
 ⟨h.1,fun c cs _=>h.2 c cs (room_wide _)⟩
def Iter (gf:FuncId) (lb:Array Value) (m:Nat) (vs:List (Array Value)) (q:Nat→Prop) (W0:World):Prop:=
 ∀ (l:Nat) (fn0:FuncId) (T:Array Value→Array Value) (A B:Code) (Inv:Nat→World→Prop),
   (∀ k W W',Inv k W→Below W.heap.size W W'→Inv k W')→(∀ k W W' l' o,Inv k W→l < l'→W.heap[l']? = some o→o.isCells=false→Rf.SB l' W W'→Inv k W')→(∀ k W,Inv k W→l < W.heap.size∧Ag q W0 W) →
   (∀ k W,Inv k W→∀ z:Array Value,z.size=m→(Instr.yield l z).run Tryz.prog W = .ok (.round l fn0 (T z) A B) W) →
   (∀ k W (hk:k < vs.length),Inv k W→RoundIn Fence.wide 5 Tryz.prog l fn0 (T vs[k]) A B W (fun e W'=>e = .returned (.bool true)∧Inv (k + 1) W')) →
   ∀ W,Inv 0 W→Calls Tryz.prog gf (#[.func (.yield l) #[] #[]] ++ lb) W fun e W'=>(∃ v,e = .returned v)∧Inv vs.length W'
theorem values_any (a:Option Addr) (n c:Nat) (w:World):Calls Tryz.prog 211 #[.slice a n c] w fun e w'=>e = .returned (.func (.func 231) #[] #[.pointer (some ⟨w.heap.size,0,none⟩)])∧w'=w.alloc (.cells #[.slice a n c] 49):=by
 go_enter Tryz.func211,Tryz.ntmps211
 go_wp2
 go_ret
 exact ⟨rfl,rfl⟩
theorem numbers_any (a:Option Addr) (n c:Nat) (w:World):Calls Tryz.prog 179 #[.slice a n c] w fun e w'=>e = .returned (.func (.func 210) #[] #[.pointer (some ⟨w.heap.size,0,none⟩)])∧w'=w.alloc (.cells #[.slice a n c] 49):=by
 go_enter Tryz.func179,Tryz.ntmps179
 go_wp2
 go_ret
 exact ⟨rfl,rfl⟩
set_option maxRecDepth 100000 in
set_option maxHeartbeats 2000000 in
theorem values_iter (ns:List Int) (b:Nat) (v:Value) (p q:Nat→Prop) (hpq:∀ c,p c→q c) (W0:World) (h0:W0.cell? ⟨b,0,none⟩=some v) (hb:q b) (hv:RA 1 intF p W0 v ns) :
  Iter 231 #[.pointer (some ⟨b,0,none⟩)] 1 (ns.map fun n=>#[.int .i64 n]) q W0:=by
 intro l Am T A B Ae Ad _ Af hy hr W hI
 have HI:=Hd hI
 have Al:=Hd Ad
 have Ab:=Hd Af
 have HY:=Hd hy
 have HR:=Hd hr
 have Aa:=World.block_lt_of_cell? W0 _ h0
 have HV:=Hd (fun k X (h:Ae k X)=>hv.ag ((Ab.out k X h).2.weak hpq))
 have c1:=((Ab.out 0 W hI).2.cell Aa hb).trans h0
 obtain ⟨a,c,rfl,hl,_⟩:=hv
 have hl:ns.length≤9223372036854775807:=by unfold maxLen at *;omega
 clear hI Ad Af hy hr
 refine (callsIn_wide (n:=5)).1 ?_
 refine callsIn_of_wp Tryz.func231 rfl trivial ?_ rfl
 simp only [Tryz.ntmps231,List.size_toArray,List.length_cons,List.length_nil,Nat.reduceAdd,Nat.reduceSub,Array.replicate_succ,Array.replicate_zero,List.push_toArray,List.append_toArray,List.nil_append,List.cons_append]
 gi_wp2
 gi_loopw [7] (fun i wr => ∃ k:Nat,k≤ns.length∧i = .int .i64 k∧Ae k wr) (fun i _=>ns.length - (intOf i).toNat)
 case atStart=>exact ⟨0,Nat.zero_le _,rfl,HI.out⟩
 case round=>
  clear c1
  obtain ⟨k,hk,rfl,hI⟩:=hrel
  have HJ:=Hd hI
  clear hI
  by_cases hlt:k < ns.length
  ·have Aj:(k:Int) < (ns.length:Int):=by omega
   obtain ⟨b1,An,rfl,Ak,Ag⟩:=(HV.out k wr HJ.out).num1 hlt
   have Ai:=HY.out k wr HJ.out #[.int .i64 ns[k]] rfl
   have Ac:=Hd (HR.out k wr (by simp;omega) HJ.out)
   simp only [List.getElem_map] at Ac
   generalize ns[k]=z at *
   gi_wp2
   refine rIa (Ac.out.mono ?_)
   clear Ai Ag
   rintro e w1 ⟨rfl,hinv⟩
   have HW:=Hd hinv
   clear hinv
   gi_wp2
   go_roundw
   case rel=>exact ⟨k + 1,by omega,by go_num,HW.out⟩
   case measure=>simp [intOf];omega
  ·have Aj:¬ (k:Int) < (ns.length:Int):=by omega
   have Ah:k=ns.length:=by omega
   gi_wp2
   go_end0
   refine ⟨⟨_,rfl⟩,?_⟩
   exact Ah ▸ HJ.out
def IterK (gf:FuncId) (lb:Array Value) (m:Nat) (vs:List (Array Value)) (q:Nat→Prop) (W0:World):Prop:=
 ∀ (l:Nat) (fn0:FuncId) (T:Array Value→Array Value) (A B:Code) (Inv:Nat→World→Prop),
   (∀ k W W',Inv k W→Below W.heap.size W W'→Inv k W')→(∀ k W W' l' o,Inv k W→l < l'→W.heap[l']? = some o→o.isCells=false→Rf.SB l' W W'→Inv k W')→(∀ k W,Inv k W→l < W.heap.size∧Ag q W0 W) →
   (∀ k W,Inv k W→∀ z:Array Value,z.size=m→(Instr.yield l z).run Tryz.prog W = .ok (.round l fn0 (T z) A B) W) →
   (∀ k W (hk:k < vs.length),Inv k W→RoundIn Fence.wide 5 Tryz.prog l fn0 (T vs[k]) A B W (fun e W'=>e = .returned (.bool true)∧Inv (k + 1) W'∧∀ b,l < b→b < W.heap.size→W'.heap[b]? = W.heap[b]?)) →
   ∀ W,Inv 0 W→Calls Tryz.prog gf (#[.func (.yield l) #[] #[]] ++ lb) W fun e W'=>(∃ v,e = .returned v)∧Inv vs.length W'
set_option maxRecDepth 100000 in
set_option maxHeartbeats 4000000 in
theorem ni (ns:List Int) (b:Nat) (v:Value) (p q:Nat→Prop) (hpq:∀ c,p c→q c) (hok:∀ n ∈ ns,I64 n) (W0:World) (h0:W0.cell? ⟨b,0,none⟩=some v) (hb:q b) (hv:RA 1 intF p W0 v ns) :
  IterK 210 #[.pointer (some ⟨b,0,none⟩)] 1 (ns.map fun n=>#[.agg (wF n).toArray]) q W0:=by
 intro l B3 T A B Ah Ax A6 Be hy hr W hI
 have HI:=Hd hI
 have Am:=Hd Ax
 have Ai:=Hd A6
 have Af:=Hd Be
 have HY:=Hd hy
 have HR:=Hd hr
 have Bi:=Hd hok
 have Aw:=World.block_lt_of_cell? W0 _ h0
 have c1:=((Af.out 0 W hI).2.cell Aw hb).trans h0
 have B5:=(Af.out 0 W hI).1
 obtain ⟨a,c,rfl,hl,_⟩:=id hv
 have Bv:=Hd hv.lt
 clear hI Ax A6 Be hy hr hok hv
 obtain ⟨W1,A5⟩:∃ W1,W.alloc (.cells #[.func (.yield l) #[] #[]] 277)=W1:=⟨_,rfl⟩
 obtain ⟨k1,A9,Al⟩:=la2 W (.cells #[.func (.yield l) #[] #[]] 277)
 rw [A5] at k1 A9 Al
 have Bp:=World.block_lt_of_cell? W _ c1
 have d1:=(Al.cell (p:=⟨b,0,none⟩) Bp).trans c1
 obtain ⟨W2,A3⟩:∃ W2,W1.alloc (.cells #[.slice a ns.length c] 49)=W2:=⟨_,rfl⟩
 obtain ⟨k2,Bm,Ag⟩:=la2 W1 (.cells #[.slice a ns.length c] 49)
 rw [A3] at k2 Bm Ag
 have Bd:Below W.heap.size W W2:=Bt Al Ag
 have Ap:Ah 0 W2:=Am.out 0 W W2 HI.out Bd
 have Ad:=(Af.out 0 W2 Ap).2
 have A0:=Hd (values_iter ns W1.heap.size (.slice a ns.length c) (fun x=>p x∧x < W0.heap.size) (fun x=>(p x∧x < W0.heap.size)∨x=W1.heap.size) (fun _ h => .inl h) W2 (cell_of_row _ _ 0 _ _ _ k2) (.inr rfl) (Bv.out.ag ⟨Ad.1,fun x hx hp=>Ad.2 x hx (hpq _ hp.1)⟩))
 have A8:=Hd Ap
 have Bx:=Hd ((Ag.block _ (by omega)).trans k1)
 have Av:=Hd k2
 have Bz:=Hd Ag
 clear Ap Ad c1 k1 k2 Al Ag Bd
 refine (callsIn_wide (n:=5)).1 ?_
 refine callsIn_of_wp_marks Tryz.func210 rfl trivial ?_ rfl
 simp only [Tryz.ntmps210,List.size_toArray,List.length_cons,List.length_nil,Nat.reduceAdd,Nat.reduceSub,Array.replicate_succ,Array.replicate_zero,List.push_toArray,List.append_toArray,List.nil_append,List.cons_append]
 gi_wp2
 refine Rf.wIs ?_
 gi_wp2
 refine wpIn_label ?_
 gi_wp2_with (refine ⟨trivial,?_⟩;gi_at_call 211;refine (callsIn_wide.2 (values_any a ns.length c _)).mono ?_;rintro e w2 ⟨rfl,rfl⟩)
 have Bj:W2.heap.size=W.heap.size + 2:=by omega
 rw [A9] at A0 Av Bz
 refine Rf.rw3 (gf:=231) (lb:=#[.pointer (some ⟨W.heap.size + 1,0,none⟩)]) rfl (enters_of Tryz.func231 (by kernel_rfl) rfl) ?_
 intro fn W3 hL hD Ba Bc
 rw [Bj] at hL hD Bc ⊢
 obtain ⟨Aa,Ae,hL⟩:∃ Aa:Loop,Aa=_∧W3.heap[W.heap.size + 2 + 1]? = some (.loop Aa):=⟨_,rfl,hL⟩
 have Au:=Hd Ae
 have An:Aa.state = .ready∧Aa.params.size=1∧Aa.pending=none:=by rw [Ae];exact ⟨rfl,rfl,rfl⟩
 clear Ae
 obtain ⟨An,Bu,Bg⟩:=An
 have Ab:Below W2.heap.size W2 W3:=Ba
 have Bb:Ah 0 W3∧W3.heap[W.heap.size]? = some (.cells #[.func (.yield l) #[] #[]] 277 (0,0))∧W3.heap[W.heap.size + 1]? = some (.cells #[.slice a ns.length c] 49 (0,0))∧W3.heap[W.heap.size + 2]? = some (.deferred (some []))∧W3.heap[W.heap.size + 2 + 1]? = some (.loop Aa):=
  ⟨Am.out _ _ _ A8.out Ab,(Ab.block _ (by omega)).trans Bx.out,(Ab.block _ (by omega)).trans Av.out,hD,hL⟩
 obtain ⟨J,hJ⟩:∃ J:Nat→World→Prop,J=fun k X=>Ah k X∧X.heap[W.heap.size]? = some (.cells #[.func (.yield l) #[] #[]] 277 (0,0))∧X.heap[W.heap.size + 1]? = some (.cells #[.slice a ns.length c] 49 (0,0))∧X.heap[W.heap.size + 2]? = some (.deferred (some []))∧X.heap[W.heap.size + 2 + 1]? = some (.loop Aa):=⟨_,rfl⟩
 have HJ:RowKit.Hid (∀ k X,J k X↔(Ah k X∧X.heap[W.heap.size]? = some (.cells #[.func (.yield l) #[] #[]] 277 (0,0))∧X.heap[W.heap.size + 1]? = some (.cells #[.slice a ns.length c] 49 (0,0))∧X.heap[W.heap.size + 2]? = some (.deferred (some []))∧X.heap[W.heap.size + 2 + 1]? = some (.loop Aa))):=Hd fun k X=>by rw [hJ]
 have Bq:J 0 W3:=(HJ.out _ _).2 Bb
 clear hJ Bb Ba Ab hL hD Bc A5 A3
 refine callsIn_wide.2 ((A0.out (W.heap.size + 2 + 1) Aa.fn (fun v=>(Aa.params.zip v).foldl (fun tmps (t,a)=>tmps.setIfInBounds t a) Aa.tmps) Aa.assign Aa.body J ?_ ?_ ?_ ?_ ?_ W3 Bq).mono ?_)
 ·intro k X X' h hb
  obtain ⟨h1,h2,h3,h4,h5⟩:=(HJ.out _ _).1 h
  exact (HJ.out _ _).2 ⟨Am.out _ _ _ h1 hb,(hb.block _ (Array.getElem?_eq_some_iff.1 h2).1).trans h2,(hb.block _ (Array.getElem?_eq_some_iff.1 h3).1).trans h3,(hb.block _ (Array.getElem?_eq_some_iff.1 h4).1).trans h4,(hb.block _ (Array.getElem?_eq_some_iff.1 h5).1).trans h5⟩
 ·intro k X X' l' o h B2 ho hc hs
  obtain ⟨h1,h2,h3,h4,h5⟩:=(HJ.out _ _).1 h
  exact (HJ.out _ _).2 ⟨Ai.out _ _ _ l' o h1 (by omega) ho hc hs,(hs.block _ (by omega)).trans h2,(hs.block _ (by omega)).trans h3,(hs.block _ (by omega)).trans h4,(hs.block _ (by omega)).trans h5⟩
 ·intro k X h
  obtain ⟨h1,h2,h3,h4,h5⟩:=(HJ.out _ _).1 h
  have hx:=(Array.getElem?_eq_some_iff.1 h5).1
  refine ⟨hx,by omega,fun x hxl Ak => ?_⟩
  rcases Ak with ⟨Ak,Bf⟩ | rfl
  ·exact ((Af.out _ _ h1).2.2 x Bf (hpq _ Ak)).trans ((Af.out _ _ A8.out).2.2 x Bf (hpq _ Ak)).symm
  ·exact h3.trans Av.out.symm
 ·intro k X h z hz
  obtain ⟨h1,h2,h3,h4,h5⟩:=(HJ.out _ _).1 h
  exact run_yield h5 (by rw [Bu,hz])
 ·intro k X hk h
  obtain ⟨h1,h2,h3,h4,h5⟩:=(HJ.out _ _).1 h
  rw [List.length_map] at hk
  have Bs:=Hd h1
  have H2:=Hd h2
  have H5:=Hd h5
  have Bh:=Hd (fun X' (g1:Ah (k + 1) X') (gk:∀ b,l < b→b < X.heap.size→b≠W.heap.size + 2 + 1→X'.heap[b]? = X.heap[b]?) (gl:X'.heap[W.heap.size + 2 + 1]? = some (.loop Aa))=>(HJ.out (k + 1) X').2 ⟨g1,(gk _ (by omega) (Array.getElem?_eq_some_iff.1 h2).1 (by omega)).trans h2,(gk _ (by omega) (Array.getElem?_eq_some_iff.1 h3).1 (by omega)).trans h3,(gk _ (by omega) (Array.getElem?_eq_some_iff.1 h4).1 (by omega)).trans h4,gl⟩)
  have As:=Hd (fun X=>HR.out k X (by simpa using hk))
  simp only [List.getElem_map] at As ⊢
  have B1:=Hd (fun X=>wOf_eq ns[k] (Bi.out _ (List.getElem_mem hk)) X)
  unfold wF at As
  generalize ns[k]=z at *
  have B4:=Hd (Array.getElem?_eq_some_iff.1 h5).1
  clear h h1 h2 h3 h4 h5
  refine Rf.rw2 (r:=Aa) ?_
  have Bk:=Au.out
  subst Bk
  dsimp only
  gi_wp2_with (rw [Oper.semAt_eq _ _ _ (fun c h=>by cases h)];go_simp;try go_bits)
  refine ⟨H5.out,fun X2 hs2 hl2 => ?_⟩
  have Aj:=(hs2.block W.heap.size (by omega)).trans H2.out
  have Ar:=Hd (Ai.out k X X2 _ _ Bs.out (by omega) H5.out rfl hs2)
  have Bn:=Hd (fun b hb=>hs2.block b hb)
  have Bw:=Hd hs2.size
  have By:=Hd hl2
  have Az:=Hd (Array.getElem?_eq_some_iff.1 hl2).1
  have c2:=(cob Aj).1
  have Ao:W.heap.size < X2.heap.size:=by have:=Az.out;omega
  clear hs2 hl2 Aj
  gi_wp2_with (rw [Oper.semAt_eq _ _ _ (fun c h=>by cases h)];go_simp;try go_bits)
  refine Flow.wIR 3 (Flow.sp3 [.inl ?_,.inl ?_,.inl ?_]) (by kernel_rfl) (by kernel_rfl) (by kernel_rfl) ?_ ?_
  rotate_left 3
  ·refine Flow.sm2 ?_
   repeat (first | exact Flow.ln2 | refine Flow.li2 ?_)
  all_goals try simp only [List.take_succ_cons,List.take_zero,List.drop_succ_cons,List.drop_zero]
  iterate 2 (refine Flow.tvK rfl (fun K hK=>⟨fun w hw hG => ?_,?_⟩);(have B7:=Flow.bc4 hw;clear hG hw;unfold Flow.Runs Flow.yields;go_simp;try rfl);go_simp;refine hK _ ?_;clear hK K)
  (refine Flow.tvK rfl (fun K hK=>⟨fun w hw hG => ?_,?_⟩);(clear hG hw;unfold Flow.Runs Flow.yields;go_simp;refine (B1.out _).mono ?_;rintro e w5 ⟨rfl,Ac⟩;first | exact ⟨_,rfl,Ac,rfl⟩ | (refine ⟨?_,Ac⟩;rfl));go_simp;refine hK _ ?_;clear hK K)
  refine Flow.tn2 fun X5 hX5 hG => ?_
  clear hG c2
  have Aq:=Am.out k X2 X5 Ar.out hX5
  have Bl:=HY.out k X5 Aq #[.agg #[.int .i64 (wHi z),.int .u64 (wLo z)]] rfl
  have Bo:=Hd (As.out X5 Aq)
  have B0:=Hd hX5
  clear Aq hX5
  gi_wp2_with (rw [Oper.semAt_eq _ _ _ (fun c h=>by cases h)];go_simp;try go_bits)
  refine roundIn_in (Bo.out.mono ?_)
  clear Bl Ao
  rintro e X6 ⟨rfl,hinv,A1⟩
  have Br:=Hd hinv
  have A4:=Hd A1
  clear hinv A1
  gi_wp2_with (rw [Oper.semAt_eq _ _ _ (fun c h=>by cases h)];go_simp;try go_bits)
  have B6:=Bw.out
  have Aj:=Az.out
  have Ac:=B0.out
  have A2:=(A4.out (W.heap.size + 2 + 1) (by omega) (Nat.lt_of_lt_of_le Aj Ac.size)).trans ((Ac.block _ Aj).trans By.out)
  refine ⟨A2,fun X7 hs7 hl7=>⟨rfl,Bh.out X7 (Ai.out _ _ _ _ _ Br.out (by omega) A2 rfl hs7) (fun b h1 h2 h3 => ?_) hl7⟩⟩
  rw [hs7.block b h3,A4.out b h1 (by have:=Ac.size;omega),Ac.block b (by omega),Bn.out b h3]
 ·rintro e W8 ⟨⟨vv,rfl⟩,h⟩
  obtain ⟨h1,h2,h3,h4,h5⟩:=(HJ.out _ _).1 h
  refine ⟨⟨_,rfl⟩,Aa,h5,by rw [An];decide,?_⟩
  intro W9 At
  rw [Bg]
  dsimp only
  have Ay:=Ai.out _ _ _ _ _ h1 (by omega) h5 rfl At
  have A7:=(At.block (W.heap.size + 2) (by omega)).trans h4
  have HF:=Hd (Ai.out _ _ _ _ _ Ay (by omega) A7 rfl (Rf.SB.put W9 (W.heap.size + 2) (.deferred none)))
  clear h h1 h2 h3 h4 h5 At Ay
  gi_wp2
  refine ⟨by simp,.inl ⟨_,_,rfl,run_takeDeferred A7,?_⟩⟩
  refine ⟨.tuple #[],by simp [results,Tryz.results210,go_sem],⟨_,rfl⟩,?_⟩
  have hf:=HF.out
  rw [List.length_map] at hf ⊢
  exact hf
end Go.Proofs.YtjdccifdkjnknaaGreatDoor
namespace Go.Proofs.YtjdccifdkjnknaaGreatDoor
open Go.RowKit Go.Sort Go.Shelf
attribute [local go_sem] Oper.semAt_some
set_option maxRecDepth 100000 in
set_option maxHeartbeats 2000000 in
theorem all_any (p:Nat→Prop) (v:Value) (l:List Int) (w:World) (hv:RA 2 wF p w v l) (hl:l.length≤1000) (hok:∀ k,k < l.length→WOk ((l.take k).sum + l.getD k 0)) :
  Calls Tryz.prog 180 #[v] w fun e w'=>e = .returned (.agg #[.int .i64 (wHi l.sum),.int .u64 (wLo l.sum)])∧Below w.heap.size w w':=by
 have HV:=Hd hv
 have Am:=Hd hok
 obtain ⟨a,c,rfl,_⟩:=hv
 clear hok
 obtain ⟨W0,Aj⟩:∃ W0,(w.alloc (.cells #[.int .i64 0,.int .u64 0] 100)).alloc (.cells #[.int .i64 0,.int .u64 0] 100)=W0:=⟨_,rfl⟩
 obtain ⟨k0,k1,kS,kB⟩:=la3 w (.cells #[.int .i64 0,.int .u64 0] 100) (.cells #[.int .i64 0,.int .u64 0] 100)
 rw [Aj] at k0 k1 kS kB
 have K0:=Hd k0
 have K1:=Hd k1
 have KB:=Hd kB
 clear k0 k1 kB kS
 go_enter Tryz.func180,Tryz.ntmps180
 go_wp2_with (fail)
 go_loopw [8] (fun i wr => ∃ k:Nat,k≤l.length∧i = .int .i64 k∧wr.heap[w.heap.size]? = some (.cells #[.int .i64 0,.int .u64 0] 100 (0,0))∧wr.heap[w.heap.size + 1]? = some (.cells #[.int .i64 (wHi (l.take k).sum),.int .u64 (wLo (l.take k).sum)] 100 (0,0))∧Below w.heap.size w wr) (fun i _=>l.length - (intOf i).toNat)
 case atStart=>exact ⟨0,Nat.zero_le _,rfl,K0.out,K1.out,KB.out⟩
 case round=>
  clear Aj
  obtain ⟨k,hk,rfl,h0,h1,hB⟩:=hrel
  by_cases hlt:k < l.length
  ·have An:(k:Int) < (l.length:Int):=by omega
   obtain ⟨b,Ap,rfl,hb,c0,c1⟩:=(HV.out.ag (Ag.new p hB)).num2 hlt
   have Af:=Am.out k hlt
   have Ah:l.getD k 0=l[k]:=by simp [List.getD,hlt]
   rw [Ah] at Af
   have Ac:(l.take (k + 1)).sum=(l.take k).sum + l[k]:=by rw [List.take_succ_eq_append_getElem hlt,List.sum_append_int];simp
   have Ab:=Hd (fun W=>wAa (l.take k).sum l[k] Af W)
   rw [← Ac] at Ab
   have H0:=Hd h0
   have H1:=Hd h1
   have HB:=Hd hB
   have Ad:w.heap.size + 1 < wr.heap.size:=(Array.getElem?_eq_some_iff.1 h1).1
   obtain ⟨⟨x0,x1⟩,_⟩:=can2 h1
   clear Af Ah Ac h0 h1 hB
   generalize hS':(l.take (k + 1)).sum=S' at *
   have Ao:=Hd hS'
   clear hS'
   generalize (l.take k).sum=S at *
   generalize l[k]=z at *
   obtain ⟨W1,Ak⟩:∃ W1,wr.alloc (.cells #[.int .i64 (wHi z),.int .u64 (wLo z)] 100)=W1:=⟨_,rfl⟩
   obtain ⟨q1,qS,qB⟩:=la2 wr (.cells #[.int .i64 (wHi z),.int .u64 (wLo z)] 100)
   rw [Ak] at q1 qS qB
   obtain ⟨⟨y0,y1⟩,_⟩:=can2 q1
   have r1:=(qB.block _ Ad).trans H1.out
   obtain ⟨⟨z0,z1⟩,_⟩:=can2 r1
   have Al:=Hd qB
   clear q1 qS qB r1
   go_wp2_with (fail)
   go_at_call 117
   refine (Ab.out _).mono ?_
   rintro e w2 ⟨rfl,Ai⟩
   have Aa:=Bt Al.out Ai
   have g1:=(Aa.block _ Ad).trans H1.out
   have g0:=(Aa.block w.heap.size (by omega)).trans H0.out
   obtain ⟨_,f0,f1⟩:=can2 g1
   have G1:=Hd g1
   have G0:=Hd g0
   have Ae:=Hd (Bt HB.out Aa)
   clear Ai Aa g1 g0 x0 x1 y0 y1 z0 z1 c0 c1 Ak
   go_wp2
   go_roundw
   case rel=>
    refine ⟨k + 1,by omega,by go_num,?_,by rw [Ao.out];exact heap_setCell_same _ _ 1 _ _ (.int .u64 (wLo S')) (heap_setCell_same _ _ 0 _ _ (.int .i64 (wHi S')) G1.out),(Ae.out.setCell (by show _≤w.heap.size + 1;omega) _).setCell (by show _≤w.heap.size + 1;omega) _⟩
    rw [heap_setCell_other _ _ _ _ (show w.heap.size≠w.heap.size + 1 by omega),heap_setCell_other _ _ _ _ (show w.heap.size≠w.heap.size + 1 by omega)]
    exact G0.out
   case measure=>simp [intOf];omega
  ·have An:¬ (k:Int) < (l.length:Int):=by omega
   obtain rfl:k=l.length:=by omega
   rw [List.take_length] at h1
   obtain ⟨⟨x0,x1⟩,_⟩:=can2 h1
   obtain ⟨⟨y0,y1⟩,f0,f1⟩:=can2 h0
   have hq:=heap_setCell_same _ _ 1 _ _ (.int .u64 (wLo l.sum)) (heap_setCell_same _ _ 0 _ _ (.int .i64 (wHi l.sum)) h0)
   obtain ⟨⟨e0,e1⟩,_⟩:=can2 hq
   have Ae:RowKit.Hid (Below w.heap.size w ((wr.setCell ⟨w.heap.size,0,none⟩ (.int .i64 (wHi l.sum))).setCell ⟨w.heap.size,1,none⟩ (.int .u64 (wLo l.sum)))):=Hd ((hB.setCell (Nat.le_refl _) _).setCell (Nat.le_refl _) _)
   clear h0 h1 hB hq
   go_wp2_with (fail)
   refine bodyPost_ret (v:=.agg #[.int .i64 (wHi l.sum),.int .u64 (wLo l.sum)]) (by simp [results,Tryz.results180,go_sem,e0,e1]) rfl ⟨rfl,Ae.out⟩
theorem all2_any (x y:Int) (b:Nat) (w:World) (hx:WOk x) (hxy:WOk (x + y)) (h:w.heap[b]? = some (.cells #[.int .i64 (wHi x),.int .u64 (wLo x),.int .i64 (wHi y),.int .u64 (wLo y)] 100 (0,0))) :
  Calls Tryz.prog 180 #[.slice (some ⟨b,0,none⟩) 2 2] w fun e w'=>e = .returned (.agg #[.int .i64 (wHi (x + y)),.int .u64 (wLo (x + y))])∧Below w.heap.size w w':=by
 have hb:=(Array.getElem?_eq_some_iff.1 h).1
 have hr:RA 2 wF (fun _=>True) w (.slice (some ⟨b,0,none⟩) 2 2) [x,y]:=by
  refine ⟨_,2,rfl,(show (2:Nat)≤maxLen by decide),Nat.le_refl 2,(fun e=>by cases e),fun _=>⟨b,0,rfl,hb,trivial,fun j hj i hi => ?_⟩⟩
  have Aa:j < 2:=hj
  rcases (show j=0∨j=1 by omega) with rfl | rfl <;> rcases (show i=0∨i=1 by omega) with rfl | rfl
  ·exact cell_of_row _ _ 0 _ _ _ h
  ·exact cell_of_row _ _ 1 _ _ _ h
  ·exact cell_of_row _ _ 2 _ _ _ h
  ·exact cell_of_row _ _ 3 _ _ _ h
 have:=all_any _ _ [x,y] w hr (show (2:Nat)≤1000 by decide) (fun k hk=>by
  have Ab:k < 2:=hk
  rcases (show k=0∨k=1 by omega) with rfl | rfl
  ·simpa using hx
  ·simpa using hxy)
 simpa using this
end Go.Proofs.YtjdccifdkjnknaaGreatDoor
namespace Go.Proofs.YtjdccifdkjnknaaGreatDoor
open Go.RowKit Go.Sort Go.Shelf
attribute [local go_sem] Oper.semAt_some
set_option maxRecDepth 100000 in
set_option maxHeartbeats 4000000 in
theorem wSum_any (p:Nat→Prop) (v:Value) (ns:List Int) (w:World) (hv:RA 1 intF p w v ns) (hok:∀ n ∈ ns,I64 n) (hs:∀ k,k < ns.length→WOk (ns.take k).sum∧WOk ((ns.take k).sum + ns.getD k 0)) :
  Calls Tryz.prog 135 #[v] w fun e w'=>e = .returned (.agg #[.int .i64 (wHi ns.sum),.int .u64 (wLo ns.sum)])∧Below w.heap.size w w':=by
 have Bl:=Hd hv.lt
 have HS:=Hd hs
 obtain ⟨a,c,rfl,_⟩:=id hv
 clear hv hs
 obtain ⟨W1,A1⟩:∃ W1,((w.alloc (.cells #[.int .i64 0,.int .u64 0] 100)).alloc (.cells #[.int .i64 0,.int .u64 0] 100)).alloc (.cells #[.slice a ns.length c] 49)=W1:=⟨_,rfl⟩
 obtain ⟨k0,k1,k2,kS,kB⟩:=laid3 w (.cells #[.int .i64 0,.int .u64 0] 100) (.cells #[.int .i64 0,.int .u64 0] 100) (.cells #[.slice a ns.length c] 49)
 rw [A1] at k0 k1 k2 kS kB
 have Bc:=Hd (ni ns (w.heap.size + 2) (.slice a ns.length c) (fun x=>p x∧x < w.heap.size) (fun x=>(p x∧x < w.heap.size)∨x=w.heap.size + 2) (fun _ h => .inl h) hok W1 (cell_of_row _ _ 0 _ _ _ k2) (.inr rfl) (Bl.out.ag (Ag.new _ kB)))
 have K0:=Hd k0
 have K1:=Hd k1
 have K2:=Hd k2
 have KB:=Hd kB
 clear k0 k1 k2 kB
 refine (callsIn_wide (n:=5)).1 ?_
 refine callsIn_of_wp_marks Tryz.func135 rfl trivial ?_ rfl
 simp only [Tryz.ntmps135,List.size_toArray,List.length_cons,List.length_nil,Nat.reduceAdd,Nat.reduceSub,Array.replicate_succ,Array.replicate_zero,List.push_toArray,List.append_toArray,List.nil_append,List.cons_append]
 gi_wp2_with (refine ⟨trivial,?_⟩;gi_at_call 179;refine (callsIn_wide.2 (numbers_any a ns.length c _)).mono ?_;rintro e w2 ⟨rfl,rfl⟩)
 refine Rf.rw3 (gf:=210) (lb:=#[.pointer (some ⟨w.heap.size + 2,0,none⟩)]) rfl (enters_of Tryz.func210 (by kernel_rfl) rfl) ?_
 intro fn W3 hL hD Ak A4
 rw [kS] at hL hD A4 ⊢
 obtain ⟨Aa,Ad,hL⟩:∃ Aa:Loop,Aa=_∧W3.heap[w.heap.size + 3 + 1]? = some (.loop Aa):=⟨_,rfl,hL⟩
 have Aw:=Hd Ad
 have Ap:Aa.state = .ready∧Aa.params.size=1∧Aa.pending=none:=by rw [Ad];exact ⟨rfl,rfl,rfl⟩
 clear Ad
 obtain ⟨Ap,Bk,A8⟩:=Ap
 obtain ⟨J,hJ⟩:∃ J:Nat→World→Prop,J=fun k X=>X.heap[w.heap.size]? = some (.cells #[.int .i64 0,.int .u64 0] 100 (0,0))∧X.heap[w.heap.size + 1]? = some (.cells #[.int .i64 (wHi (ns.take k).sum),.int .u64 (wLo (ns.take k).sum)] 100 (0,0))∧X.heap[w.heap.size + 2]? = some (.cells #[.slice a ns.length c] 49 (0,0))∧X.heap[w.heap.size + 3]? = some (.deferred (some []))∧X.heap[w.heap.size + 3 + 1]? = some (.loop Aa)∧Below w.heap.size w X:=⟨_,rfl⟩
 have HJ:RowKit.Hid (∀ k X,J k X↔(X.heap[w.heap.size]? = some (.cells #[.int .i64 0,.int .u64 0] 100 (0,0))∧X.heap[w.heap.size + 1]? = some (.cells #[.int .i64 (wHi (ns.take k).sum),.int .u64 (wLo (ns.take k).sum)] 100 (0,0))∧X.heap[w.heap.size + 2]? = some (.cells #[.slice a ns.length c] 49 (0,0))∧X.heap[w.heap.size + 3]? = some (.deferred (some []))∧X.heap[w.heap.size + 3 + 1]? = some (.loop Aa)∧Below w.heap.size w X)):=Hd fun k X=>by rw [hJ]
 have Bg:J 0 W3:=(HJ.out _ _).2 ⟨(Ak.block _ (by omega)).trans K0.out,(Ak.block _ (by omega)).trans K1.out,(Ak.block _ (by omega)).trans K2.out,hD,hL,Bt KB.out Ak⟩
 clear hJ Ak hL hD A4 A1
 refine callsIn_wide.2 ((Bc.out (w.heap.size + 3 + 1) Aa.fn (fun v=>(Aa.params.zip v).foldl (fun tmps (t,a)=>tmps.setIfInBounds t a) Aa.tmps) Aa.assign Aa.body J ?_ ?_ ?_ ?_ ?_ W3 Bg).mono ?_)
 ·intro k X X' h hb
  obtain ⟨h1,h2,h3,h4,h5,h6⟩:=(HJ.out _ _).1 h
  exact (HJ.out _ _).2 ⟨(hb.block _ (Array.getElem?_eq_some_iff.1 h1).1).trans h1,(hb.block _ (Array.getElem?_eq_some_iff.1 h2).1).trans h2,(hb.block _ (Array.getElem?_eq_some_iff.1 h3).1).trans h3,(hb.block _ (Array.getElem?_eq_some_iff.1 h4).1).trans h4,(hb.block _ (Array.getElem?_eq_some_iff.1 h5).1).trans h5,Bt h6 hb⟩
 ·intro k X X' l' o h Bq ho hc hs
  obtain ⟨h1,h2,h3,h4,h5,h6⟩:=(HJ.out _ _).1 h
  exact (HJ.out _ _).2 ⟨(hs.block _ (by omega)).trans h1,(hs.block _ (by omega)).trans h2,(hs.block _ (by omega)).trans h3,(hs.block _ (by omega)).trans h4,(hs.block _ (by omega)).trans h5,h6.trans (hs.below (by omega))⟩
 ·intro k X h
  obtain ⟨h1,h2,h3,h4,h5,h6⟩:=(HJ.out _ _).1 h
  have hx:=(Array.getElem?_eq_some_iff.1 h5).1
  refine ⟨hx,by omega,fun x hxl Az => ?_⟩
  rcases Az with ⟨Az,A7⟩ | rfl
  ·exact (h6.block x A7).trans (KB.out.block x A7).symm
  ·exact h3.trans K2.out.symm
 ·intro k X h z hz
  obtain ⟨h1,h2,h3,h4,h5,h6⟩:=(HJ.out _ _).1 h
  exact run_yield h5 (by rw [Bk,hz])
 ·intro k X hk h
  obtain ⟨h1,h2,h3,h4,h5,h6⟩:=(HJ.out _ _).1 h
  rw [List.length_map] at hk
  have HX:=Hd (HJ.out k X)
  have Br:=Hd h
  have An:=HS.out k hk
  have Ay:ns.getD k 0=ns[k]:=by simp [List.getD,hk]
  rw [Ay] at An
  have Al:(ns.take (k + 1)).sum=(ns.take k).sum + ns[k]:=by rw [List.take_succ_eq_append_getElem hk,List.sum_append_int];simp
  have Ar:=Hd (fun b W=>all2_any (ns.take k).sum ns[k] b W An.1 An.2)
  have A0:=Hd (HJ.out (k + 1))
  rw [Al] at A0
  simp only [List.getElem_map]
  unfold wF
  clear An Ay Al HJ
  have H1:=Hd h1
  have H2:=Hd h2
  have H3:=Hd h3
  have H4:=Hd h4
  have H5:=Hd h5
  have H6:=Hd h6
  have A2:=Hd (Array.getElem?_eq_some_iff.1 h5).1
  generalize (ns.take k).sum=S at *
  generalize ns[k]=z at *
  generalize J (k + 1)=J' at *
  clear h h1 h2 h3 h4 h5 h6
  refine Rf.rw2 (r:=Aa) ?_
  have Bd:=Aw.out
  subst Bd
  dsimp only
  obtain ⟨X1,Bh⟩:∃ X1,X.alloc (.cells #[.int .i64 (wHi z),.int .u64 (wLo z)] 100)=X1:=⟨_,rfl⟩
  obtain ⟨q1,qS,qB⟩:=la2 X (.cells #[.int .i64 (wHi z),.int .u64 (wLo z)] 100)
  rw [Bh] at q1 qS qB
  have Q1:=Hd q1
  have QS:=Hd qS
  have QB:=Hd qB
  clear q1 qS qB
  gi_wp2_with (rw [Oper.semAt_eq _ _ _ (fun c h=>by cases h)];go_simp;try go_bits)
  have Av:=A2.out
  refine ⟨(QB.out.block _ Av).trans H5.out,fun X2 hs2 hl2 => ?_⟩
  have A9:=QS.out
  have Ax:=hs2.size
  have g1:=(hs2.block (w.heap.size + 1) (by omega)).trans ((QB.out.block _ (by omega)).trans H2.out)
  have gq:=(hs2.block X.heap.size (by omega)).trans Q1.out
  obtain ⟨⟨x0,x1⟩,_⟩:=can2 g1
  obtain ⟨⟨y0,y1⟩,_⟩:=can2 gq
  obtain ⟨X3,Bo⟩:∃ X3,X2.alloc (.cells #[.int .i64 (wHi S),.int .u64 (wLo S),.int .i64 (wHi z),.int .u64 (wLo z)] 100)=X3:=⟨_,rfl⟩
  obtain ⟨r1,rS,rB⟩:=la2 X2 (.cells #[.int .i64 (wHi S),.int .u64 (wLo S),.int .i64 (wHi z),.int .u64 (wLo z)] 100)
  rw [Bo] at r1 rS rB
  have Bb:=Hd (Ar.out _ _ r1)
  have At:=Hd (show ∀ b,b < X.heap.size→b≠w.heap.size + 3 + 1→X3.heap[b]? = X.heap[b]? from fun b h1 h2=>(rB.block b (by omega)).trans ((hs2.block b h2).trans (QB.out.block b h1)))
  have Be:=Hd ((rB.block _ (by omega)).trans hl2)
  have Bp:=Hd (Bt ((Bt H6.out QB.out).trans (hs2.below (by omega))) rB)
  have Bi:=Hd (show X.heap.size < X3.heap.size by omega)
  have A5:=Hd ((rB.block (w.heap.size + 1) (by omega)).trans g1)
  clear g1 gq r1 rS rB A9 Ax hs2 hl2 Av
  gi_wp2_with (first | (refine ⟨trivial,?_⟩;gi_at_call 180;refine CallsIn.mono (CallsIn.inRound _ (callsIn_wide.2 Bb.out)) ?_;rintro e w5 ⟨rfl,Ab⟩;have Bn:=Hd Ab;have As:=(Ab.block _ (Array.getElem?_eq_some_iff.1 A5.out).1).trans A5.out;have Ba:=Hd As;obtain ⟨⟨p0,p1⟩,f0,f1⟩:=can2 As;clear Ab As) | (rw [Oper.semAt_eq _ _ _ (fun c h=>by cases h)];go_simp;try go_bits))
  have Ab:=Bn.out
  have Av:=A2.out
  have Bs:=Bi.out
  obtain ⟨W6,Ao⟩:∃ W6,(w5.setCell ⟨w.heap.size + 1,0,none⟩ (.int .i64 (wHi (S + z)))).setCell ⟨w.heap.size + 1,1,none⟩ (.int .u64 (wLo (S + z)))=W6:=⟨_,rfl⟩
  have Ai:∀ b,b≠w.heap.size + 1→W6.heap[b]? = w5.heap[b]? := fun b hb=>by rw [← Ao,heap_setCell_other _ _ _ _ (show b≠w.heap.size + 1 from hb),heap_setCell_other _ _ _ _ (show b≠w.heap.size + 1 from hb)]
  have Am:∀ b,b < X.heap.size→b≠w.heap.size + 3 + 1→b≠w.heap.size + 1→W6.heap[b]? = X.heap[b]? := fun b h1 h2 h3=>(Ai b h3).trans ((Ab.block b (by omega)).trans (At.out b h1 h2))
  have Bf:=(Ai (w.heap.size + 3 + 1) (by omega)).trans ((Ab.block _ (by omega)).trans Be.out)
  have Bj:W6.heap[w.heap.size + 1]? = some (.cells #[.int .i64 (wHi (S + z)),.int .u64 (wLo (S + z))] 100 (0,0)):=by rw [← Ao];exact heap_setCell_same _ _ 1 _ _ (.int .u64 (wLo (S + z))) (heap_setCell_same _ _ 0 _ _ (.int .i64 (wHi (S + z))) Ba.out)
  have Bm:Below w.heap.size w W6:=by rw [← Ao];exact ((Bt Bp.out Ab).setCell (by show _≤w.heap.size + 1;omega) _).setCell (by show _≤w.heap.size + 1;omega) _
  rw [Ao]
  refine ⟨Bf,fun X7 hs7 hl7=>⟨rfl,(A0.out X7).2 ⟨?_,?_,?_,?_,hl7,Bm.trans (hs7.below (by omega))⟩,fun b h1 h2 => ?_⟩⟩
  ·exact (hs7.block _ (by omega)).trans ((Am _ (by omega) (by omega) (by omega)).trans H1.out)
  ·exact (hs7.block _ (by omega)).trans Bj
  ·exact (hs7.block _ (by omega)).trans ((Am _ (by omega) (by omega) (by omega)).trans H3.out)
  ·exact (hs7.block _ (by omega)).trans ((Am _ (by omega) (by omega) (by omega)).trans H4.out)
  ·exact (hs7.block b (by omega)).trans (Am b h2 (by omega) (by omega))
 ·rintro e W8 ⟨⟨vv,rfl⟩,h⟩
  rw [List.length_map,HJ.out,List.take_length] at h
  obtain ⟨h1,h2,h3,h4,h5,h6⟩:=h
  refine ⟨⟨_,rfl⟩,Aa,h5,by rw [Ap];decide,?_⟩
  intro W9 Aj
  rw [A8]
  dsimp only
  have A3:=(Aj.block (w.heap.size + 3) (by omega)).trans h4
  have g0:=(Aj.block w.heap.size (by omega)).trans h1
  have g1:=(Aj.block (w.heap.size + 1) (by omega)).trans h2
  have A6:=h6.trans (Aj.below (by omega))
  obtain ⟨⟨x0,x1⟩,_⟩:=can2 g1
  obtain ⟨_,f0,f1⟩:=can2 g0
  have hq:=heap_setCell_same _ _ 1 _ _ (.int .u64 (wLo ns.sum)) (heap_setCell_same _ _ 0 _ _ (.int .i64 (wHi ns.sum)) g0)
  obtain ⟨Ae,Ac⟩:∃ Ae,(W9.setCell ⟨w.heap.size,0,none⟩ (.int .i64 (wHi ns.sum))).setCell ⟨w.heap.size,1,none⟩ (.int .u64 (wLo ns.sum))=Ae:=⟨_,rfl⟩
  have Af:Below w.heap.size w Ae:=by rw [← Ac];exact (A6.setCell (Nat.le_refl _) _).setCell (Nat.le_refl _) _
  have Aq:Ae.heap[w.heap.size + 3]? = some (.deferred (some [])):=by rw [← Ac,heap_setCell_other _ _ _ _ (show w.heap.size + 3≠w.heap.size by omega),heap_setCell_other _ _ _ _ (show w.heap.size + 3≠w.heap.size by omega)];exact A3
  rw [Ac] at hq
  have Ah:=(World.putObj_heap_other (w:=Ae) (o:=.deferred none) (show w.heap.size≠w.heap.size + 3 by omega)).trans hq
  obtain ⟨⟨e0,e1⟩,_⟩:=can2 Ah
  have Au:=Hd (Af.trans ((Rf.SB.put Ae (w.heap.size + 3) (.deferred none)).below (show w.heap.size≤w.heap.size + 3 by omega)))
  clear h1 h2 h3 h4 h5 h6 Aj g0 g1 A6 hq Ah Af A3
  gi_wp2
  refine ⟨by simp,.inl ⟨_,_,rfl,run_takeDeferred Aq,?_⟩⟩
  refine ⟨.agg #[.int .i64 (wHi ns.sum),.int .u64 (wLo ns.sum)],by simp [results,Tryz.results135,go_sem,e0,e1],rfl,Au.out⟩
end Go.Proofs.YtjdccifdkjnknaaGreatDoor
namespace Go.Proofs.YtjdccifdkjnknaaGreatDoor
open Go.RowKit Go.Sort Go.Shelf
theorem sum2_any (x y:Int) (b:Nat) (w:World) (hx:I64 x) (hy:I64 y) (h:w.heap[b]? = some (.cells #[.int .i64 x,.int .i64 y] 2 (0,0))) :
  Calls Tryz.prog 135 #[.slice (some ⟨b,0,none⟩) 2 2] w fun e w'=>e = .returned (.agg #[.int .i64 (wHi (x + y)),.int .u64 (wLo (x + y))])∧Below w.heap.size w w':=by
 have hb:=(Array.getElem?_eq_some_iff.1 h).1
 have hr:RA 1 intF (fun _=>True) w (.slice (some ⟨b,0,none⟩) 2 2) [x,y]:=by
  refine ⟨_,2,rfl,(show (2:Nat)≤maxLen by decide),Nat.le_refl 2,(fun e=>by cases e),fun _=>⟨b,0,rfl,hb,trivial,fun j hj i hi => ?_⟩⟩
  have Aa:j < 2:=hj
  obtain rfl:i=0:=by omega
  rcases (show j=0∨j=1 by omega) with rfl | rfl
  ·exact cell_of_row _ _ 0 _ _ _ h
  ·exact cell_of_row _ _ 1 _ _ _ h
 have:=wSum_any _ _ [x,y] w hr (fun n hn=>by
  rcases List.mem_cons.1 hn with rfl | hn
  ·exact hx
  ·rw [List.mem_singleton.1 hn];exact hy) (fun k hk=>by
  have Ab:k < 2:=hk
  obtain ⟨h1,h2⟩:=hx
  obtain ⟨h3,h4⟩:=hy
  rcases (show k=0∨k=1 by omega) with rfl | rfl
  ·simp [WOk];omega
  ·simp [WOk];omega)
 simpa using this
theorem box2 {w W:World} {g:Nat} {x0 x1:Value} {T:TypeId} (y0 y1:Value) (h:W.heap[g]? = some (.cells #[x0,x1] T (0,0))) {N:Nat} (hB:Below N w W) (hg:N≤g) :
  ∃ W',(W.setCell ⟨g,0,none⟩ y0).setCell ⟨g,1,none⟩ y1=W'∧W'.heap[g]? = some (.cells #[y0,y1] T (0,0))∧(∀ b,b≠g→W'.heap[b]? = W.heap[b]?)∧W'.heap.size=W.heap.size∧Below N w W':=
 ⟨_,rfl,heap_setCell_same _ _ 1 _ _ y1 (heap_setCell_same _ _ 0 _ _ y0 h),fun b hb=>by rw [heap_setCell_other _ _ _ _ (show b≠g from hb),heap_setCell_other _ _ _ _ (show b≠g from hb)],by simp [World.setCell],(hB.setCell hg _).setCell hg _⟩
def nBX (v:Value) (s e:Nat) (W:World):Prop:=∃ g,v = .pointer (some ⟨g,0,none⟩)∧s≤g∧g < e∧W.heap[g]? = some (.cells #[.int .i64 0,.int .u64 0] 100 (0,0))
theorem nBX2:FlX.Spec.mono (some (.inr nBX)):=fun _ _ _ _ _ ⟨g,h1,h2,h3,h4⟩ hb=>⟨g,h1,h2,h3,(hb.block _ (Array.getElem?_eq_some_iff.1 h4).1).trans h4⟩
set_option maxRecDepth 100000 in
set_option maxHeartbeats 4000000 in
theorem isSum_one (l:Int) (hl:I64 l) (w:World):Calls Tryz.prog 89 #[.agg #[.int .i64 (wHi l),.int .u64 (wLo l)],.int .i64 1,.int .i64 l,.int .i64 l] w fun e w'=>e = .returned (.bool true)∧Below w.heap.size w w':=by
 have Ae:=Hd (fun W=>wOf_eq l hl W)
 generalize wHi l=a at *
 generalize wLo l=b at *
 obtain ⟨W0,Ab⟩:∃ W0,w.alloc (.cells #[.int .i64 a,.int .u64 b] 100)=W0:=⟨_,rfl⟩
 obtain ⟨k0,kS,kB⟩:=la2 w (.cells #[.int .i64 a,.int .u64 b] 100)
 rw [Ab] at k0 kS kB
 obtain ⟨⟨x0,x1⟩,_⟩:=can2 k0
 have Af:w.heap.size < W0.heap.size:=by omega
 have HB:=Hd kB
 clear k0 kS kB hl
 go_enter Tryz.func89,Tryz.ntmps89
 go_wp2_with (fail)
 refine Flow.wrf 8 (Flow.sp3 [.inl ?_,.inl ?_,.inl ?_,.inl ?_,.inl ?_,.inl ?_,.inl ?_,.inl ?_]) (by kernel_rfl) (by kernel_rfl) ?_ ?_
 rotate_left 8
 ·refine Flow.sm2 ?_
  repeat (first | exact Flow.ln2 | refine Flow.li2 ?_)
 all_goals try simp only [List.take_succ_cons,List.take_zero,List.drop_succ_cons,List.drop_zero]
 iterate 6 (refine Flow.tvK rfl (fun K hK=>⟨fun w hw hG => ?_,?_⟩);(have Ac:=Flow.bc4 hw;clear hG hw;unfold Flow.Runs Flow.yields;go_simp;try rfl);go_simp;refine hK _ ?_;clear hK K)
 (refine Flow.tvK rfl (fun K hK=>⟨fun w hw hG => ?_,?_⟩);(clear hG hw;unfold Flow.Runs Flow.yields;go_simp;refine (Ae.out _).mono ?_;rintro e w5 ⟨rfl,Aa⟩;first | exact ⟨_,rfl,Aa,rfl⟩ | (refine ⟨?_,Aa⟩;rfl));go_simp;refine hK _ ?_;clear hK K)
 iterate 1 (refine Flow.tvK rfl (fun K hK=>⟨fun w hw hG => ?_,?_⟩);(have Ac:=Flow.bc4 hw;clear hG hw;unfold Flow.Runs Flow.yields;go_simp;try rfl);go_simp;refine hK _ ?_;clear hK K)
 refine Flow.tn2 fun w5 hw5 hG => ?_
 clear hG x0 x1
 have Ad:=Hd (Bt HB.out hw5)
 clear hw5
 go_simp
 go_wp2
 go_ret
 exact ⟨rfl,Ad.out⟩
set_option maxRecDepth 100000 in
set_option maxHeartbeats 1000000 in
theorem isSum_more (s n l h:Int) (hs:Tess.SO2 s n l h) (hn:2≤n∧n≤1000000) (hl:I64 l) (hh:I64 h) (w:World):Calls Tryz.prog 89 #[.agg #[.int .i64 (wHi s),.int .u64 (wLo s)],.int .i64 n,.int .i64 l,.int .i64 h] w fun e w'=>e = .returned (.bool true)∧Below w.heap.size w w':=by
 obtain ⟨m,hm⟩:∃ m:Nat,n - 2=m:=⟨(n - 2).toNat,by omega⟩
 have Ao:m≤1000000:=by omega
 have Bs:IntKind.i64.wrap (n - 2)=(m:Int):=by rw [IntKind.wrap_i64];omega
 have Bv:¬ n=1:=by omega
 obtain ⟨s1,s2,s3⟩:=hs
 have b1:=mb2 hl (show (0:Int)≤(m:Int)∧(m:Int)≤1000000 by omega)
 have b2:=mb2 hh (show (0:Int)≤(m:Int)∧(m:Int)≤1000000 by omega)
 have e1:l * (n - 1)=l * m + l:=by rw [show n - 1=(m:Int) + 1 by omega,Int.mul_add,Int.mul_one]
 have e2:h * (n - 1)=h * m + h:=by rw [show n - 1=(m:Int) + 1 by omega,Int.mul_add,Int.mul_one]
 rw [e1] at s2
 rw [e2] at s3
 have Ac:=Hd (fun b W=>sum2_any l h b W hl hh)
 have A5:=Hd (fun W=>wMa l m hl Ao W)
 have Av:=Hd (fun W=>wMa h m hh Ao W)
 have A1:=Hd (fun W=>wAa (l + h) (l * m) (by unfold WOk;unfold I64 at hl hh;omega) W)
 have At:=Hd (fun W=>wAa (l + h) (h * m) (by unfold WOk;unfold I64 at hl hh;omega) W)
 have Bf:=Hd (fun W=>wCa (l + h + l * m) s W)
 have Bg:=Hd (fun W=>wCa s (l + h + h * m) W)
 have Bu:cmpI (l + h + l * m) s≤0:=(cIl _ _).2 (by omega)
 have Br:cmpI s (l + h + h * m)≤0:=(cIl _ _).2 (by omega)
 generalize cmpI (l + h + l * m) s=z1 at *
 generalize cmpI s (l + h + h * m)=z2 at *
 generalize wHi (l + h + l * m)=u1 at *
 generalize wLo (l + h + l * m)=v1 at *
 generalize wHi (l + h + h * m)=u2 at *
 generalize wLo (l + h + h * m)=v2 at *
 generalize wHi (l * m)=p1 at *
 generalize wLo (l * m)=q1 at *
 generalize wHi (h * m)=p2 at *
 generalize wLo (h * m)=q2 at *
 generalize wHi (l + h)=p0 at *
 generalize wLo (l + h)=q0 at *
 generalize wHi s=a at *
 generalize wLo s=b at *
 clear s2 s3 b1 b2 e1 e2 hm Ao hl hh hn
 obtain ⟨W0,Ax⟩:∃ W0,(w.alloc (.cells #[.int .i64 a,.int .u64 b] 100)).alloc (.cells #[.int .i64 l,.int .i64 h] 2)=W0:=⟨_,rfl⟩
 obtain ⟨k0,k1,kS,kB⟩:=la3 w (.cells #[.int .i64 a,.int .u64 b] 100) (.cells #[.int .i64 l,.int .i64 h] 2)
 rw [Ax] at k0 k1 kS kB
 have A9:=Hd (Ac.out _ _ k1)
 have K0:=Hd k0
 have KB:=Hd kB
 have KS:=Hd kS
 clear k0 k1 kS kB Ac
 go_enter Tryz.func89,Tryz.ntmps89
 go_wp2_with (fail)
 go_at_call 135
 refine A9.out.mono ?_
 rintro e w1 ⟨rfl,Ai⟩
 have Ad:=(Ai.block w.heap.size (by have:=KS.out;omega)).trans K0.out
 have Bb:=Hd (Bt KB.out Ai)
 obtain ⟨W2,Ay⟩:∃ W2,w1.alloc (.cells #[.int .i64 p0,.int .u64 q0] 100)=W2:=⟨_,rfl⟩
 obtain ⟨k2,Az,Ae⟩:=la2 w1 (.cells #[.int .i64 p0,.int .u64 q0] 100)
 rw [Ay] at k2 Az Ae
 have An:=(Ae.block _ (Array.getElem?_eq_some_iff.1 Ad).1).trans Ad
 obtain ⟨⟨x0,x1⟩,_⟩:=can2 k2
 have Bm:w1.heap.size < W2.heap.size:=by omega
 have Bc:=Hd An
 have A8:=Hd (Bt Bb.out Ae)
 have Ag:=Hd (show w.heap.size < w1.heap.size from (Array.getElem?_eq_some_iff.1 Ad).1)
 have Bn:=Hd (show w.heap.size < W2.heap.size from (Array.getElem?_eq_some_iff.1 An).1)
 clear Ad An Ai k2 Ae Az Ax
 go_wp2_with (fail)
 clear Ay
 refine FlX.wrf 14 (FlX.sp3 [some (.inl ?_),some (.inl ?_),some (.inl ?_),some (.inl ?_),some (.inl ?_),some (.inl ?_),some (.inl ?_),some (.inl ?_),some (.inl ?_),some (.inl ?_),some (.inl ?_),some (.inl ?_),some (.inr nBX),some (.inr nBX)]) (by kernel_rfl) (by kernel_rfl) ?_ ?_
 rotate_left 12
 ·refine FlX.sm2 ?_
  repeat (first | exact FlX.ln2 | refine FlX.li2 ?_ | refine FlX.li3 nBX2 ?_)
 all_goals try simp only [List.take_succ_cons,List.take_zero,List.drop_succ_cons,List.drop_zero]
 iterate 4 (refine FlX.tvK rfl (fun K hK=>⟨fun w hw hG => ?_,?_⟩);(have Bp:=Flow.bc4 hw;clear hG hw;unfold FlX.RV Flow.yields;go_simp;try rfl);go_simp;refine hK _ ?_;clear hK K)
 (refine FlX.tvK rfl (fun K hK=>⟨fun w hw hG => ?_,?_⟩);(clear hG hw;unfold FlX.RV Flow.yields;go_simp;refine (A5.out _).mono ?_;rintro e w5 ⟨rfl,Aa⟩;first | exact ⟨_,rfl,Aa,rfl⟩ | (refine ⟨?_,Aa⟩;rfl));go_simp;refine hK _ ?_;clear hK K)
 (refine FlX.tvK rfl (fun K hK=>⟨fun w hw hG => ?_,?_⟩);(clear hG hw;unfold FlX.RV Flow.yields;go_simp;refine (A1.out _).mono ?_;rintro e w5 ⟨rfl,Aa⟩;first | exact ⟨_,rfl,Aa,rfl⟩ | (refine ⟨?_,Aa⟩;rfl));go_simp;refine hK _ ?_;clear hK K)
 iterate 4 (refine FlX.tvK rfl (fun K hK=>⟨fun w hw hG => ?_,?_⟩);(have Bp:=Flow.bc4 hw;clear hG hw;unfold FlX.RV Flow.yields;go_simp;try rfl);go_simp;refine hK _ ?_;clear hK K)
 (refine FlX.tvK rfl (fun K hK=>⟨fun w hw hG => ?_,?_⟩);(clear hG hw;unfold FlX.RV Flow.yields;go_simp;refine (Av.out _).mono ?_;rintro e w5 ⟨rfl,Aa⟩;first | exact ⟨_,rfl,Aa,rfl⟩ | (refine ⟨?_,Aa⟩;rfl));go_simp;refine hK _ ?_;clear hK K)
 (refine FlX.tvK rfl (fun K hK=>⟨fun w hw hG => ?_,?_⟩);(clear hG hw;unfold FlX.RV Flow.yields;go_simp;refine (At.out _).mono ?_;rintro e w5 ⟨rfl,Aa⟩;first | exact ⟨_,rfl,Aa,rfl⟩ | (refine ⟨?_,Aa⟩;rfl));go_simp;refine hK _ ?_;clear hK K)
 ((refine FlX.tvK2 rfl (fun K hK=>⟨fun w hw hG => ?_,?_⟩);(have hl:=la2 w (.cells #[.int .i64 0,.int .u64 0] 100);clear hG hw;unfold FlX.RR2 Flow.yields;go_simp;exact ⟨_,rfl,Nat.le_refl _,by omega,hl.1⟩));intro Bd;go_simp;refine hK _ _ ?_;clear hK K)
 ((refine FlX.tvK2 rfl (fun K hK=>⟨fun w hw hG => ?_,?_⟩);(have hl:=la2 w (.cells #[.int .i64 0,.int .u64 0] 100);clear hG hw;unfold FlX.RR2 Flow.yields;go_simp;exact ⟨_,rfl,Nat.le_refl _,by omega,hl.1⟩));intro A7;go_simp;refine hK _ _ ?_;clear hK K)
 refine FlX.tn2 fun w5 hw5 hG => ?_
 obtain ⟨I,hI⟩:=hG
 obtain ⟨As,rfl,Bh,Bi,Aj⟩:=(show nBX Bd _ _ w5 by simpa [FlX.upd] using hI.holds 12)
 obtain ⟨Aq,rfl,Al,Ak,A2⟩:=(show nBX A7 _ _ w5 by simpa [FlX.upd] using hI.holds 13)
 have Bl:=hI.apart 12 13 (by decide)
 have Ap:=hI.le 12
 have Ar:=hI.le 13
 clear hI
 generalize (I 12).1=s12 at *
 generalize (I 12).2=e12 at *
 generalize (I 13).1=s13 at *
 generalize (I 13).2=e13 at *
 clear I x0 x1 A5 Av A1 At
 have Be:As≠Aq:=by omega
 have HL:=Hd (show w1.heap.size < As∧w1.heap.size < Aq by omega)
 have A4:=Bt A8.out hw5
 have A3:=(hw5.block _ Bn.out).trans Bc.out
 clear Bl Ap Ar Bh Bi Al Ak hw5 Bm
 obtain ⟨W6,Bk,a6,o6,_,B6⟩:=box2 (.int .i64 u1) (.int .u64 v1) Aj A4 (by have:=HL.out;have:=Ag.out;omega)
 have Ab:=(o6 Aq (by omega)).trans A2
 obtain ⟨W7,Ba,a7,o7,_,B7⟩:=box2 (.int .i64 u2) (.int .u64 v2) Ab B6 (by have:=HL.out;have:=Ag.out;omega)
 have Ah:=(o7 As Be).trans a6
 have Am:=(o7 w.heap.size (by have:=HL.out;have:=Ag.out;omega)).trans ((o6 w.heap.size (by have:=HL.out;have:=Ag.out;omega)).trans A3)
 obtain ⟨_,f0,f1⟩:=can2 Aj
 obtain ⟨_,f2,f3⟩:=can2 Ab
 obtain ⟨⟨x0,x1⟩,_⟩:=can2 Ah
 obtain ⟨⟨y0,y1⟩,_⟩:=can2 Am
 have Bw:=Hd Ah
 have A6:=Hd Am
 have A0:=Hd a7
 have Bq:=Hd B7
 clear o6 o7 B6 B7 Ah Am a7 a6 Ab A2 Aj A4 A3
 go_simp
 go_wp2_with (fail)
 go_at_call 137
 refine (Bf.out _).mono ?_
 rintro e w8 ⟨rfl,Af⟩
 have h8:=(Af.block _ (Array.getElem?_eq_some_iff.1 A0.out).1).trans A0.out
 have Au:=(Af.block _ (Array.getElem?_eq_some_iff.1 A6.out).1).trans A6.out
 have Bo:=Hd (Bt Bq.out Af)
 clear x0 x1 y0 y1 f0 f1 f2 f3 Bk Ba
 obtain ⟨⟨p8,q8⟩,_⟩:=can2 h8
 obtain ⟨⟨r8,s8⟩,_⟩:=can2 Au
 clear Af h8 Au
 go_wp2_with (fail)
 go_at_call 137
 refine (Bg.out _).mono ?_
 rintro e w9 ⟨rfl,Aw⟩
 have Bj:=Hd (Bt Bo.out Aw)
 clear Aw
 go_wp2_with (fail)
 go_ret
 exact ⟨rfl,Bj.out⟩
theorem isSum_any (s n l h:Int) (hs:Tess.SO2 s n l h) (hn:1≤n∧n≤1000000) (hl:I64 l) (hh:I64 h) (w:World):Calls Tryz.prog 89 #[.agg #[.int .i64 (wHi s),.int .u64 (wLo s)],.int .i64 n,.int .i64 l,.int .i64 h] w fun e w'=>e = .returned (.bool true)∧Below w.heap.size w w':=by
 by_cases h1:n=1
 ·subst h1
  obtain ⟨s1,s2,s3⟩:=hs
  obtain rfl:s=l:=by omega
  obtain rfl:h=s:=by omega
  exact isSum_one _ hl w
 ·exact isSum_more s n l h hs ⟨by omega,hn.2⟩ hl hh w
end Go.Proofs.YtjdccifdkjnknaaGreatDoor
