/- Joined by mergeQ.py: Q43, Q44 -/
import Derived.Test.YtbbgjjjeecfnoaaGreatDoorXQG
import Derived.Test.YtbbgjjjeecfnoaaGreatDoorXPE
import Derived.Test.YtbbgjjjeecfnoaaGreatDoorXQ11
import Derived.Maps.RangeWalk
namespace Go.Proofs.YtbbgjjjeecfnoaaGreatDoor
open Go.RowKit Go.Sort Go.Maps
open Tess (Tok)
theorem wrap_range (n:Int) : -9223372036854775808≤Tess.Wr.wrap n∧Tess.Wr.wrap n≤9223372036854775807:=by unfold Tess.Wr.wrap;omega
theorem wrap_same (n:Int):IntKind.i64.wrap n=Tess.Wr.wrap n:=IntKind.wrap_i64 n
def isOps (v:Value) (w:World):Prop:=SlOf w v (Tess.Prs.ops.map .string)
theorem isOps_mono:Flow.Spec.mono (.inr isOps):=fun _ _ _ h hb=>SlOf.below h hb
theorem ops_small:∀ x ∈ Tess.Prs.ops,x.size≤2:=by decide
theorem dig_size {n:Int} (h1 : -9223372036854775808≤n) (h2:n≤9223372036854775807):(Tok.ofL (Tess.Wr.digits n)).size≤20:=by
 rw [Tess.Tok.size_ofL]
 exact Tess.Prs.digits_len h1 h2
set_option maxRecDepth 100000 in
set_option maxHeartbeats 4000000 in
theorem condition_any (c:Tess.Cond) (hp : -9223372036854775808≤c.pos∧c.pos≤9223372036854775807) (ho : -9223372036854775808≤c.op∧c.op≤9223372036854775807) (hn : -9223372036854775808≤c.n∧c.n≤9223372036854775807) (w:World) (hV:Vz w) :
  Calls Tryz.prog 128 #[.agg #[.int .i64 c.pos,.int .i64 c.op,.int .i64 c.n]] w fun e w'=>e = .returned (.string (Tok.ofL (Tess.Wr.condition c)))∧Below w.heap.size w w':=by
 obtain ⟨pos,op,n⟩:=c
 simp only at hp ho hn ⊢
 have hwp:=wrap_same (pos + 1)
 have hwo:=wrap_same (op - 1)
 obtain ⟨r1,r2⟩:=wrap_range (pos + 1)
 obtain ⟨r3,r4⟩:=wrap_range (op - 1)
 have HE:=Lib.hid (show (⟨#[35,32]⟩:ByteArray) ++ Tok.ofL (Tess.Wr.digits (Tess.Wr.wrap (pos + 1))) ++ ⟨#[32]⟩ ++ Tok.ofL (Tess.Wr.one Tess.Prs.ops (Tess.Wr.wrap (op - 1))) ++ ⟨#[32]⟩ ++ Tok.ofL (Tess.Wr.digits n)=Tok.ofL (Tess.Wr.condition ⟨pos,op,n⟩) by
  unfold Tess.Wr.condition
  simp only [← cat];rfl)
 have s1:=dig_size r1 r2
 have s3:=dig_size hn.1 hn.2
 have s2:(Tok.ofL (Tess.Wr.one Tess.Prs.ops (Tess.Wr.wrap (op - 1)))).size≤2:=by
  rw [Tess.Tok.size_ofL]
  exact one_size _ _ 2 (by decide) ops_small
 have HD1:=Lib.hid (fun W (h:Vz W)=>digits_any _ r1 r2 W h)
 have HD3:=Lib.hid (fun W (h:Vz W)=>digits_any n hn.1 hn.2 W h)
 have HO:=Lib.hid (fun v W (h:SlOf W v (Tess.Prs.ops.map .string))=>one_any v Tess.Prs.ops (Tess.Wr.wrap (op - 1)) W h)
 generalize Tess.Wr.condition ⟨pos,op,n⟩=T at *
 generalize Tok.ofL (Tess.Wr.digits (Tess.Wr.wrap (pos + 1)))=D1 at *
 generalize Tok.ofL (Tess.Wr.one Tess.Prs.ops (Tess.Wr.wrap (op - 1)))=D2 at *
 generalize Tok.ofL (Tess.Wr.digits n)=D3 at *
 generalize Tess.Wr.wrap (pos + 1)=A at *
 generalize Tess.Wr.wrap (op - 1)=B at *
 have a1:=fun W=>run_string_add_sum (P:=Tryz.prog) W ⟨#[35,32]⟩ D1 (by show 2 + D1.size≤_;omega)
 have a2:=fun W=>run_string_add_sum (P:=Tryz.prog) W (⟨#[35,32]⟩ ++ D1) ⟨#[32]⟩ (by rw [ByteArray.size_append];show 2 + D1.size + 1≤_;omega)
 have a3:=fun W=>run_string_add_sum (P:=Tryz.prog) W (⟨#[35,32]⟩ ++ D1 ++ ⟨#[32]⟩) D2 (by rw [ByteArray.size_append,ByteArray.size_append];show 2 + D1.size + 1 + D2.size≤_;omega)
 have a4:=fun W=>run_string_add_sum (P:=Tryz.prog) W (⟨#[35,32]⟩ ++ D1 ++ ⟨#[32]⟩ ++ D2) ⟨#[32]⟩ (by rw [ByteArray.size_append,ByteArray.size_append,ByteArray.size_append];show 2 + D1.size + 1 + D2.size + 1≤_;omega)
 have a5:=fun W=>run_string_add_sum (P:=Tryz.prog) W (⟨#[35,32]⟩ ++ D1 ++ ⟨#[32]⟩ ++ D2 ++ ⟨#[32]⟩) D3 (by rw [ByteArray.size_append,ByteArray.size_append,ByteArray.size_append,ByteArray.size_append];show 2 + D1.size + 1 + D2.size + 1 + D3.size≤_;omega)
 obtain ⟨W0,hW0⟩:∃ W0,w.alloc (.cells #[.int .i64 pos,.int .i64 op,.int .i64 n] 147)=W0:=⟨_,rfl⟩
 obtain ⟨l1,l2,l3⟩:=laid1 w (.cells #[.int .i64 pos,.int .i64 op,.int .i64 n] 147)
 rw [hW0] at l1 l2 l3
 have c0:=cell_of_row _ _ 0 _ _ _ l1;have c1:=cell_of_row _ _ 1 _ _ _ l1;have c2:=cell_of_row _ _ 2 _ _ _ l1
 simp only [List.getElem?_toArray,List.getElem?_cons_succ,List.getElem?_cons_zero] at c0 c1 c2
 have hlt:w.heap.size < W0.heap.size:=by omega
 have HV0:=Lib.hid (hV.below l3)
 have HB0:=Lib.hid l3
 clear l1 l3 hV
 go_enter Tryz.func128,Tryz.ntmps128
 go_wp2_with (fail)
 refine Flow.wp_region_flow_tail 17 (Flow.specs [.inl ?_,.inl ?_,.inl ?_,.inl ?_,.inl ?_,.inl ?_,.inr isOps,.inl ?_,.inl ?_,.inl ?_,.inl ?_,.inl ?_,.inl ?_,.inl ?_,.inl ?_,.inl ?_,.inl ?_]) (by kernel_rfl) (by kernel_rfl) ?_ ?_
 rotate_left 16
 ·refine Flow.specs_mono ?_
  repeat (first | exact Flow.lmono_nil | refine Flow.lmono_inl ?_ | refine Flow.lmono_inr isOps_mono ?_)
 all_goals try simp only [List.take_succ_cons,List.take_zero,List.drop_succ_cons,List.drop_zero]
 iterate 3 (refine Flow.tree_valK rfl (fun K hK=>⟨fun w hw hG => ?_,?_⟩);(have hcl:=Flow.bcell hw;clear hG hw;unfold Flow.Runs Flow.yields;go_simp;try rfl);go_simp;refine hK _ ?_;clear hK K)
 (refine Flow.tree_valK rfl (fun K hK=>⟨fun w hw hG => ?_,?_⟩);(have hV2:=HV0.out.below hw;clear hG hw;unfold Flow.Runs Flow.yields;go_simp;refine (HD1.out _ hV2).mono ?_;rintro e w3 ⟨rfl,hb3⟩;(refine ⟨?_,hb3⟩;rfl));go_simp;refine hK _ ?_;clear hK K)
 iterate 2 (refine Flow.tree_valK rfl (fun K hK=>⟨fun w hw hG => ?_,?_⟩);(have hcl:=Flow.bcell hw;clear hG hw;unfold Flow.Runs Flow.yields;go_simp;try rfl);go_simp;refine hK _ ?_;clear hK K)
 (refine Flow.tree_varK rfl (fun K hK=>⟨fun w hw hG => ?_,?_⟩);(clear hG hw;unfold Flow.Runs Flow.yields;go_simp;refine (ops_any _).mono ?_;rintro e w3 ⟨v,rfl,hv,hb3⟩;exact ⟨_,rfl,hb3,hv⟩);intro vo;go_simp;refine hK _ _ ?_;clear hK K)
 iterate 3 (refine Flow.tree_valK rfl (fun K hK=>⟨fun w hw hG => ?_,?_⟩);(have hcl:=Flow.bcell hw;clear hG hw;unfold Flow.Runs Flow.yields;go_simp;try rfl);go_simp;refine hK _ ?_;clear hK K)
 (refine Flow.tree_valK rfl (fun K hK=>⟨fun w hw hG => ?_,?_⟩);(have hvo:=(show isOps vo w by simpa [Flow.upd] using hG 6 (by kernel_rfl));clear hG hw;unfold Flow.Runs Flow.yields;go_simp;refine (HO.out _ _ hvo).mono ?_;rintro e w3 ⟨rfl,rfl⟩;(refine ⟨?_,Below.refl _ _⟩;rfl));go_simp;refine hK _ ?_;clear hK K)
 iterate 4 (refine Flow.tree_valK rfl (fun K hK=>⟨fun w hw hG => ?_,?_⟩);(have hcl:=Flow.bcell hw;clear hG hw;unfold Flow.Runs Flow.yields;go_simp;try rfl);go_simp;refine hK _ ?_;clear hK K)
 (refine Flow.tree_valK rfl (fun K hK=>⟨fun w hw hG => ?_,?_⟩);(have hV2:=HV0.out.below hw;clear hG hw;unfold Flow.Runs Flow.yields;go_simp;refine (HD3.out _ hV2).mono ?_;rintro e w3 ⟨rfl,hb3⟩;(refine ⟨?_,hb3⟩;rfl));go_simp;refine hK _ ?_;clear hK K)
 iterate 1 (refine Flow.tree_valK rfl (fun K hK=>⟨fun w hw hG => ?_,?_⟩);(have hcl:=Flow.bcell hw;clear hG hw;unfold Flow.Runs Flow.yields;go_simp;try rfl);go_simp;refine hK _ ?_;clear hK K)
 refine Flow.tree_nil fun w2 hw2 hG => ?_
 clear hG
 go_wp2
 go_ret
 exact ⟨by rw [← HE.out];rfl,Bt HB0.out hw2⟩
set_option maxRecDepth 100000 in
set_option maxHeartbeats 4000000 in
theorem key_any' (names:List ByteArray) (k:Tess.Key) (hp : -9223372036854775808≤k.pos∧k.pos≤9223372036854775807) (hs:∀ x ∈ names,x.size≤1000000000) (B:Nat) (vb:Value) (w:World) (hV:Vz w) (hb:w.cell? ⟨B,1,none⟩=some vb) (hv:SlOf w vb (names.map .string)) :
  Calls Tryz.prog 117 #[.agg #[.bool k.agg,.int .i64 k.pos,.bool k.desc],.pointer (some ⟨B,0,none⟩)] w fun e w'=>e = .returned (.string (Tok.ofL (Tess.Wr.key names k)))∧Below w.heap.size w w':=by
 obtain ⟨ag,pos,ds⟩:=k
 simp only at hp ⊢
 have hwp:=wrap_same (pos + 1)
 obtain ⟨r1,r2⟩:=wrap_range (pos + 1)
 have HE:=Lib.hid (show (if ds then (if ag then (⟨#[35,32]⟩:ByteArray) ++ Tok.ofL (Tess.Wr.digits (Tess.Wr.wrap (pos + 1))) else (⟨#[36]⟩:ByteArray) ++ Tok.ofL (Tess.Wr.one names pos)) ++ ⟨#[32,100,101,115,99]⟩ else (if ag then (⟨#[35,32]⟩:ByteArray) ++ Tok.ofL (Tess.Wr.digits (Tess.Wr.wrap (pos + 1))) else (⟨#[36]⟩:ByteArray) ++ Tok.ofL (Tess.Wr.one names pos)))=Tok.ofL (Tess.Wr.key names ⟨ag,pos,ds⟩) by
  unfold Tess.Wr.key
  have e1:(⟨#[36]⟩:ByteArray) ++ Tok.ofL (Tess.Wr.one names pos)=Tok.ofL (36 :: Tess.Wr.one names pos):=cat [36] _
  have e2:(⟨#[35,32]⟩:ByteArray) ++ Tok.ofL (Tess.Wr.digits (Tess.Wr.wrap (pos + 1)))=Tok.ofL ([35,32] ++ Tess.Wr.digits (Tess.Wr.wrap (pos + 1))):=cat [35,32] _
  rw [e1,e2]
  cases ag <;> cases ds <;> simp only [if_true,if_false,Bool.false_eq_true,List.append_nil]
  ·exact cat (36 :: Tess.Wr.one names pos) [32,100,101,115,99]
  ·exact cat ([35,32] ++ Tess.Wr.digits (Tess.Wr.wrap (pos + 1))) [32,100,101,115,99])
 have s1:=dig_size r1 r2
 have s2:(Tok.ofL (Tess.Wr.one names pos)).size≤1000000000:=by
  rw [Tess.Tok.size_ofL]
  exact one_size _ _ 1000000000 (by decide) hs
 have HD1:=Lib.hid (fun W (h:Vz W)=>digits_any _ r1 r2 W h)
 have HO:=Lib.hid (fun W (h:SlOf W vb (names.map .string))=>one_any vb names pos W h)
 obtain ⟨ab,cb,rfl,_,_⟩:=sls_open hv
 generalize Tess.Wr.key names ⟨ag,pos,ds⟩=T at *
 generalize Tok.ofL (Tess.Wr.digits (Tess.Wr.wrap (pos + 1)))=D1 at *
 generalize Tok.ofL (Tess.Wr.one names pos)=D2 at *
 generalize Tess.Wr.wrap (pos + 1)=A at *
 have a1:=fun W=>run_string_add_sum (P:=Tryz.prog) W ⟨#[35,32]⟩ D1 (by show 2 + D1.size≤_;omega)
 have a2:=fun W=>run_string_add_sum (P:=Tryz.prog) W ⟨#[36]⟩ D2 (by show 1 + D2.size≤_;omega)
 have a3:=fun W=>run_string_add_sum (P:=Tryz.prog) W (⟨#[35,32]⟩ ++ D1) ⟨#[32,100,101,115,99]⟩ (by rw [ByteArray.size_append];show 2 + D1.size + 5≤_;omega)
 have a4:=fun W=>run_string_add_sum (P:=Tryz.prog) W (⟨#[36]⟩ ++ D2) ⟨#[32,100,101,115,99]⟩ (by rw [ByteArray.size_append];show 1 + D2.size + 5≤_;omega)
 have hbl:=World.block_lt_of_cell? _ _ hb
 obtain ⟨l1,l2,l3⟩:=laid1 w (.cells #[.bool ag,.int .i64 pos,.bool ds] 150)
 have HV0:=Lib.hid (hV.below l3)
 have HB0:=Lib.hid l3
 have HSL:=Lib.hid (SlOf.below hv l3)
 have HR:=Lib.hid l1
 have hb1:=(l3.cell hbl).trans hb
 have c0:=cell_of_row _ _ 0 _ _ _ l1;have c1:=cell_of_row _ _ 1 _ _ _ l1;have c2:=cell_of_row _ _ 2 _ _ _ l1
 simp only [List.getElem?_toArray,List.getElem?_cons_succ,List.getElem?_cons_zero] at c0 c1 c2
 clear hV hv hs l1 l2 l3
 cases ag
 all_goals cases ds
 all_goals
  simp only [if_true,if_false,Bool.false_eq_true] at HE
  go_enter Tryz.func117,Tryz.ntmps117
  go_wp2_with (first
   | (go_at_call 118;refine (HO.out _ HSL.out).mono ?_;rintro e w2 ⟨rfl,rfl⟩)
   | (go_at_call 119;refine (HD1.out _ HV0.out).mono ?_;rintro e w3 ⟨rfl,hb3⟩;have d2:=cell_of_row _ _ 2 _ _ _ ((hb3.block _ (Array.getElem?_eq_some_iff.1 HR.out).1).trans HR.out);simp only [List.getElem?_toArray,List.getElem?_cons_succ,List.getElem?_cons_zero] at d2;have HB3:=Lib.hid hb3;clear hb3))
  go_ret
  refine ⟨by rw [← HE.out];rfl,?_⟩
  first | exact Bt HB0.out HB3.out | exact HB0.out
end Go.Proofs.YtbbgjjjeecfnoaaGreatDoor
namespace Go.Proofs.YtbbgjjjeecfnoaaGreatDoor
open Go.RowKit Go.Sort Go.Maps
open Tess (Tok)
theorem key_inv {P:Program} {k:TypeId} (hk:P.underlying k=some .string) {key:Value} {kl:Lit} (h:keyOf P k key=some kl):∃ x:ByteArray,key = .string x∧kl = .string x.data.toList:=by
 cases key <;> simp [keyOf,hk,mapKey] at h
 obtain ⟨_,rfl⟩:=h
 exact ⟨_,rfl,rfl⟩
theorem lit_ne {x y:ByteArray} (h:x≠y):(Lit.string x.data.toList).sameKey (.string y.data.toList)=false:=by
 have:¬ x.data=y.data:=fun e=>h (ByteArray.ext e)
 simp [Lit.sameKey,this]
theorem kind_lt {x:ByteArray} {k:Nat} (h:Tess.Prs.kindOf x=some k):x.size≤5:=by
 unfold Tess.Prs.kindOf at h
 split at h
 ·rename_i e;rw [e];decide
 split at h
 ·rename_i e;rw [e];decide
 split at h
 ·rename_i e;rw [e];decide
 split at h
 ·rename_i e;rw [e];decide
 split at h
 ·rename_i e;rw [e];decide
 ·cases h
theorem kind_entry {x:ByteArray} {c:Value} {y:DataW Value×List MemPlace} (hh:Maps.has kindsD (.string x.data.toList)=true) (hy:asIs c=some y) (ha:∀ zd,kindsD.atKey (.string x.data.toList) zd=y.1):∃ k,Tess.Prs.kindOf x=some k∧c = .int .i64 (k:Nat):=by
 obtain ⟨h1,h2⟩:=kinds_at x
 rw [hh] at h2
 unfold asIs at hy
 cases hy
 rw [ha] at h1
 cases hk:Tess.Prs.kindOf x with
 | none=>rw [hk] at h2;exact absurd h2 (by decide)
 | some k=>
   rw [hk] at h1
   refine ⟨k,rfl,?_⟩
   simpa using h1
set_option maxRecDepth 100000 in
set_option maxHeartbeats 4000000 in
theorem summing_any (a:Tess.Agg) (hm:a.met.size≤1000000000) (w:World) :
  Calls Tryz.prog 124 #[.agg #[.int .i64 a.kind,.string a.met]] w fun e w'=>e = .returned (.string (Tok.ofL (Tess.Wr.summing a)))∧Below w.heap.size w w':=by
 obtain ⟨K,M⟩:=a
 simp only at hm ⊢
 have HE1:=Lib.hid (show ∀ x,Tess.Prs.kindOf x=some 1→K=1→Tok.ofL (Tess.Wr.summing ⟨K,M⟩)=x from fun x hx hK=>by
  have:=Tess.Wr.kindW_of hx
  subst hK
  unfold Tess.Wr.summing
  simp only
  rw [show (((1:Nat):Int))=1 from rfl] at this
  rw [this]
  exact Tess.Tok.ofL_bs x)
 have HE2:=Lib.hid (show ∀ x k,Tess.Prs.kindOf x=some k→K=(k:Nat)→K≠1→x ++ ⟨#[32,40,32,36]⟩ ++ M ++ ⟨#[32,41]⟩=Tok.ofL (Tess.Wr.summing ⟨K,M⟩) from fun x k hx hK h1=>by
  have:=Tess.Wr.kindW_of hx
  unfold Tess.Wr.summing
  simp only
  rw [hK,this]
  simp only
  rw [if_neg (by omega)]
  rw [← cat,← cat,← cat,← self_ofL,← self_ofL];rfl)
 have HE0:=Lib.hid (show (∀ x k,Tess.Prs.kindOf x=some k→K=(k:Nat)→False)→Tok.ofL (Tess.Wr.summing ⟨K,M⟩)=⟨#[63]⟩ from fun h=>by
  unfold Tess.Wr.summing
  simp only
  cases hk:Tess.Wr.kindW K with
  | none=>rfl
  | some x=>
    obtain ⟨k,h1,h2⟩:=Tess.Wr.kindW_is hk
    exact (h x k h2 h1).elim)
 generalize Tess.Wr.summing ⟨K,M⟩=T at *
 obtain ⟨W0,hW0⟩:∃ W0,w.alloc (.cells #[.int .i64 K,.string M] 83)=W0:=⟨_,rfl⟩
 obtain ⟨l1,l2,l3⟩:=laid1 w (.cells #[.int .i64 K,.string M] 83)
 rw [hW0] at l1 l2 l3
 have HR:=Lib.hid l1
 have HB0:=Lib.hid l3
 have hlt:w.heap.size < W0.heap.size:=by omega
 clear l1 l2 l3
 go_enter Tryz.func124,Tryz.ntmps124
 go_wp2_with (first
  | (go_at_call 196;refine (kinds_any _).mono ?_;rintro e w2 ⟨b,rfl,hk2,hB2⟩;have HK2:=Lib.hid hk2;have HB2:=Lib.hid hB2;clear hk2 hB2)
  | (at_range;refine wpList_range_own _ rfl _ 271 rfl 9 3 lawStr Tryz.underlying271 asIs b 5 kindsD rfl HK2.out ?_;intro w3 hrg0 hg0 hs0;have HRG0:=Lib.hid hrg0;have HG0:=Lib.hid hg0;clear hrg0 hg0))
 have HB3:=Lib.hid ((Bt HB0.out HB2.out).grown HG0.out (by have:=HB2.out.size;omega) (fun j e=>by cases e))
 have HR3:=Lib.hid ((HG0.out.block w.heap.size (by have:=HB2.out.size;omega) (by simp)).trans ((HB2.out.block w.heap.size hlt).trans HR.out))
 have hw3:w.heap.size < w2.heap.size:=by have:=HB2.out.size;omega
 go_frame
 go_loopw [] (fun wr => ∃ (left:Lit→Bool) (cnt:Nat),wr.ranges Tryz.prog 9 asIs b w2.heap.size 5 kindsD left cnt∧Below w.heap.size w wr∧wr.heap[w.heap.size]? = some (.cells #[.int .i64 K,.string M] 83 (0,0))∧(∀ kl,left kl=true→Maps.has kindsD kl=true)∧(∀ x k,Tess.Prs.kindOf x=some k→K=(k:Nat)→left (.string x.data.toList)=true)) (fun wr=>wr.rangeLeft b w2.heap.size)
 case atStart=>exact ⟨_,_,HRG0.out,HB3.out,HR3.out,fun _ h=>h,fun x k hk _=>by rw [(kinds_at x).2,hk];rfl⟩
 case round=>
  obtain ⟨left,cnt,hrg,hB,hR,hL1,hL2⟩:=hrel
  have HB:=Lib.hid hB
  have HRR:=Lib.hid hR
  have HL1:=Lib.hid hL1
  have HL2:=Lib.hid hL2
  have HRG:=Lib.hid hrg
  clear hB hR hL1 hL2
  go_wp2_with (at_next;refine wpList_next_ranges _ rfl _ rfl 9 lawStr asIs Value.string id (fun key kl hk=>by obtain ⟨x,rfl,_⟩:=key_inv Tryz.underlying9 hk;exact ⟨x,rfl⟩) (fun v _ _=>⟨v,rfl⟩) b w2.heap.size 5 _ _ _ rfl hrg ?_ ?_)
  ·intro hc0 hl0
   have HF:=Lib.hid (HE0.out fun x k hx hk=>by have:=HL2.out x k hx hk;rw [hl0] at this;cases this)
   clear hc0 hl0 hrg
   go_wp2
   go_ret
   exact ⟨by rw [HF.out];rfl,HB.out⟩
  ·intro x c kl yd yp w4 cnt4 hkey hlk hv hat hrg4 hlt4 hg4 hs4 hen
   obtain ⟨x',ex,rfl⟩:=key_inv Tryz.underlying9 hkey
   cases ex
   obtain ⟨k,hk,rfl⟩:=kind_entry (HL1.out _ hlk) hv hat
   have HB4:=Lib.hid (HB.out.grown hg4 (by have:=HB.out.size;omega) (fun j e=>by cases e;omega))
   have hR4:=(hg4.block w.heap.size (Array.getElem?_eq_some_iff.1 HRR.out).1 (by simp;omega)).trans HRR.out
   have HR4:=Lib.hid hR4
   have c0:=cell_of_row _ _ 0 _ _ _ hR4;have c1:=cell_of_row _ _ 1 _ _ _ hR4
   simp only [List.getElem?_toArray,List.getElem?_cons_succ,List.getElem?_cons_zero] at c0 c1
   have hx5:=kind_lt hk
   have HK:=Lib.hid hk
   have HRG4:=Lib.hid hrg4
   have HLT4:=Lib.hid hlt4
   clear hkey hlk hv hat hg4 hs4 hR4 hk hrg4 hlt4 hrg
   by_cases hK:K=(k:Nat)
   ·have hKb:(((k:Nat):Int) != K)=false:=by rw [hK];simp
    by_cases h1:k=1
    ·subst h1
     have h1b:(((1:Nat):Int) == 1)=true:=rfl
     have HT:=Lib.hid (HE1.out x HK.out (by rw [hK];rfl))
     go_wp2
     go_ret
     exact ⟨by rw [HT.out];rfl,HB4.out⟩
    ·have h1b:(((k:Nat):Int) == 1)=false:=by rw [beq_eq_false_iff_ne];omega
     have HT:=Lib.hid (HE2.out x k HK.out hK (by omega))
     have a1:=fun W=>run_string_add_sum (P:=Tryz.prog) W x ⟨#[32,40,32,36]⟩ (by show x.size + 4≤_;omega)
     have a2:=fun W=>run_string_add_sum (P:=Tryz.prog) W (x ++ ⟨#[32,40,32,36]⟩) M (by rw [ByteArray.size_append];show x.size + 4 + M.size≤_;omega)
     have a3:=fun W=>run_string_add_sum (P:=Tryz.prog) W (x ++ ⟨#[32,40,32,36]⟩ ++ M) ⟨#[32,41]⟩ (by rw [ByteArray.size_append,ByteArray.size_append];show x.size + 4 + M.size + 2≤_;omega)
     go_wp2
     go_ret
     exact ⟨by rw [← HT.out];rfl,HB4.out⟩
   ·have hKb:(((k:Nat):Int) != K)=true:=by simp;exact fun e=>hK e.symm
    go_wp2
    go_roundw
    case rel=>
     refine ⟨_,cnt4,HRG4.out,HB4.out,HR4.out,fun kl h=>HL1.out kl (Bool.and_eq_true_iff.1 h).1,fun z j hz hj => ?_⟩
     have hzx:z≠x:=fun e=>by subst e;rw [HK.out] at hz;cases hz;exact hK hj
     rw [HL2.out z j hz hj,lit_ne hzx];rfl
    case measure=>have e1:=HRG4.out.left_eq;have e2:=HRG.out.left_eq;have e3:=HLT4.out;omega
end Go.Proofs.YtbbgjjjeecfnoaaGreatDoor
