/- Joined by mergeK.py: K36, K37, K38 -/
import Derived.Test.YtaddkkkchkdgkaaGreatDoorWC23
import Derived.Laws.StructEq
namespace Go.Proofs.YtaddkkkchkdgkaaGreatDoor
open Go.RowKit Go.Sort
deriving instance DecidableEq for Tess.Val
theorem retB {a b:Bool} (h:a=b):Ending.returned (.bool a) = .returned (.bool b):=by rw [h]
theorem bytes_inj {a b:ByteArray} (h:a.toList=b.toList):a=b:=by
 rw [ByteArray.toList_eq,ByteArray.toList_eq] at h
 exact ByteArray.ext (Array.toList_inj.1 h)
def valF (v:Tess.Val):List Value:=[.string v.s,.bool v.null]
def RowsW {α:Type} (k:Nat) (f:α→List Value) (p:Nat→Prop) (w:World) (v:Value) (l:List α):Prop:=
 ∃ a c,v = .slice a l.length c∧l.length≤maxLen∧(0 < l.length→∃ b off,a=some ⟨b,off,none⟩∧b < w.heap.size∧p b∧∀ j (h:j < l.length) i,i < k→w.cell? ⟨b,off + j * k + i,none⟩=(f l[j])[i]?)
theorem RowsAt.w {α:Type} {k:Nat} {f:α→List Value} {p:Nat→Prop} {w:World} {v:Value} {l:List α} (h:RowsAt k f p w v l):RowsW k f p w v l:=let ⟨a,c,hv,h1,_,_,h4⟩:=h;⟨a,c,hv,h1,h4⟩
theorem ValsAt.w {p:Nat→Prop} {w:World} {v:Value} {l:List Tess.Val} (h:ValsAt p w v l):RowsW 2 valF p w v l:=by
 obtain ⟨a,c,hv,h1,h2,h3,h4⟩:=h
 refine ⟨a,c,hv,h1,fun hl => ?_⟩
 obtain ⟨b,off,ha,hb,hp,hc⟩:=h4 hl
 refine ⟨b,off,ha,hb,hp,fun j hj i hi => ?_⟩
 obtain ⟨c0,c1⟩:=hc j hj
 rcases (show i=0∨i=1 by omega) with rfl | rfl
 ·exact c0
 ·exact c1
theorem wide_inj {n m:Int}:(wHi n=wHi m∧wLo n=wLo m)↔n=m:=by
 unfold wHi wLo
 refine ⟨fun h=>by omega,fun h=>by rw [h];exact ⟨rfl,rfl⟩⟩
theorem neq_val (x0 y0:ByteArray) (x1 y1:Bool) (W:World):(binOp .neq 72 (.agg #[.string x0,.bool x1]) (.agg #[.string y0,.bool y1])).run Tryz.prog W = .ok (.bool (!decide ((⟨x0,x1⟩:Tess.Val)=⟨y0,y1⟩))) W:=by
 rw [run_neq_struct,run_equalIn_agg (d:=9999) _ _ _ _ (by kernel_rfl) (by kernel_rfl)]
 simp [Program.fieldsOf,Op.eqFields,go_sem,Tryz.underlying72,Tryz.underlying9,Tryz.underlying4]
 have e:(x0.toList=y0.toList)=(x0=y0):=propext ⟨bytes_inj,fun h=>by rw [h]⟩
 simp only [e]
 by_cases h0:x0=y0 <;> by_cases h1:x1=y1 <;> simp [h0,h1]
set_option maxRecDepth 100000 in
set_option maxHeartbeats 2000000 in
theorem equal_val (p q:Nat→Prop) (va vb:Value) (l1 l2:List Tess.Val) (w:World) (ha:RowsW 2 valF p w va l1) (hb:RowsW 2 valF q w vb l2) :
  Calls Tryz.prog 77 #[va,vb] w fun e w'=>e = .returned (.bool (decide (l1=l2)))∧Below w.heap.size w w':=by
 obtain ⟨xa,ca,rfl,hm1,hc1⟩:=ha
 obtain ⟨xb,cb,rfl,hm2,hc2⟩:=hb
 have hlm1:l1.length≤9223372036854775807:=by unfold maxLen at hm1;omega
 have hlm2:l2.length≤9223372036854775807:=by unfold maxLen at hm2;omega
 have HC1:=Lib.hid hc1
 have HC2:=Lib.hid hc2
 clear hc1 hc2 hm1 hm2
 by_cases hl:l1.length=l2.length
 ·have hl':((l1.length:Int) != (l2.length:Int))=false:=by rw [bne_eq_false_iff_eq];omega
  have HL:=Lib.hid hl
  clear hl
  go_enter Tryz.func77,Tryz.ntmps77
  go_wp2
  go_loopw [13] (fun i wr => ∃ k:Nat,k≤l1.length∧i = .int .i64 k∧(∀ j (h1:j < l1.length) (h2:j < l2.length),j < k→l1[j]=l2[j])∧Below w.heap.size w wr) (fun i _=>l1.length - (intOf i).toNat)
  case atStart=>exact ⟨0,Nat.zero_le _,rfl,fun j _ _ h=>absurd h (Nat.not_lt_zero _),Below.refl _ _⟩
  case round=>
   obtain ⟨k,hk,rfl,hall,hBr⟩:=hrel
   have HALL:=Lib.hid hall
   have HBr:=Lib.hid hBr
   clear hall hBr
   by_cases hlt:k < l1.length
   ·have hlt2:k < l2.length:=by have:=HL.out;omega
    obtain ⟨b,off,rfl,hb,_,g1⟩:=HC1.out (by omega)
    obtain ⟨b',off',rfl,hb',_,g2⟩:=HC2.out (by omega)
    have hki:(k:Int) < (l1.length:Int):=by omega
    have hki2:(k:Int) < (l2.length:Int):=by omega
    have hbw:b < wr.heap.size:=Nat.lt_of_lt_of_le hb HBr.out.size
    have hbw':b' < wr.heap.size:=Nat.lt_of_lt_of_le hb' HBr.out.size
    have G1:=g1 k hlt
    have G2:=g2 k hlt2
    have HEQ0:=Lib.hid (show ∀ h:l1[k]=l2[k],∀ j (h1:j < l1.length) (h2:j < l2.length),j < k + 1→l1[j]=l2[j] from fun h j h1 h2 hj=>by
     by_cases hjk:j < k
     ·exact HALL.out j h1 h2 hjk
     ·obtain rfl:j=k:=by omega
      exact h)
    have HNE0:=Lib.hid (show l1[k]≠l2[k]→l1≠l2 from fun h e=>h (by subst e;rfl))
    clear g1 g2
    generalize l1[k]=u1 at *
    generalize l2[k]=u2 at *
    obtain ⟨x0,x1⟩:=u1
    obtain ⟨y0,y1⟩:=u2
    have r0:wr.cell? ⟨b,off + k * 2,none⟩=some (.string x0):=(HBr.out.cell (p:=⟨b,off + k * 2,none⟩) hb).trans (G1 0 (by omega))
    have t0:wr.cell? ⟨b',off' + k * 2,none⟩=some (.string y0):=(HBr.out.cell (p:=⟨b',off' + k * 2,none⟩) hb').trans (G2 0 (by omega))
    have r1:wr.cell? ⟨b,off + k * 2 + 1,none⟩=some (.bool x1):=(HBr.out.cell (p:=⟨b,off + k * 2 + 1,none⟩) hb).trans (G1 1 (by omega))
    have t1:wr.cell? ⟨b',off' + k * 2 + 1,none⟩=some (.bool y1):=(HBr.out.cell (p:=⟨b',off' + k * 2 + 1,none⟩) hb').trans (G2 1 (by omega))
    clear G1 G2
    have HNQ:=Lib.hid (fun W=>neq_val x0 y0 x1 y1 W)
    go_wp2_with (fail)
    refine Flow.wp_region_flow_tail 8 (Flow.specs [.inl ?_,.inl ?_,.inl ?_,.inl ?_,.inl ?_,.inl ?_,.inl ?_,.inl ?_]) (by kernel_rfl) (by kernel_rfl) ?_ ?_
    rotate_left 8
    ·refine Flow.specs_mono ?_
     repeat (first | exact Flow.lmono_nil | refine Flow.lmono_inl ?_)
    all_goals try simp only [List.take_succ_cons,List.take_zero,List.drop_succ_cons,List.drop_zero]
    iterate 8 (refine Flow.tree_valK rfl (fun K hK=>⟨fun w hw hG => ?_,?_⟩);(have hcl:=Flow.bcell hw;clear hG hw;unfold Flow.Runs Flow.yields;go_simp;try rfl);go_simp;refine hK _ ?_;clear hK K)
    refine Flow.tree_nil fun w2 hw2 hG => ?_
    clear hG
    have HB2:=Lib.hid (Bt HBr.out hw2)
    clear hw2
    have hnq:=HNQ.out
    by_cases he:(⟨x0,x1⟩:Tess.Val)=⟨y0,y1⟩
    ·rw [decide_eq_true he] at hnq
     have HEQ:=Lib.hid (HEQ0.out he)
     clear he HNQ
     go_wp2
     go_roundw
     case rel=>exact ⟨k + 1,by omega,by go_num,HEQ.out,HB2.out⟩
     case measure=>simp [intOf];omega
    ·rw [decide_eq_false he] at hnq
     have HNE:=Lib.hid (HNE0.out he)
     clear he HNQ
     go_wp2
     go_ret
     exact ⟨retB (decide_eq_false HNE.out).symm,HB2.out⟩
   ·have hki:¬ (k:Int) < (l1.length:Int):=by omega
    have HEL:=Lib.hid (show l1=l2 from List.ext_getElem HL.out fun j h1 h2=>HALL.out j h1 h2 (by omega))
    go_wp2
    go_ret
    exact ⟨retB (decide_eq_true HEL.out).symm,HBr.out⟩
 ·have hl':((l1.length:Int) != (l2.length:Int))=true:=by rw [bne_iff_ne];omega
  have HN:=Lib.hid (show l1≠l2 from fun e=>hl (by rw [e]))
  clear hl
  go_enter Tryz.func77,Tryz.ntmps77
  go_wp2
  go_ret
  exact ⟨retB (decide_eq_false HN.out).symm,Below.refl _ _⟩
theorem neq_wide (n m:Int) (W:World):(binOp .neq 60 (.agg #[.int .i64 (wHi n),.int .u64 (wLo n)]) (.agg #[.int .i64 (wHi m),.int .u64 (wLo m)])).run Tryz.prog W = .ok (.bool (!decide (n=m))) W:=by
 rw [run_neq_struct,run_equalIn_agg (d:=9999) _ _ _ _ (by kernel_rfl) (by kernel_rfl)]
 simp [Program.fieldsOf,Op.eqFields,go_sem,Tryz.underlying60,Tryz.underlying2,Tryz.underlying58]
 by_cases h:n=m
 ·subst h;simp
 ·have hw:¬ (wHi n=wHi m∧wLo n=wLo m):=fun e=>h (wide_inj.1 e)
  by_cases h0:wHi n=wHi m <;> by_cases h1:wLo n=wLo m <;> simp [h0,h1,h] <;> exact absurd ⟨h0,h1⟩ hw
end Go.Proofs.YtaddkkkchkdgkaaGreatDoor
namespace Go.Proofs.YtaddkkkchkdgkaaGreatDoor
open Go.RowKit Go.Sort
open Tess (CK Pay)
theorem can7 {W:World} {B:Nat} {t:TypeId} {x0 x1 x2 x3 x4 x5 x6:Value} (h:W.heap[B]? = some (.cells #[x0,x1,x2,x3,x4,x5,x6] t (0,0))) :
  (W.cell? ⟨B,0,none⟩=some x0∧W.cell? ⟨B,1,none⟩=some x1∧W.cell? ⟨B,2,none⟩=some x2∧W.cell? ⟨B,3,none⟩=some x3∧W.cell? ⟨B,4,none⟩=some x4∧W.cell? ⟨B,5,none⟩=some x5∧W.cell? ⟨B,6,none⟩=some x6) ∧
   W.frozen? ⟨B,0,none⟩=false∧W.frozen? ⟨B,1,none⟩=false∧W.frozen? ⟨B,2,none⟩=false∧W.frozen? ⟨B,3,none⟩=false∧W.frozen? ⟨B,4,none⟩=false∧W.frozen? ⟨B,5,none⟩=false∧W.frozen? ⟨B,6,none⟩=false:=
 ⟨⟨cell_of_row _ _ 0 _ _ _ h,cell_of_row _ _ 1 _ _ _ h,cell_of_row _ _ 2 _ _ _ h,cell_of_row _ _ 3 _ _ _ h,cell_of_row _ _ 4 _ _ _ h,cell_of_row _ _ 5 _ _ _ h,cell_of_row _ _ 6 _ _ _ h⟩,frozen_of_row _ _ 0 _ _ h,frozen_of_row _ _ 1 _ _ h,frozen_of_row _ _ 2 _ _ h,frozen_of_row _ _ 3 _ _ h,frozen_of_row _ _ 4 _ _ h,frozen_of_row _ _ 5 _ _ h,frozen_of_row _ _ 6 _ _ h⟩
theorem valOf_inj {l m:List Tess.DV}:l.map Tess.valOf=m.map Tess.valOf↔l=m:=
 ⟨fun h=>by have:=congrArg (List.map Tess.Val.c) h;rwa [vals_c,vals_c] at this,fun h=>by rw [h]⟩
def oneB (x y:Int×CK×Pay):Bool:=decide (x.1=y.1) && decide (x.2.1.1=y.2.1.1) && decide (x.2.1.2.map Tess.valOf=y.2.1.2.map Tess.valOf)
theorem oneB_iff {x y:Int×CK×Pay}:oneB x y=true↔x.1=y.1∧x.2.1=y.2.1:=by
 unfold oneB
 rw [Bool.and_eq_true,Bool.and_eq_true,decide_eq_true_eq,decide_eq_true_eq,decide_eq_true_eq,valOf_inj]
 exact ⟨fun ⟨⟨h1,h2⟩,h3⟩=>⟨h1,Prod.ext h2 h3⟩,fun ⟨h1,h2⟩=>⟨⟨h1,by rw [h2]⟩,by rw [h2]⟩⟩
set_option maxRecDepth 100000 in
set_option maxHeartbeats 2000000 in
theorem isOne_any (p q:Nat→Prop) (cs ds:List Value) (x y:Int×CK×Pay) (w:World) (hx:GrpAt p w cs x) (hy:GrpAt q w ds y) :
  Calls Tryz.prog 40 #[.agg cs.toArray,.agg ds.toArray] w fun e w'=>e = .returned (.bool (oneB x y))∧Below w.heap.size w w':=by
 obtain ⟨vd,vs,vm,vx,rfl,hd,hp⟩:=hx
 obtain ⟨ud,us,um,ux,rfl,he,hq⟩:=hy
 have HEQ:=Lib.hid (fun W (hB:Below w.heap.size w W)=>equal_val p q vd ud _ _ W (hd.ag (Ag.new p hB)).w (he.ag (Ag.new q hB)).w)
 obtain ⟨a2,c2,rfl⟩:=hd.shape
 obtain ⟨a4,c4,rfl⟩:=hp.sums.shape
 obtain ⟨a5,c5,rfl⟩:=hp.mins.shape
 obtain ⟨a6,c6,rfl⟩:=hp.maxs.shape
 obtain ⟨b2,d2,rfl⟩:=he.shape
 obtain ⟨b4,d4,rfl⟩:=hq.sums.shape
 obtain ⟨b5,d5,rfl⟩:=hq.mins.shape
 obtain ⟨b6,d6,rfl⟩:=hq.maxs.shape
 clear hd hp he hq
 unfold oneB
 generalize decide (x.2.1.2.map Tess.valOf=y.2.1.2.map Tess.valOf)=r at *
 generalize (x.2.1.2.map Tess.valOf).length=n2 at *
 generalize (y.2.1.2.map Tess.valOf).length=m2 at *
 generalize x.2.2.sums.length=n4 at *
 generalize x.2.2.mins.length=n5 at *
 generalize x.2.2.maxs.length=n6 at *
 generalize y.2.2.sums.length=m4 at *
 generalize y.2.2.mins.length=m5 at *
 generalize y.2.2.maxs.length=m6 at *
 generalize x.1=s1 at *
 generalize y.1=s2 at *
 generalize x.2.1.1=t1 at *
 generalize y.2.1.1=t2 at *
 generalize x.2.2.n=z1 at *
 generalize y.2.2.n=z2 at *
 obtain ⟨W0,hW0⟩:∃ W0,(w.alloc (.cells #[.int .i64 s1,.int .i64 t1,.slice a2 n2 c2,.int .i64 z1,.slice a4 n4 c4,.slice a5 n5 c5,.slice a6 n6 c6] 56)).alloc (.cells #[.int .i64 s2,.int .i64 t2,.slice b2 m2 d2,.int .i64 z2,.slice b4 m4 d4,.slice b5 m5 d5,.slice b6 m6 d6] 56)=W0:=⟨_,rfl⟩
 obtain ⟨k0,k1,kS,kB⟩:=laid2 w (.cells #[.int .i64 s1,.int .i64 t1,.slice a2 n2 c2,.int .i64 z1,.slice a4 n4 c4,.slice a5 n5 c5,.slice a6 n6 c6] 56) (.cells #[.int .i64 s2,.int .i64 t2,.slice b2 m2 d2,.int .i64 z2,.slice b4 m4 d4,.slice b5 m5 d5,.slice b6 m6 d6] 56)
 rw [hW0] at k0 k1 kS kB
 obtain ⟨⟨x0,x1,x2,x3,x4,x5,x6⟩,_⟩:=can7 k0
 obtain ⟨⟨y0,y1,y2,y3,y4,y5,y6⟩,_⟩:=can7 k1
 have HB:=Lib.hid kB
 clear k0 k1 kS kB
 by_cases h1:s1=s2
 ·have e1:(s1 == s2)=true:=by rw [h1];simp
  by_cases h2:t1=t2
  ·have e2:(t1 == t2)=true:=by rw [h2];simp
   rw [decide_eq_true h1,decide_eq_true h2,Bool.true_and,Bool.true_and]
   clear h1 h2
   go_enter Tryz.func40,Tryz.ntmps40
   go_wp2_with (go_at_call 77;refine (HEQ.out _ HB.out).mono ?_;rintro e w2 ⟨rfl,hb2⟩;have HB2:=Lib.hid (Bt HB.out hb2);clear hb2)
   go_ret
   exact ⟨rfl,HB2.out⟩
  ·have e2:(t1 == t2)=false:=by simp [h2]
   rw [decide_eq_false h2,Bool.and_false,Bool.false_and]
   clear h1 h2
   go_enter Tryz.func40,Tryz.ntmps40
   go_wp2
   go_ret
   exact ⟨rfl,HB.out⟩
 ·have e1:(s1 == s2)=false:=by simp [h1]
  rw [decide_eq_false h1,Bool.false_and,Bool.false_and]
  clear h1
  go_enter Tryz.func40,Tryz.ntmps40
  go_wp2
  go_ret
  exact ⟨rfl,HB.out⟩
end Go.Proofs.YtaddkkkchkdgkaaGreatDoor
namespace Go.Proofs.YtaddkkkchkdgkaaGreatDoor
open Go.RowKit Go.Sort
open Tess (CK Pay)
theorem box7 {w W:World} {g:Nat} {x0 x1 x2 x3 x4 x5 x6:Value} {T:TypeId} (y0 y1 y2 y3 y4 y5 y6:Value) (h:W.heap[g]? = some (.cells #[x0,x1,x2,x3,x4,x5,x6] T (0,0))) {N:Nat} (hB:Below N w W) (hg:N≤g) :
  ∃ W',(((((((W.setCell ⟨g,0,none⟩ y0).setCell ⟨g,1,none⟩ y1).setCell ⟨g,2,none⟩ y2).setCell ⟨g,3,none⟩ y3).setCell ⟨g,4,none⟩ y4).setCell ⟨g,5,none⟩ y5).setCell ⟨g,6,none⟩ y6)=W'∧W'.heap[g]? = some (.cells #[y0,y1,y2,y3,y4,y5,y6] T (0,0))∧(∀ b,b≠g→W'.heap[b]? = W.heap[b]?)∧W'.heap.size=W.heap.size∧Below N w W':=by
 have h0:=heap_setCell_same W g 0 #[x0,x1,x2,x3,x4,x5,x6] T y0 h
 have h1:=heap_setCell_same _ g 1 #[y0,x1,x2,x3,x4,x5,x6] T y1 h0
 have h2:=heap_setCell_same _ g 2 #[y0,y1,x2,x3,x4,x5,x6] T y2 h1
 have h3:=heap_setCell_same _ g 3 #[y0,y1,y2,x3,x4,x5,x6] T y3 h2
 have h4:=heap_setCell_same _ g 4 #[y0,y1,y2,y3,x4,x5,x6] T y4 h3
 have h5:=heap_setCell_same _ g 5 #[y0,y1,y2,y3,y4,x5,x6] T y5 h4
 have h6:=heap_setCell_same _ g 6 #[y0,y1,y2,y3,y4,y5,x6] T y6 h5
 exact ⟨_,rfl,h6,fun b hb=>by rw [heap_setCell_other _ _ _ _ hb,heap_setCell_other _ _ _ _ hb,heap_setCell_other _ _ _ _ hb,heap_setCell_other _ _ _ _ hb,heap_setCell_other _ _ _ _ hb,heap_setCell_other _ _ _ _ hb,heap_setCell_other _ _ _ _ hb],by simp [World.setCell],((((((hB.setCell hg _).setCell hg _).setCell hg _).setCell hg _).setCell hg _).setCell hg _).setCell hg _⟩
theorem box7o {w W:World} {g:Nat} {x0 x1 x2 x3 x4 x5 x6:Value} {T:TypeId} (y2 y4 y5 y6:Value) (h:W.heap[g]? = some (.cells #[x0,x1,x2,x3,x4,x5,x6] T (0,0))) {N:Nat} (hB:Below N w W) (hg:N≤g) :
  ∃ W',((((W.setCell ⟨g,2,none⟩ y2).setCell ⟨g,4,none⟩ y4).setCell ⟨g,5,none⟩ y5).setCell ⟨g,6,none⟩ y6)=W'∧W'.heap[g]? = some (.cells #[x0,x1,y2,x3,y4,y5,y6] T (0,0))∧(∀ b,b≠g→W'.heap[b]? = W.heap[b]?)∧W'.heap.size=W.heap.size∧Below N w W':=by
 have h2:=heap_setCell_same _ g 2 #[x0,x1,x2,x3,x4,x5,x6] T y2 h
 have h4:=heap_setCell_same _ g 4 #[x0,x1,y2,x3,x4,x5,x6] T y4 h2
 have h5:=heap_setCell_same _ g 5 #[x0,x1,y2,x3,y4,x5,x6] T y5 h4
 have h6:=heap_setCell_same _ g 6 #[x0,x1,y2,x3,y4,y5,x6] T y6 h5
 exact ⟨_,rfl,h6,fun b hb=>by rw [heap_setCell_other _ _ _ _ hb,heap_setCell_other _ _ _ _ hb,heap_setCell_other _ _ _ _ hb,heap_setCell_other _ _ _ _ hb],by simp [World.setCell],(((hB.setCell hg _).setCell hg _).setCell hg _).setCell hg _⟩
def fromV (N:Nat) (l:List Tess.Val) (v:Value) (W:World):Prop:=ValsAt (fun b=>N≤b) W v l
theorem fromV_mono (N:Nat) (l:List Tess.Val):Flow.Spec.mono (.inr (fromV N l)):=fun _ _ _ h hb=>ValsAt.ag h (Ag.new _ hb)
def fromW (N:Nat) (l:List Int) (v:Value) (W:World):Prop:=RowsAt 2 wideF (fun b=>N≤b) W v l
theorem fromW_mono (N:Nat) (l:List Int):Flow.Spec.mono (.inr (fromW N l)):=fun _ _ _ h hb=>RowsAt.ag h (Ag.new _ hb)
def fromI (N:Nat) (l:List Int) (v:Value) (W:World):Prop:=RowsAt 1 intF (fun b=>N≤b) W v l
theorem fromI_mono (N:Nat) (l:List Int):Flow.Spec.mono (.inr (fromI N l)):=fun _ _ _ h hb=>RowsAt.ag h (Ag.new _ hb)
set_option maxRecDepth 100000 in
set_option maxHeartbeats 4000000 in
theorem own7_any (p:Nat→Prop) (cs:List Value) (x:Int×CK×Pay) (w:World) (h:GrpAt p w cs x) (hl:x.2.1.2.length≤1000000∧x.2.2.sums.length≤1000000∧x.2.2.mins.length≤1000000∧x.2.2.maxs.length≤1000000) :
  Calls Tryz.prog 76 #[.agg cs.toArray] w fun e w' => ∃ cs',e = .returned (.agg cs'.toArray)∧GrpAt (fun b=>w.heap.size + 2≤b) w' cs' x∧Below w.heap.size w w':=by
 obtain ⟨vd,vs,vn,vx,rfl,hd,hs,hn,hx⟩:=h
 obtain ⟨set,⟨t,ds⟩,c,sl,nl,xl⟩:=x
 simp only at hd hs hn hx hl ⊢
 have hdl:(ds.map Tess.valOf).length≤1000000:=by rw [List.length_map];exact hl.1
 obtain ⟨l,hle⟩:∃ l,ds.map Tess.valOf=l:=⟨_,rfl⟩
 rw [hle] at hd hdl
 have HLE:=Lib.hid hle
 clear hle
 obtain ⟨N,hN⟩:∃ N,w.heap.size + 2=N:=⟨_,rfl⟩
 have HD:=Lib.hid (show ∀ W,Below w.heap.size w W→N≤W.heap.size→Calls Tryz.prog 92 #[vd] W fun e w' => ∃ v',e = .returned v'∧fromV N l v' w'∧Below W.heap.size W w' from fun W hB hNW=>(cloneV_any p vd l W (hd.ag (Ag.new p hB)) hdl).mono (by rintro e w' ⟨v,h1,h2,h3⟩;exact ⟨v,h1,h2.weak fun b hb=>Nat.le_trans hNW hb,h3⟩))
 have HS:=Lib.hid (show ∀ W,Below w.heap.size w W→N≤W.heap.size→Calls Tryz.prog 93 #[vs] W fun e w' => ∃ v',e = .returned v'∧fromW N sl v' w'∧Below W.heap.size W w' from fun W hB hNW=>(cloneW6 (hs.ag (Ag.new p hB)) hl.2.1).mono (by rintro e w' ⟨v,h1,h2,h3⟩;exact ⟨v,h1,h2.1.weak fun b hb=>Nat.le_trans hNW hb.1,h3⟩))
 have HN:=Lib.hid (show ∀ W,Below w.heap.size w W→N≤W.heap.size→Calls Tryz.prog 94 #[vn] W fun e w' => ∃ v',e = .returned v'∧fromI N nl v' w'∧Below W.heap.size W w' from fun W hB hNW=>(cloneI6 (hn.ag (Ag.new p hB)) hl.2.2.1).mono (by rintro e w' ⟨v,h1,h2,h3⟩;exact ⟨v,h1,h2.1.weak fun b hb=>Nat.le_trans hNW hb.1,h3⟩))
 have HX:=Lib.hid (show ∀ W,Below w.heap.size w W→N≤W.heap.size→Calls Tryz.prog 94 #[vx] W fun e w' => ∃ v',e = .returned v'∧fromI N xl v' w'∧Below W.heap.size W w' from fun W hB hNW=>(cloneI6 (hx.ag (Ag.new p hB)) hl.2.2.2).mono (by rintro e w' ⟨v,h1,h2,h3⟩;exact ⟨v,h1,h2.1.weak fun b hb=>Nat.le_trans hNW hb.1,h3⟩))
 obtain ⟨ad,cd,rfl⟩:=hd.shape
 obtain ⟨sa,cs,rfl⟩:=hs.shape
 obtain ⟨an,cn,rfl⟩:=hn.shape
 obtain ⟨ax,cx,rfl⟩:=hx.shape
 clear hs hn hx hd hl hdl
 obtain ⟨W0,hW0⟩:∃ W0,(w.alloc (.cells #[.int .i64 set,.int .i64 t,.slice ad l.length cd,.int .i64 c,.slice sa sl.length cs,.slice an nl.length cn,.slice ax xl.length cx] 56)).alloc (.cells #[.int .i64 0,.int .i64 0,.slice none 0 0,.int .i64 0,.slice none 0 0,.slice none 0 0,.slice none 0 0] 56)=W0:=⟨_,rfl⟩
 obtain ⟨h0,h1,hS,hB⟩:=laid2 w (.cells #[.int .i64 set,.int .i64 t,.slice ad l.length cd,.int .i64 c,.slice sa sl.length cs,.slice an nl.length cn,.slice ax xl.length cx] 56) (.cells #[.int .i64 0,.int .i64 0,.slice none 0 0,.int .i64 0,.slice none 0 0,.slice none 0 0,.slice none 0 0] 56)
 rw [hW0] at h0 h1 hS hB
 have H0:=Lib.hid h0
 have H1:=Lib.hid h1
 have HB:=Lib.hid hB
 have HSZ:=Lib.hid (show W0.heap.size=N by omega)
 have HNE:=Lib.hid hN
 go_enter Tryz.func76,Tryz.ntmps76
 go_wp2_with (fail)
 clear hW0 h1 hB hN
 obtain ⟨⟨c0,c1,c2,c3,c4,c5,c6⟩,_⟩:=can7 h0
 have hb0:w.heap.size < W0.heap.size:=by omega
 clear h0 hS
 refine Flow.wp_region_flow_tail 13 (Flow.specs [.inl ?_,.inl ?_,.inr (fromV N l),.inl ?_,.inl ?_,.inr (fromW N sl),.inl ?_,.inl ?_,.inr (fromI N nl),.inl ?_,.inl ?_,.inr (fromI N xl),.inl ?_]) (by kernel_rfl) (by kernel_rfl) ?_ ?_
 rotate_left 9
 ·refine Flow.specs_mono ?_
  repeat (first | exact Flow.lmono_nil | refine Flow.lmono_inl ?_ | refine Flow.lmono_inr (fromV_mono _ _) ?_ | refine Flow.lmono_inr (fromW_mono _ _) ?_ | refine Flow.lmono_inr (fromI_mono _ _) ?_)
 all_goals try simp only [List.take_succ_cons,List.take_zero,List.drop_succ_cons,List.drop_zero]
 iterate 2 (refine Flow.tree_valK rfl (fun K hK=>⟨fun w hw hG => ?_,?_⟩);(have hcl:=Flow.bcell hw;clear hG hw;unfold Flow.Runs Flow.yields;go_simp;try rfl);go_simp;refine hK _ ?_;clear hK K)
 (refine Flow.tree_varK rfl (fun K hK=>⟨fun w hw hG => ?_,?_⟩);(have HW:=Lib.hid hw;clear hG hw;unfold Flow.Runs Flow.yields;go_simp;refine (HD.out _ (Bt HB.out HW.out) (by have:=HW.out.size;have:=HSZ.out;omega)).mono ?_;rintro e w3 ⟨v3,rfl,hf3,hb3⟩;exact ⟨v3,rfl,hb3,hf3⟩);intro v2;go_simp;refine hK _ _ ?_;clear hK K)
 iterate 2 (refine Flow.tree_valK rfl (fun K hK=>⟨fun w hw hG => ?_,?_⟩);(have hcl:=Flow.bcell hw;clear hG hw;unfold Flow.Runs Flow.yields;go_simp;try rfl);go_simp;refine hK _ ?_;clear hK K)
 (refine Flow.tree_varK rfl (fun K hK=>⟨fun w hw hG => ?_,?_⟩);(have HW:=Lib.hid hw;clear hG hw;unfold Flow.Runs Flow.yields;go_simp;refine (HS.out _ (Bt HB.out HW.out) (by have:=HW.out.size;have:=HSZ.out;omega)).mono ?_;rintro e w3 ⟨v3,rfl,hf3,hb3⟩;exact ⟨v3,rfl,hb3,hf3⟩);intro v4;go_simp;refine hK _ _ ?_;clear hK K)
 iterate 2 (refine Flow.tree_valK rfl (fun K hK=>⟨fun w hw hG => ?_,?_⟩);(have hcl:=Flow.bcell hw;clear hG hw;unfold Flow.Runs Flow.yields;go_simp;try rfl);go_simp;refine hK _ ?_;clear hK K)
 (refine Flow.tree_varK rfl (fun K hK=>⟨fun w hw hG => ?_,?_⟩);(have HW:=Lib.hid hw;clear hG hw;unfold Flow.Runs Flow.yields;go_simp;refine (HN.out _ (Bt HB.out HW.out) (by have:=HW.out.size;have:=HSZ.out;omega)).mono ?_;rintro e w3 ⟨v3,rfl,hf3,hb3⟩;exact ⟨v3,rfl,hb3,hf3⟩);intro v5;go_simp;refine hK _ _ ?_;clear hK K)
 iterate 2 (refine Flow.tree_valK rfl (fun K hK=>⟨fun w hw hG => ?_,?_⟩);(have hcl:=Flow.bcell hw;clear hG hw;unfold Flow.Runs Flow.yields;go_simp;try rfl);go_simp;refine hK _ ?_;clear hK K)
 (refine Flow.tree_varK rfl (fun K hK=>⟨fun w hw hG => ?_,?_⟩);(have HW:=Lib.hid hw;clear hG hw;unfold Flow.Runs Flow.yields;go_simp;refine (HX.out _ (Bt HB.out HW.out) (by have:=HW.out.size;have:=HSZ.out;omega)).mono ?_;rintro e w3 ⟨v3,rfl,hf3,hb3⟩;exact ⟨v3,rfl,hb3,hf3⟩);intro v6;go_simp;refine hK _ _ ?_;clear hK K)
 iterate 1 (refine Flow.tree_valK rfl (fun K hK=>⟨fun w hw hG => ?_,?_⟩);(have hcl:=Flow.bcell hw;clear hG hw;unfold Flow.Runs Flow.yields;go_simp;try rfl);go_simp;refine hK _ ?_;clear hK K)
 refine Flow.tree_nil fun w2 hw2 hG => ?_
 have hv2:=(show fromV N l v2 w2 by simpa [Flow.upd] using hG 2)
 have hv4:=(show fromW N sl v4 w2 by simpa [Flow.upd] using hG 5)
 have hv5:=(show fromI N nl v5 w2 by simpa [Flow.upd] using hG 8)
 have hv6:=(show fromI N xl v6 w2 by simpa [Flow.upd] using hG 11)
 clear hG
 obtain ⟨za,zc,rfl⟩:=ValsAt.shape hv2
 obtain ⟨ya,yc,rfl⟩:=RowsAt.shape hv4
 obtain ⟨xa,xc,rfl⟩:=RowsAt.shape hv5
 obtain ⟨ua,uc,rfl⟩:=RowsAt.shape hv6
 have hsz:=HSZ.out
 have hne:=HNE.out
 have hB2:=Bt HB.out hw2
 have h02:=(hw2.block _ (by omega)).trans H0.out
 have h12:=(hw2.block _ (by omega)).trans H1.out
 obtain ⟨W3,hW3,k0,ko,ks,kB⟩:=box7o (.slice za l.length zc) (.slice ya sl.length yc) (.slice xa nl.length xc) (.slice ua xl.length uc) h02 hB2 (Nat.le_refl _)
 have h13:=(ko (w.heap.size + 1) (by omega)).trans h12
 obtain ⟨W4,hW4,j0,jo,js,jB⟩:=box7 (.int .i64 set) (.int .i64 t) (.slice za l.length zc) (.int .i64 c) (.slice ya sl.length yc) (.slice xa nl.length xc) (.slice ua xl.length uc) h13 kB (by omega)
 have hAg:Ag (fun b=>N≤b) w2 W4:=⟨by rw [js,ks];exact Nat.le_refl _,fun b _ hb=>(jo b (by omega)).trans (ko b (by omega))⟩
 have HG:=Lib.hid (show GrpAt (fun b=>N≤b) W4 [.int .i64 set,.int .i64 t,.slice za l.length zc,.int .i64 c,.slice ya sl.length yc,.slice xa nl.length xc,.slice ua xl.length uc] (set,(t,ds),⟨c,sl,nl,xl⟩) from ⟨_,_,_,_,rfl,by show ValsAt _ _ _ (ds.map Tess.valOf);rw [HLE.out];exact ValsAt.ag hv2 hAg,RowsAt.ag hv4 hAg,RowsAt.ag hv5 hAg,RowsAt.ag hv6 hAg⟩)
 have HJB:=Lib.hid jB
 obtain ⟨_,f0,f1,f2,f3,f4,f5,f6⟩:=can7 h02
 obtain ⟨⟨d0,d1,d2,d3,d4,d5,d6⟩,_⟩:=can7 k0
 obtain ⟨⟨e0,e1,e2,e3,e4,e5,e6⟩,g0,g1,g2,g3,g4,g5,g6⟩:=can7 h13
 obtain ⟨⟨q0,q1,q2,q3,q4,q5,q6⟩,_⟩:=can7 j0
 rw [← HNE.out] at HG
 clear hv2 hv4 hv5 hv6 hsz hne hB2 h02 h12 h13 k0 ko ks kB j0 jo js jB hAg hw2 hb0
 go_simp
 go_wp2_with (fail)
 refine bodyPost_ret (v:=.agg #[.int .i64 set,.int .i64 t,.slice za l.length zc,.int .i64 c,.slice ya sl.length yc,.slice xa nl.length xc,.slice ua xl.length uc]) (by simp [results,Tryz.results76,go_sem,q0,q1,q2,q3,q4,q5,q6]) rfl ⟨[_,_,_,_,_,_,_],rfl,HG.out,HJB.out⟩
end Go.Proofs.YtaddkkkchkdgkaaGreatDoor
