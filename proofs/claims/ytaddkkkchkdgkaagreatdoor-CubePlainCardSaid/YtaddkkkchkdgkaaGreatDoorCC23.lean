/- Joined by mergeK.py: K36, K37, K38 -/
import Derived.Test.YtaddkkkchkdgkaaGreatDoorCC22
import Derived.Laws.StructEq
namespace Go.Proofs.YtaddkkkchkdgkaaGreatDoor
open Go.RowKit Go.Sort
deriving instance DecidableEq for Tess.Val
theorem retB {a b:Bool} (h:a=b):Ending.returned (.bool a) = .returned (.bool b):=by rw [h]
theorem bytes_inj {a b:ByteArray} (h:a.toList=b.toList):a=b:=by
 rw [ByteArray.toList_eq,ByteArray.toList_eq] at h
 exact ByteArray.ext (Array.toList_inj.1 h)
def valF (v:Tess.Val):List Value:=[.string v.s,.bool v.null]
def RW2 {α:Type} (k:Nat) (f:α→List Value) (p:Nat→Prop) (w:World) (v:Value) (l:List α):Prop:=
 ∃ a c,v = .slice a l.length c∧l.length≤maxLen∧(0 < l.length→∃ b off,a=some ⟨b,off,none⟩∧b < w.heap.size∧p b∧∀ j (h:j < l.length) i,i < k→w.cell? ⟨b,off + j * k + i,none⟩=(f l[j])[i]?)
theorem RA.w {α:Type} {k:Nat} {f:α→List Value} {p:Nat→Prop} {w:World} {v:Value} {l:List α} (h:RA k f p w v l):RW2 k f p w v l:=let ⟨a,c,hv,h1,_,_,h4⟩:=h;⟨a,c,hv,h1,h4⟩
theorem VA.w {p:Nat→Prop} {w:World} {v:Value} {l:List Tess.Val} (h:VA p w v l):RW2 2 valF p w v l:=by
 obtain ⟨a,c,hv,h1,h2,h3,h4⟩:=h
 refine ⟨a,c,hv,h1,fun hl => ?_⟩
 obtain ⟨b,Aa,ha,hb,hp,hc⟩:=h4 hl
 refine ⟨b,Aa,ha,hb,hp,fun j hj i hi => ?_⟩
 obtain ⟨c0,c1⟩:=hc j hj
 rcases (show i=0∨i=1 by omega) with rfl | rfl
 ·exact c0
 ·exact c1
theorem neq_val (x0 y0:ByteArray) (x1 y1:Bool) (W:World):(binOp .neq 72 (.agg #[.string x0,.bool x1]) (.agg #[.string y0,.bool y1])).run Tryz.prog W = .ok (.bool (!decide ((⟨x0,x1⟩:Tess.Val)=⟨y0,y1⟩))) W:=by
 rw [run_neq_struct,run_equalIn_agg (d:=9999) _ _ _ _ (by kernel_rfl) (by kernel_rfl)]
 simp [Program.fieldsOf,Op.eqFields,go_sem,Tryz.underlying72,Tryz.underlying9,Tryz.underlying4]
 have e:(x0.toList=y0.toList)=(x0=y0):=propext ⟨bytes_inj,fun h=>by rw [h]⟩
 simp only [e]
 by_cases h0:x0=y0 <;> by_cases h1:x1=y1 <;> simp [h0,h1]
set_option maxRecDepth 100000 in
set_option maxHeartbeats 2000000 in
theorem equal_val (p q:Nat→Prop) (va vb:Value) (l1 l2:List Tess.Val) (w:World) (ha:RW2 2 valF p w va l1) (hb:RW2 2 valF q w vb l2) :
  Calls Tryz.prog 77 #[va,vb] w fun e w'=>e = .returned (.bool (decide (l1=l2)))∧Below w.heap.size w w':=by
 obtain ⟨xa,ca,rfl,Al,Am⟩:=ha
 obtain ⟨xb,cb,rfl,An,Ao⟩:=hb
 have Au:l1.length≤9223372036854775807:=by unfold maxLen at Al;omega
 have A1:l2.length≤9223372036854775807:=by unfold maxLen at An;omega
 have Aw:=Hd Am
 have At:=Hd Ao
 clear Am Ao Al An
 by_cases hl:l1.length=l2.length
 ·have As:((l1.length:Int) != (l2.length:Int))=false:=by rw [bne_eq_false_iff_eq];omega
  have HL:=Hd hl
  clear hl
  go_enter Tryz.func77,Tryz.ntmps77
  go_wp2
  go_loopw [13] (fun i wr => ∃ k:Nat,k≤l1.length∧i = .int .i64 k∧(∀ j (h1:j < l1.length) (h2:j < l2.length),j < k→l1[j]=l2[j])∧Below w.heap.size w wr) (fun i _=>l1.length - (intOf i).toNat)
  case atStart=>exact ⟨0,Nat.zero_le _,rfl,fun j _ _ h=>absurd h (Nat.not_lt_zero _),Below.refl _ _⟩
  case round=>
   obtain ⟨k,hk,rfl,Ad,Aq⟩:=hrel
   have Ac:=Hd Ad
   have Ab:=Hd Aq
   clear Ad Aq
   by_cases hlt:k < l1.length
   ·have Ah:k < l2.length:=by have:=HL.out;omega
    obtain ⟨b,Ae,rfl,hb,_,g1⟩:=Aw.out (by omega)
    obtain ⟨b',Aa,rfl,Af,_,g2⟩:=At.out (by omega)
    have Ax:(k:Int) < (l1.length:Int):=by omega
    have A0:(k:Int) < (l2.length:Int):=by omega
    have A3:b < wr.heap.size:=Nat.lt_of_lt_of_le hb Ab.out.size
    have Ay:b' < wr.heap.size:=Nat.lt_of_lt_of_le Af Ab.out.size
    have G1:=g1 k hlt
    have G2:=g2 k Ah
    have Ai:=Hd (show ∀ h:l1[k]=l2[k],∀ j (h1:j < l1.length) (h2:j < l2.length),j < k + 1→l1[j]=l2[j] from fun h j h1 h2 hj=>by
     by_cases hjk:j < k
     ·exact Ac.out j h1 h2 hjk
     ·obtain rfl:j=k:=by omega
      exact h)
    have Ag:=Hd (show l1[k]≠l2[k]→l1≠l2 from fun h e=>h (by subst e;rfl))
    clear g1 g2
    generalize l1[k]=u1 at *
    generalize l2[k]=u2 at *
    obtain ⟨x0,x1⟩:=u1
    obtain ⟨y0,y1⟩:=u2
    have r0:wr.cell? ⟨b,Ae + k * 2,none⟩=some (.string x0):=(Ab.out.cell (p:=⟨b,Ae + k * 2,none⟩) hb).trans (G1 0 (by omega))
    have t0:wr.cell? ⟨b',Aa + k * 2,none⟩=some (.string y0):=(Ab.out.cell (p:=⟨b',Aa + k * 2,none⟩) Af).trans (G2 0 (by omega))
    have r1:wr.cell? ⟨b,Ae + k * 2 + 1,none⟩=some (.bool x1):=(Ab.out.cell (p:=⟨b,Ae + k * 2 + 1,none⟩) hb).trans (G1 1 (by omega))
    have t1:wr.cell? ⟨b',Aa + k * 2 + 1,none⟩=some (.bool y1):=(Ab.out.cell (p:=⟨b',Aa + k * 2 + 1,none⟩) Af).trans (G2 1 (by omega))
    clear G1 G2
    have Aj:=Hd (fun W=>neq_val x0 y0 x1 y1 W)
    go_wp2_with (fail)
    refine Flow.wrf 8 (Flow.sp3 [.inl ?_,.inl ?_,.inl ?_,.inl ?_,.inl ?_,.inl ?_,.inl ?_,.inl ?_]) (by kernel_rfl) (by kernel_rfl) ?_ ?_
    rotate_left 8
    ·refine Flow.sm2 ?_
     repeat (first | exact Flow.ln2 | refine Flow.li2 ?_)
    all_goals try simp only [List.take_succ_cons,List.take_zero,List.drop_succ_cons,List.drop_zero]
    iterate 8 (refine Flow.tvK rfl (fun K hK=>⟨fun w hw hG => ?_,?_⟩);(have A2:=Flow.bc4 hw;clear hG hw;unfold Flow.Runs Flow.yields;go_simp;try rfl);go_simp;refine hK _ ?_;clear hK K)
    refine Flow.tn2 fun w2 hw2 hG => ?_
    clear hG
    have Ak:=Hd (Bt Ab.out hw2)
    clear hw2
    have Ap:=Aj.out
    by_cases he:(⟨x0,x1⟩:Tess.Val)=⟨y0,y1⟩
    ·rw [decide_eq_true he] at Ap
     have Az:=Hd (Ai.out he)
     clear he Aj
     go_wp2
     go_roundw
     case rel=>exact ⟨k + 1,by omega,by go_num,Az.out,Ak.out⟩
     case measure=>simp [intOf];omega
    ·rw [decide_eq_false he] at Ap
     have Av:=Hd (Ag.out he)
     clear he Aj
     go_wp2
     go_ret
     exact ⟨retB (decide_eq_false Av.out).symm,Ak.out⟩
   ·have Ax:¬ (k:Int) < (l1.length:Int):=by omega
    have Ar:=Hd (show l1=l2 from List.ext_getElem HL.out fun j h1 h2=>Ac.out j h1 h2 (by omega))
    go_wp2
    go_ret
    exact ⟨retB (decide_eq_true Ar.out).symm,Ab.out⟩
 ·have As:((l1.length:Int) != (l2.length:Int))=true:=by rw [bne_iff_ne];omega
  have HN:=Hd (show l1≠l2 from fun e=>hl (by rw [e]))
  clear hl
  go_enter Tryz.func77,Tryz.ntmps77
  go_wp2
  go_ret
  exact ⟨retB (decide_eq_false HN.out).symm,Below.refl _ _⟩
end Go.Proofs.YtaddkkkchkdgkaaGreatDoor
namespace Go.Proofs.YtaddkkkchkdgkaaGreatDoor
open Go.RowKit Go.Sort
open Tess (CK Pay)
theorem can7 {W:World} {B:Nat} {t:TypeId} {x0 x1 x2 x3 x4 x5 x6:Value} (h:W.heap[B]? = some (.cells #[x0,x1,x2,x3,x4,x5,x6] t (0,0))) :
  (W.cell? ⟨B,0,none⟩=some x0∧W.cell? ⟨B,1,none⟩=some x1∧W.cell? ⟨B,2,none⟩=some x2∧W.cell? ⟨B,3,none⟩=some x3∧W.cell? ⟨B,4,none⟩=some x4∧W.cell? ⟨B,5,none⟩=some x5∧W.cell? ⟨B,6,none⟩=some x6) ∧
   W.frozen? ⟨B,0,none⟩=false∧W.frozen? ⟨B,1,none⟩=false∧W.frozen? ⟨B,2,none⟩=false∧W.frozen? ⟨B,3,none⟩=false∧W.frozen? ⟨B,4,none⟩=false∧W.frozen? ⟨B,5,none⟩=false∧W.frozen? ⟨B,6,none⟩=false:=
 ⟨⟨cell_of_row _ _ 0 _ _ _ h,cell_of_row _ _ 1 _ _ _ h,cell_of_row _ _ 2 _ _ _ h,cell_of_row _ _ 3 _ _ _ h,cell_of_row _ _ 4 _ _ _ h,cell_of_row _ _ 5 _ _ _ h,cell_of_row _ _ 6 _ _ _ h⟩,frozen_of_row _ _ 0 _ _ h,frozen_of_row _ _ 1 _ _ h,frozen_of_row _ _ 2 _ _ h,frozen_of_row _ _ 3 _ _ h,frozen_of_row _ _ 4 _ _ h,frozen_of_row _ _ 5 _ _ h,frozen_of_row _ _ 6 _ _ h⟩
theorem valOf_inj {l m:List Tess.DV}:l.map Tess.valOf=m.map Tess.valOf↔l=m:=
 ⟨fun h=>by have:=congrArg (List.map Tess.Val.c) h;rwa [vc2,vc2] at this,fun h=>by rw [h]⟩
def oneB (x y:Int×CK×Pay):Bool:=decide (x.1=y.1) && decide (x.2.1.1=y.2.1.1) && decide (x.2.1.2.map Tess.valOf=y.2.1.2.map Tess.valOf)
theorem oBi {x y:Int×CK×Pay}:oneB x y=true↔x.1=y.1∧x.2.1=y.2.1:=by
 unfold oneB
 rw [Bool.and_eq_true,Bool.and_eq_true,decide_eq_true_eq,decide_eq_true_eq,decide_eq_true_eq,valOf_inj]
 exact ⟨fun ⟨⟨h1,h2⟩,h3⟩=>⟨h1,Prod.ext h2 h3⟩,fun ⟨h1,h2⟩=>⟨⟨h1,by rw [h2]⟩,by rw [h2]⟩⟩
set_option maxRecDepth 100000 in
set_option maxHeartbeats 2000000 in
theorem isOne_any (p q:Nat→Prop) (cs ds:List Value) (x y:Int×CK×Pay) (w:World) (hx:GA2 p w cs x) (hy:GA2 q w ds y) :
  Calls Tryz.prog 40 #[.agg cs.toArray,.agg ds.toArray] w fun e w'=>e = .returned (.bool (oneB x y))∧Below w.heap.size w w':=by
 obtain ⟨vd,vs,vm,vx,rfl,hd,hp⟩:=hx
 obtain ⟨ud,us,um,ux,rfl,he,hq⟩:=hy
 have Ad:=Hd (fun W (hB:Below w.heap.size w W)=>equal_val p q vd ud _ _ W (hd.ag (Ag.new p hB)).w (he.ag (Ag.new q hB)).w)
 obtain ⟨a2,c2,rfl⟩:=hd.shape
 obtain ⟨a4,c4,rfl⟩:=hp.sums.shape
 obtain ⟨a5,c5,rfl⟩:=hp.mins.shape
 obtain ⟨a6,c6,rfl⟩:=hp.maxs.shape
 obtain ⟨b2,d2,rfl⟩:=he.shape
 obtain ⟨b4,d4,rfl⟩:=hq.sums.shape
 obtain ⟨b5,d5,rfl⟩:=hq.mins.shape
 obtain ⟨b6,d6,rfl⟩:=hq.maxs.shape
 clear hd hp he hq
 unfold oneB
 generalize decide (x.2.1.2.map Tess.valOf=y.2.1.2.map Tess.valOf)=r at *
 generalize (x.2.1.2.map Tess.valOf).length=n2 at *
 generalize (y.2.1.2.map Tess.valOf).length=m2 at *
 generalize x.2.2.sums.length=n4 at *
 generalize x.2.2.mins.length=n5 at *
 generalize x.2.2.maxs.length=n6 at *
 generalize y.2.2.sums.length=m4 at *
 generalize y.2.2.mins.length=m5 at *
 generalize y.2.2.maxs.length=m6 at *
 generalize x.1=s1 at *
 generalize y.1=s2 at *
 generalize x.2.1.1=t1 at *
 generalize y.2.1.1=t2 at *
 generalize x.2.2.n=z1 at *
 generalize y.2.2.n=z2 at *
 obtain ⟨W0,Ab⟩:∃ W0,(w.alloc (.cells #[.int .i64 s1,.int .i64 t1,.slice a2 n2 c2,.int .i64 z1,.slice a4 n4 c4,.slice a5 n5 c5,.slice a6 n6 c6] 56)).alloc (.cells #[.int .i64 s2,.int .i64 t2,.slice b2 m2 d2,.int .i64 z2,.slice b4 m4 d4,.slice b5 m5 d5,.slice b6 m6 d6] 56)=W0:=⟨_,rfl⟩
 obtain ⟨k0,k1,kS,kB⟩:=la3 w (.cells #[.int .i64 s1,.int .i64 t1,.slice a2 n2 c2,.int .i64 z1,.slice a4 n4 c4,.slice a5 n5 c5,.slice a6 n6 c6] 56) (.cells #[.int .i64 s2,.int .i64 t2,.slice b2 m2 d2,.int .i64 z2,.slice b4 m4 d4,.slice b5 m5 d5,.slice b6 m6 d6] 56)
 rw [Ab] at k0 k1 kS kB
 obtain ⟨⟨x0,x1,x2,x3,x4,x5,x6⟩,_⟩:=can7 k0
 obtain ⟨⟨y0,y1,y2,y3,y4,y5,y6⟩,_⟩:=can7 k1
 have HB:=Hd kB
 clear k0 k1 kS kB
 by_cases h1:s1=s2
 ·have e1:(s1 == s2)=true:=by rw [h1];simp
  by_cases h2:t1=t2
  ·have e2:(t1 == t2)=true:=by rw [h2];simp
   rw [decide_eq_true h1,decide_eq_true h2,Bool.true_and,Bool.true_and]
   clear h1 h2
   go_enter Tryz.func40,Tryz.ntmps40
   go_wp2_with (go_at_call 77;refine (Ad.out _ HB.out).mono ?_;rintro e w2 ⟨rfl,Aa⟩;have Ac:=Hd (Bt HB.out Aa);clear Aa)
   go_ret
   exact ⟨rfl,Ac.out⟩
  ·have e2:(t1 == t2)=false:=by simp [h2]
   rw [decide_eq_false h2,Bool.and_false,Bool.false_and]
   clear h1 h2
   go_enter Tryz.func40,Tryz.ntmps40
   go_wp2
   go_ret
   exact ⟨rfl,HB.out⟩
 ·have e1:(s1 == s2)=false:=by simp [h1]
  rw [decide_eq_false h1,Bool.false_and,Bool.false_and]
  clear h1
  go_enter Tryz.func40,Tryz.ntmps40
  go_wp2
  go_ret
  exact ⟨rfl,HB.out⟩
end Go.Proofs.YtaddkkkchkdgkaaGreatDoor
namespace Go.Proofs.YtaddkkkchkdgkaaGreatDoor
open Go.RowKit Go.Sort
open Tess (CK Pay)
theorem box7 {w W:World} {g:Nat} {x0 x1 x2 x3 x4 x5 x6:Value} {T:TypeId} (y0 y1 y2 y3 y4 y5 y6:Value) (h:W.heap[g]? = some (.cells #[x0,x1,x2,x3,x4,x5,x6] T (0,0))) {N:Nat} (hB:Below N w W) (hg:N≤g) :
  ∃ W',(((((((W.setCell ⟨g,0,none⟩ y0).setCell ⟨g,1,none⟩ y1).setCell ⟨g,2,none⟩ y2).setCell ⟨g,3,none⟩ y3).setCell ⟨g,4,none⟩ y4).setCell ⟨g,5,none⟩ y5).setCell ⟨g,6,none⟩ y6)=W'∧W'.heap[g]? = some (.cells #[y0,y1,y2,y3,y4,y5,y6] T (0,0))∧(∀ b,b≠g→W'.heap[b]? = W.heap[b]?)∧W'.heap.size=W.heap.size∧Below N w W':=by
 have h0:=heap_setCell_same W g 0 #[x0,x1,x2,x3,x4,x5,x6] T y0 h
 have h1:=heap_setCell_same _ g 1 #[y0,x1,x2,x3,x4,x5,x6] T y1 h0
 have h2:=heap_setCell_same _ g 2 #[y0,y1,x2,x3,x4,x5,x6] T y2 h1
 have h3:=heap_setCell_same _ g 3 #[y0,y1,y2,x3,x4,x5,x6] T y3 h2
 have h4:=heap_setCell_same _ g 4 #[y0,y1,y2,y3,x4,x5,x6] T y4 h3
 have h5:=heap_setCell_same _ g 5 #[y0,y1,y2,y3,y4,x5,x6] T y5 h4
 have h6:=heap_setCell_same _ g 6 #[y0,y1,y2,y3,y4,y5,x6] T y6 h5
 exact ⟨_,rfl,h6,fun b hb=>by rw [heap_setCell_other _ _ _ _ hb,heap_setCell_other _ _ _ _ hb,heap_setCell_other _ _ _ _ hb,heap_setCell_other _ _ _ _ hb,heap_setCell_other _ _ _ _ hb,heap_setCell_other _ _ _ _ hb,heap_setCell_other _ _ _ _ hb],by simp [World.setCell],((((((hB.setCell hg _).setCell hg _).setCell hg _).setCell hg _).setCell hg _).setCell hg _).setCell hg _⟩
theorem box7o {w W:World} {g:Nat} {x0 x1 x2 x3 x4 x5 x6:Value} {T:TypeId} (y2 y4 y5 y6:Value) (h:W.heap[g]? = some (.cells #[x0,x1,x2,x3,x4,x5,x6] T (0,0))) {N:Nat} (hB:Below N w W) (hg:N≤g) :
  ∃ W',((((W.setCell ⟨g,2,none⟩ y2).setCell ⟨g,4,none⟩ y4).setCell ⟨g,5,none⟩ y5).setCell ⟨g,6,none⟩ y6)=W'∧W'.heap[g]? = some (.cells #[x0,x1,y2,x3,y4,y5,y6] T (0,0))∧(∀ b,b≠g→W'.heap[b]? = W.heap[b]?)∧W'.heap.size=W.heap.size∧Below N w W':=by
 have h2:=heap_setCell_same _ g 2 #[x0,x1,x2,x3,x4,x5,x6] T y2 h
 have h4:=heap_setCell_same _ g 4 #[x0,x1,y2,x3,x4,x5,x6] T y4 h2
 have h5:=heap_setCell_same _ g 5 #[x0,x1,y2,x3,y4,x5,x6] T y5 h4
 have h6:=heap_setCell_same _ g 6 #[x0,x1,y2,x3,y4,y5,x6] T y6 h5
 exact ⟨_,rfl,h6,fun b hb=>by rw [heap_setCell_other _ _ _ _ hb,heap_setCell_other _ _ _ _ hb,heap_setCell_other _ _ _ _ hb,heap_setCell_other _ _ _ _ hb],by simp [World.setCell],(((hB.setCell hg _).setCell hg _).setCell hg _).setCell hg _⟩
def fromV (N:Nat) (l:List Tess.Val) (v:Value) (W:World):Prop:=VA (fun b=>N≤b) W v l
theorem fromV_mono (N:Nat) (l:List Tess.Val):Flow.Spec.mono (.inr (fromV N l)):=fun _ _ _ h hb=>VA.ag h (Ag.new _ hb)
def fromW (N:Nat) (l:List Int) (v:Value) (W:World):Prop:=RA 2 wF (fun b=>N≤b) W v l
theorem fromW_mono (N:Nat) (l:List Int):Flow.Spec.mono (.inr (fromW N l)):=fun _ _ _ h hb=>RA.ag h (Ag.new _ hb)
def fromI (N:Nat) (l:List Int) (v:Value) (W:World):Prop:=RA 1 intF (fun b=>N≤b) W v l
theorem fromI_mono (N:Nat) (l:List Int):Flow.Spec.mono (.inr (fromI N l)):=fun _ _ _ h hb=>RA.ag h (Ag.new _ hb)
set_option maxRecDepth 100000 in
set_option maxHeartbeats 4000000 in
theorem own7_any (p:Nat→Prop) (cs:List Value) (x:Int×CK×Pay) (w:World) (h:GA2 p w cs x) (hl:x.2.1.2.length≤1000000∧x.2.2.sums.length≤1000000∧x.2.2.mins.length≤1000000∧x.2.2.maxs.length≤1000000) :
  Calls Tryz.prog 76 #[.agg cs.toArray] w fun e w' => ∃ cs',e = .returned (.agg cs'.toArray)∧GA2 (fun b=>w.heap.size + 2≤b) w' cs' x∧Below w.heap.size w w':=by
 obtain ⟨vd,vs,vn,vx,rfl,hd,hs,hn,hx⟩:=h
 obtain ⟨set,⟨t,ds⟩,c,sl,nl,xl⟩:=x
 simp only at hd hs hn hx hl ⊢
 have Af:(ds.map Tess.valOf).length≤1000000:=by rw [List.length_map];exact hl.1
 obtain ⟨l,An⟩:∃ l,ds.map Tess.valOf=l:=⟨_,rfl⟩
 rw [An] at hd Af
 have As:=Hd An
 clear An
 obtain ⟨N,hN⟩:∃ N,w.heap.size + 2=N:=⟨_,rfl⟩
 have HD:=Hd (show ∀ W,Below w.heap.size w W→N≤W.heap.size→Calls Tryz.prog 92 #[vd] W fun e w' => ∃ v',e = .returned v'∧fromV N l v' w'∧Below W.heap.size W w' from fun W hB hNW=>(cVa p vd l W (hd.ag (Ag.new p hB)) Af).mono (by rintro e w' ⟨v,h1,h2,h3⟩;exact ⟨v,h1,h2.weak fun b hb=>Nat.le_trans hNW hb,h3⟩))
 have HS:=Hd (show ∀ W,Below w.heap.size w W→N≤W.heap.size→Calls Tryz.prog 93 #[vs] W fun e w' => ∃ v',e = .returned v'∧fromW N sl v' w'∧Below W.heap.size W w' from fun W hB hNW=>(cloneW6 (hs.ag (Ag.new p hB)) hl.2.1).mono (by rintro e w' ⟨v,h1,h2,h3⟩;exact ⟨v,h1,h2.1.weak fun b hb=>Nat.le_trans hNW hb.1,h3⟩))
 have HN:=Hd (show ∀ W,Below w.heap.size w W→N≤W.heap.size→Calls Tryz.prog 94 #[vn] W fun e w' => ∃ v',e = .returned v'∧fromI N nl v' w'∧Below W.heap.size W w' from fun W hB hNW=>(cloneI6 (hn.ag (Ag.new p hB)) hl.2.2.1).mono (by rintro e w' ⟨v,h1,h2,h3⟩;exact ⟨v,h1,h2.1.weak fun b hb=>Nat.le_trans hNW hb.1,h3⟩))
 have HX:=Hd (show ∀ W,Below w.heap.size w W→N≤W.heap.size→Calls Tryz.prog 94 #[vx] W fun e w' => ∃ v',e = .returned v'∧fromI N xl v' w'∧Below W.heap.size W w' from fun W hB hNW=>(cloneI6 (hx.ag (Ag.new p hB)) hl.2.2.2).mono (by rintro e w' ⟨v,h1,h2,h3⟩;exact ⟨v,h1,h2.1.weak fun b hb=>Nat.le_trans hNW hb.1,h3⟩))
 obtain ⟨ad,cd,rfl⟩:=hd.shape
 obtain ⟨sa,cs,rfl⟩:=hs.shape
 obtain ⟨an,cn,rfl⟩:=hn.shape
 obtain ⟨ax,cx,rfl⟩:=hx.shape
 clear hs hn hx hd hl Af
 obtain ⟨W0,Ao⟩:∃ W0,(w.alloc (.cells #[.int .i64 set,.int .i64 t,.slice ad l.length cd,.int .i64 c,.slice sa sl.length cs,.slice an nl.length cn,.slice ax xl.length cx] 56)).alloc (.cells #[.int .i64 0,.int .i64 0,.slice none 0 0,.int .i64 0,.slice none 0 0,.slice none 0 0,.slice none 0 0] 56)=W0:=⟨_,rfl⟩
 obtain ⟨h0,h1,hS,hB⟩:=la3 w (.cells #[.int .i64 set,.int .i64 t,.slice ad l.length cd,.int .i64 c,.slice sa sl.length cs,.slice an nl.length cn,.slice ax xl.length cx] 56) (.cells #[.int .i64 0,.int .i64 0,.slice none 0 0,.int .i64 0,.slice none 0 0,.slice none 0 0,.slice none 0 0] 56)
 rw [Ao] at h0 h1 hS hB
 have H0:=Hd h0
 have H1:=Hd h1
 have HB:=Hd hB
 have Ad:=Hd (show W0.heap.size=N by omega)
 have Ap:=Hd hN
 go_enter Tryz.func76,Tryz.ntmps76
 go_wp2_with (fail)
 clear Ao h1 hB hN
 obtain ⟨⟨c0,c1,c2,c3,c4,c5,c6⟩,_⟩:=can7 h0
 have Av:w.heap.size < W0.heap.size:=by omega
 clear h0 hS
 refine Flow.wrf 13 (Flow.sp3 [.inl ?_,.inl ?_,.inr (fromV N l),.inl ?_,.inl ?_,.inr (fromW N sl),.inl ?_,.inl ?_,.inr (fromI N nl),.inl ?_,.inl ?_,.inr (fromI N xl),.inl ?_]) (by kernel_rfl) (by kernel_rfl) ?_ ?_
 rotate_left 9
 ·refine Flow.sm2 ?_
  repeat (first | exact Flow.ln2 | refine Flow.li2 ?_ | refine Flow.li3 (fromV_mono _ _) ?_ | refine Flow.li3 (fromW_mono _ _) ?_ | refine Flow.li3 (fromI_mono _ _) ?_)
 all_goals try simp only [List.take_succ_cons,List.take_zero,List.drop_succ_cons,List.drop_zero]
 iterate 2 (refine Flow.tvK rfl (fun K hK=>⟨fun w hw hG => ?_,?_⟩);(have Ae:=Flow.bc4 hw;clear hG hw;unfold Flow.Runs Flow.yields;go_simp;try rfl);go_simp;refine hK _ ?_;clear hK K)
 (refine Flow.tvK2 rfl (fun K hK=>⟨fun w hw hG => ?_,?_⟩);(have HW:=Hd hw;clear hG hw;unfold Flow.Runs Flow.yields;go_simp;refine (HD.out _ (Bt HB.out HW.out) (by have:=HW.out.size;have:=Ad.out;omega)).mono ?_;rintro e w3 ⟨v3,rfl,Ab,Aa⟩;exact ⟨v3,rfl,Aa,Ab⟩);intro v2;go_simp;refine hK _ _ ?_;clear hK K)
 iterate 2 (refine Flow.tvK rfl (fun K hK=>⟨fun w hw hG => ?_,?_⟩);(have Ae:=Flow.bc4 hw;clear hG hw;unfold Flow.Runs Flow.yields;go_simp;try rfl);go_simp;refine hK _ ?_;clear hK K)
 (refine Flow.tvK2 rfl (fun K hK=>⟨fun w hw hG => ?_,?_⟩);(have HW:=Hd hw;clear hG hw;unfold Flow.Runs Flow.yields;go_simp;refine (HS.out _ (Bt HB.out HW.out) (by have:=HW.out.size;have:=Ad.out;omega)).mono ?_;rintro e w3 ⟨v3,rfl,Ab,Aa⟩;exact ⟨v3,rfl,Aa,Ab⟩);intro v4;go_simp;refine hK _ _ ?_;clear hK K)
 iterate 2 (refine Flow.tvK rfl (fun K hK=>⟨fun w hw hG => ?_,?_⟩);(have Ae:=Flow.bc4 hw;clear hG hw;unfold Flow.Runs Flow.yields;go_simp;try rfl);go_simp;refine hK _ ?_;clear hK K)
 (refine Flow.tvK2 rfl (fun K hK=>⟨fun w hw hG => ?_,?_⟩);(have HW:=Hd hw;clear hG hw;unfold Flow.Runs Flow.yields;go_simp;refine (HN.out _ (Bt HB.out HW.out) (by have:=HW.out.size;have:=Ad.out;omega)).mono ?_;rintro e w3 ⟨v3,rfl,Ab,Aa⟩;exact ⟨v3,rfl,Aa,Ab⟩);intro v5;go_simp;refine hK _ _ ?_;clear hK K)
 iterate 2 (refine Flow.tvK rfl (fun K hK=>⟨fun w hw hG => ?_,?_⟩);(have Ae:=Flow.bc4 hw;clear hG hw;unfold Flow.Runs Flow.yields;go_simp;try rfl);go_simp;refine hK _ ?_;clear hK K)
 (refine Flow.tvK2 rfl (fun K hK=>⟨fun w hw hG => ?_,?_⟩);(have HW:=Hd hw;clear hG hw;unfold Flow.Runs Flow.yields;go_simp;refine (HX.out _ (Bt HB.out HW.out) (by have:=HW.out.size;have:=Ad.out;omega)).mono ?_;rintro e w3 ⟨v3,rfl,Ab,Aa⟩;exact ⟨v3,rfl,Aa,Ab⟩);intro v6;go_simp;refine hK _ _ ?_;clear hK K)
 iterate 1 (refine Flow.tvK rfl (fun K hK=>⟨fun w hw hG => ?_,?_⟩);(have Ae:=Flow.bc4 hw;clear hG hw;unfold Flow.Runs Flow.yields;go_simp;try rfl);go_simp;refine hK _ ?_;clear hK K)
 refine Flow.tn2 fun w2 hw2 hG => ?_
 have Aj:=(show fromV N l v2 w2 by simpa [Flow.upd] using hG 2)
 have Ah:=(show fromW N sl v4 w2 by simpa [Flow.upd] using hG 5)
 have Al:=(show fromI N nl v5 w2 by simpa [Flow.upd] using hG 8)
 have Ai:=(show fromI N xl v6 w2 by simpa [Flow.upd] using hG 11)
 clear hG
 obtain ⟨za,zc,rfl⟩:=VA.shape Aj
 obtain ⟨ya,yc,rfl⟩:=RA.shape Ah
 obtain ⟨xa,xc,rfl⟩:=RA.shape Al
 obtain ⟨ua,uc,rfl⟩:=RA.shape Ai
 have At:=Ad.out
 have Au:=Ap.out
 have Aq:=Bt HB.out hw2
 have Ak:=(hw2.block _ (by omega)).trans H0.out
 have Ar:=(hw2.block _ (by omega)).trans H1.out
 obtain ⟨W3,Ay,k0,ko,ks,kB⟩:=box7o (.slice za l.length zc) (.slice ya sl.length yc) (.slice xa nl.length xc) (.slice ua xl.length uc) Ak Aq (Nat.le_refl _)
 have Am:=(ko (w.heap.size + 1) (by omega)).trans Ar
 obtain ⟨W4,Ax,j0,jo,js,jB⟩:=box7 (.int .i64 set) (.int .i64 t) (.slice za l.length zc) (.int .i64 c) (.slice ya sl.length yc) (.slice xa nl.length xc) (.slice ua xl.length uc) Am kB (by omega)
 have Ac:Ag (fun b=>N≤b) w2 W4:=⟨by rw [js,ks];exact Nat.le_refl _,fun b _ hb=>(jo b (by omega)).trans (ko b (by omega))⟩
 have HG:=Hd (show GA2 (fun b=>N≤b) W4 [.int .i64 set,.int .i64 t,.slice za l.length zc,.int .i64 c,.slice ya sl.length yc,.slice xa nl.length xc,.slice ua xl.length uc] (set,(t,ds),⟨c,sl,nl,xl⟩) from ⟨_,_,_,_,rfl,by show VA _ _ _ (ds.map Tess.valOf);rw [As.out];exact VA.ag Aj Ac,RA.ag Ah Ac,RA.ag Al Ac,RA.ag Ai Ac⟩)
 have Aw:=Hd jB
 obtain ⟨_,f0,f1,f2,f3,f4,f5,f6⟩:=can7 Ak
 obtain ⟨⟨d0,d1,d2,d3,d4,d5,d6⟩,_⟩:=can7 k0
 obtain ⟨⟨e0,e1,e2,e3,e4,e5,e6⟩,g0,g1,g2,g3,g4,g5,g6⟩:=can7 Am
 obtain ⟨⟨q0,q1,q2,q3,q4,q5,q6⟩,_⟩:=can7 j0
 rw [← Ap.out] at HG
 clear Aj Ah Al Ai At Au Aq Ak Ar Am k0 ko ks kB j0 jo js jB Ac hw2 Av
 go_simp
 go_wp2_with (fail)
 refine bodyPost_ret (v:=.agg #[.int .i64 set,.int .i64 t,.slice za l.length zc,.int .i64 c,.slice ya sl.length yc,.slice xa nl.length xc,.slice ua xl.length uc]) (by simp [results,Tryz.results76,go_sem,q0,q1,q2,q3,q4,q5,q6]) rfl ⟨[_,_,_,_,_,_,_],rfl,HG.out,Aw.out⟩
end Go.Proofs.YtaddkkkchkdgkaaGreatDoor
