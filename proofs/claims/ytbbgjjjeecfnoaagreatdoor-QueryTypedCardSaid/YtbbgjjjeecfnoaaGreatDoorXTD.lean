/- Joined by mergeQ.py: F32a, H1, H2 -/
import Derived.Test.YtbbgjjjeecfnoaaGreatDoorXFB
import Derived.Test.YtbbgjjjeecfnoaaGreatDoorXTC
import Derived.Test.YtbbgjjjeecfnoaaGreatDoorXPA
namespace Go.Proofs.YtbbgjjjeecfnoaaGreatDoor
open Go.RowKit Go.Sort
theorem box3 {w W:World} {B:Nat} {t:TypeId} {x0 x1 x2:Value} (y0 y1 y2:Value) (h:W.heap[B]? = some (.cells #[x0,x1,x2] t (0,0))) (hb:Below w.heap.size w W) (hB:w.heap.size≤B) :
  ∃ W3,(((W.setCell ⟨B,0,none⟩ y0).setCell ⟨B,1,none⟩ y1).setCell ⟨B,2,none⟩ y2)=W3∧W3.heap[B]? = some (.cells #[y0,y1,y2] t (0,0))∧(∀ k,k≠B→W3.heap[k]? = W.heap[k]?)∧W3.heap.size=W.heap.size∧Below w.heap.size w W3:=
 ⟨_,rfl,heap_setCell_same _ _ _ _ _ _ (heap_setCell_same _ _ _ _ _ _ (heap_setCell_same _ _ _ _ _ _ h)),
   fun k hk=>((heap_setCell_other _ _ _ _ hk).trans (heap_setCell_other _ _ _ _ hk)).trans (heap_setCell_other _ _ _ _ hk),by simp [World.setCell],((hb.setCell hB _).setCell hB _).setCell hB _⟩
theorem can3 {W:World} {B:Nat} {t:TypeId} {x0 x1 x2:Value} (h:W.heap[B]? = some (.cells #[x0,x1,x2] t (0,0))) :
  (W.cell? ⟨B,0,none⟩=some x0∧W.cell? ⟨B,1,none⟩=some x1∧W.cell? ⟨B,2,none⟩=some x2)∧W.frozen? ⟨B,0,none⟩=false∧W.frozen? ⟨B,1,none⟩=false∧W.frozen? ⟨B,2,none⟩=false:=
 ⟨⟨cell_of_row _ _ 0 _ _ _ h,cell_of_row _ _ 1 _ _ _ h,cell_of_row _ _ 2 _ _ _ h⟩,frozen_of_row _ _ 0 _ _ h,frozen_of_row _ _ 1 _ _ h,frozen_of_row _ _ 2 _ _ h⟩
theorem can6 {W:World} {B:Nat} {t:TypeId} {x0 x1 x2 x3 x4 x5:Value} (h:W.heap[B]? = some (.cells #[x0,x1,x2,x3,x4,x5] t (0,0))) :
  (W.cell? ⟨B,0,none⟩=some x0∧W.cell? ⟨B,1,none⟩=some x1∧W.cell? ⟨B,2,none⟩=some x2∧W.cell? ⟨B,3,none⟩=some x3∧W.cell? ⟨B,4,none⟩=some x4∧W.cell? ⟨B,5,none⟩=some x5) ∧
   W.frozen? ⟨B,0,none⟩=false∧W.frozen? ⟨B,1,none⟩=false∧W.frozen? ⟨B,2,none⟩=false∧W.frozen? ⟨B,3,none⟩=false∧W.frozen? ⟨B,4,none⟩=false∧W.frozen? ⟨B,5,none⟩=false:=
 ⟨⟨cell_of_row _ _ 0 _ _ _ h,cell_of_row _ _ 1 _ _ _ h,cell_of_row _ _ 2 _ _ _ h,cell_of_row _ _ 3 _ _ _ h,cell_of_row _ _ 4 _ _ _ h,cell_of_row _ _ 5 _ _ _ h⟩,frozen_of_row _ _ 0 _ _ h,frozen_of_row _ _ 1 _ _ h,frozen_of_row _ _ 2 _ _ h,frozen_of_row _ _ 3 _ _ h,frozen_of_row _ _ 4 _ _ h,frozen_of_row _ _ 5 _ _ h⟩
end Go.Proofs.YtbbgjjjeecfnoaaGreatDoor
namespace Go.Proofs.YtbbgjjjeecfnoaaGreatDoor
open Go.RowKit Go.Sort
open Tess (Fil)
open Tess.Fil (grainOk)
set_option maxRecDepth 100000 in
set_option maxHeartbeats 1000000 in
theorem metric_any (v:Value) (s:Tess.Sch) (x:ByteArray) (p:Nat→Prop) (w:World) (hv:SchAt p w v s) :
  Calls Tryz.prog 179 #[v,.string x] w fun e w'=>e = .returned (.tuple #[.int .i64 ((Tess.metW s x).1:Nat),.bool (Tess.metW s x).2])∧Below w.heap.size w w':=by
 have HV:=Lib.hid hv
 obtain ⟨vd,vm,rfl,hd,hm,_,_⟩:=hv
 have HP:=Lib.hid (fun W (hB:Below w.heap.size w W)=>place_any _ vm s s.mets x p W (HV.out.ag (Ag.new p hB)) (hm.1.below hB))
 obtain ⟨ad,capd,rfl,_⟩:=slp_len hd
 obtain ⟨am,capm,rfl,_⟩:=slp_len hm
 clear hd hm
 have HD:RowKit.Hid (Tess.metW s x=Tess.placeW (Tess.schOk s) s.mets x):=Lib.hid rfl
 rw [← HD.out] at HP
 generalize Tess.metW s x=r at *
 obtain ⟨r1,r2⟩:=r
 simp only at HP
 go_enter Tryz.func179,Tryz.ntmps179
 go_wp2_with (go_at_call 183;refine (HP.out _ ((Below.refl _ _).alloc (Nat.le_refl _) _)).mono ?_;rintro e w2 ⟨rfl,hB2⟩;have HB:=Lib.hid (((Below.refl _ _).alloc (Nat.le_refl _) _).trans (hB2.mono (by simp)));clear hB2)
 go_ret2
 exact ⟨rfl,HB.out⟩
set_option maxRecDepth 100000 in
set_option maxHeartbeats 1000000 in
theorem areGrains2 (b:Nat) (g h:Int) (w:World) (hc:w.cell? ⟨b,0,none⟩=some (.int .i64 g)) (hd:w.cell? ⟨b,1,none⟩=some (.int .i64 h)) :
  Calls Tryz.prog 114 #[.slice (some ⟨b,0,none⟩) 2 2] w fun e w'=>e = .returned (.bool (grainOk g && grainOk h))∧w=w':=by
 have gk:∀ x:Int,grainOk x=true∧decide (x < 1)=false∧decide (1000000000 < x)=false∨grainOk x=false∧decide (x < 1)=true∨grainOk x=false∧decide (x < 1)=false∧decide (1000000000 < x)=true:=by
  intro x
  unfold grainOk
  by_cases h1:1≤x
  ·by_cases h2:x≤1000000000
   ·left;simp [h1,h2]
   ·right;right;simp [h1];omega
  ·right;left;simp;omega
 rcases gk g with ⟨e,d1,d2⟩ | ⟨e,d1⟩ | ⟨e,d1,d2⟩
 ·rw [e,Bool.true_and]
  rcases gk h with ⟨e',d1',d2'⟩ | ⟨e',d1'⟩ | ⟨e',d1',d2'⟩
  all_goals
   rw [e']
   clear gk e e'
   go_enter Tryz.func114,Tryz.ntmps114
   go_wp2
   refine wp_loop_rounds 3 ?_
   rw [rounds_succ]
   go_wp2
   rw [rounds_succ]
   go_wp2
   try (rw [rounds_succ];go_wp2)
   go_ret
   exact ⟨rfl,rfl⟩
 all_goals
  rw [e,Bool.false_and]
  clear gk e
  go_enter Tryz.func114,Tryz.ntmps114
  go_wp2
  refine wp_loop_rounds 3 ?_
  rw [rounds_succ]
  go_wp2
  go_ret
  exact ⟨rfl,rfl⟩
set_option maxRecDepth 100000 in
set_option maxHeartbeats 1000000 in
theorem coarser_any (a b:Int) (w:World):Calls Tryz.prog 54 #[.int .i64 a,.int .i64 b] w fun e w'=>e = .returned (.bool (Tess.coarser a b))∧Below w.heap.size w w':=by
 unfold Tess.coarser
 have HG:=Lib.hid (fun (k:Nat) (W:World) h1 h2=>areGrains2 k a b W h1 h2)
 cases hg:grainOk a && grainOk b
 ·rw [hg] at HG
  rw [Bool.false_and]
  go_enter Tryz.func54,Tryz.ntmps54
  go_wp2_with (go_at_call 114;refine (HG.out _ _ (by simp) (by simp)).mono ?_;rintro e w3 ⟨rfl,rfl⟩;have HB3:=Lib.hid ((Below.refl w.heap.size w).alloc (Nat.le_refl _) (.cells #[.int .i64 a,.int .i64 b] 2)))
  go_ret
  exact ⟨rfl,HB3.out⟩
 ·rw [hg] at HG
  have h1:1≤a∧a≤1000000000∧1≤b∧b≤1000000000:=by
   unfold grainOk at hg;simp at hg;omega
  obtain ⟨h1,h2,h3,h4⟩:=h1
  rw [Bool.true_and]
  obtain ⟨r,hr⟩:∃ r,((b % a:Int) == 0)=r:=⟨_,rfl⟩
  have e1:decide (b % a=0)=r:=by rw [← hr];rfl
  rw [e1]
  have hb0:0≤b:=by omega
  clear e1 hg
  go_enter Tryz.func54,Tryz.ntmps54
  go_wp2_with (go_at_call 114;refine (HG.out _ _ (by simp) (by simp)).mono ?_;rintro e w3 ⟨rfl,rfl⟩;have HB3:=Lib.hid ((Below.refl w.heap.size w).alloc (Nat.le_refl _) (.cells #[.int .i64 a,.int .i64 b] 2)))
  go_ret
  exact ⟨rfl,HB3.out⟩
theorem qwithin_any (n a b:Int) (w:World):Calls Tryz.prog 100 #[.int .i64 n,.int .i64 a,.int .i64 b] w fun e w'=>e = .returned (.bool (Tess.within n a b))∧w=w':=by
 unfold Tess.within
 obtain ⟨r,hr⟩:∃ r,decide (n≤b)=r:=⟨_,rfl⟩
 by_cases h1:a≤n
 ·have d1:decide (a≤n)=true:=decide_eq_true h1
  rw [d1,hr]
  go_enter Tryz.func100,Tryz.ntmps100
  go_wp2
  go_ret
  exact ⟨rfl,rfl⟩
 ·have d1:decide (a≤n)=false:=decide_eq_false h1
  rw [d1,Bool.false_and]
  go_enter Tryz.func100,Tryz.ntmps100
  go_wp2
  go_ret
  exact ⟨rfl,rfl⟩
end Go.Proofs.YtbbgjjjeecfnoaaGreatDoor
