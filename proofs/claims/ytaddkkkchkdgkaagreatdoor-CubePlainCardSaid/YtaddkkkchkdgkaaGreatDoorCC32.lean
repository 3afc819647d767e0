/- Joined by mergeK.py: K51, K52 -/
import Derived.Test.YtaddkkkchkdgkaaGreatDoorCC31
namespace Go.Proofs.YtaddkkkchkdgkaaGreatDoor
open Go.RowKit Go.Sort
theorem as_below (b:Nat) (T:TypeId) (c:Int) (old:Value) (w:World) {N:Nat} (hN:N≤b) (hNw:N≤w.heap.size) (hg:w.cell? ⟨0,0,none⟩=some (.iface 229 (.agg #[.pointer (some ⟨14,89,none⟩)]))) (hb:w.heap[b]? = some (.cells #[old] T (0,0))) :
  Calls Tryz.prog 70 #[.iface 143 (.agg #[.int .i64 c]),.iface 145 (.pointer (some ⟨b,0,none⟩))] w fun ev w'=>ev = .returned (.bool true)∧w'.heap[b]? = some (.cells #[.int .i64 c] T (0,0))∧Below N w w':=by
 refine (as_hitG ⟨b,0,none⟩ c old w hg (cell_of_row _ _ 0 _ _ _ hb) (frozen_of_row _ _ 0 _ _ hb)).mono ?_
 rintro e w' ⟨h1,rfl⟩
 have Aa:b < w.heap.size:=(Array.getElem?_eq_some_iff.1 hb).1
 refine ⟨h1,?_,?_⟩
 ·refine heap_setCell_same _ b 0 #[old] T _ ?_
  rw [heap_alloc_old _ _ (by simp;omega),heap_alloc_old _ _ (by simp;omega),heap_alloc_old _ _ (by simp;omega),heap_alloc_old _ _ Aa]
  exact hb
 ·exact (((((Below.refl N w).alloc hNw _).alloc (by simp;omega) _).alloc (by simp;omega) _).alloc (by simp;omega) _).setCell hN _
theorem toldG_nil (w:World):Calls Tryz.prog 35 #[.nilIface] w fun e w'=>e = .returned (.int .i64 0)∧Below w.heap.size w w':=by
 have HA:=Hd (fun t W=>as_nilG t W)
 have HB:=Hd ((Below.refl w.heap.size w).alloc (Nat.le_refl _) (.cells #[.int .i64 0] 143))
 go_enter Tryz.func35,Tryz.ntmps35
 go_wp2_with (fail)
 go_at_call 70
 refine (HA.out _ _).mono ?_
 rintro e w2 ⟨rfl,rfl⟩
 go_wp2
 go_ret
 exact ⟨rfl,HB.out⟩
set_option maxRecDepth 100000 in
set_option maxHeartbeats 4000000 in
theorem toldG_any (c:Int) (w:World) (hg:w.cell? ⟨0,0,none⟩=some (.iface 229 (.agg #[.pointer (some ⟨14,89,none⟩)]))) :
  Calls Tryz.prog 35 #[.iface 143 (.agg #[.int .i64 c])] w fun e w'=>e = .returned (.int .i64 c)∧Below w.heap.size w w':=by
 obtain ⟨W0,Ac⟩:∃ W0,w.alloc (.cells #[.int .i64 0] 143)=W0:=⟨_,rfl⟩
 obtain ⟨k0,kS,kB⟩:=la2 w (.cells #[.int .i64 0] 143)
 rw [Ac] at k0 kS kB
 have Ab:0 < w.heap.size:=World.block_lt_of_cell? _ _ hg
 have HA:=Hd (as_below w.heap.size 143 c (.int .i64 0) W0 (Nat.le_refl _) (by omega) ((kB.cell (p:=⟨0,0,none⟩) Ab).trans hg) k0)
 have HB:=Hd kB
 clear k0 kS kB hg Ab
 go_enter Tryz.func35,Tryz.ntmps35
 go_wp2_with (fail)
 go_at_call 70
 refine HA.out.mono ?_
 rintro e w2 ⟨rfl,h2,Aa⟩
 have Ad:=Hd (HB.out.trans Aa)
 have c2:=cell_of_row _ _ 0 _ _ _ h2
 clear Aa h2
 go_wp2_with (fail)
 go_ret
 exact ⟨rfl,Ad.out⟩
end Go.Proofs.YtaddkkkchkdgkaaGreatDoor
namespace Go.Proofs.YtaddkkkchkdgkaaGreatDoor
open Go.RowKit Go.Sort Go.Shelf
open Tess (CK Pay PO CO)
theorem ca3 {W:World} {B:Nat} {t:TypeId} {x0 x1 x2 x3 x4 x5 x6 x7 x8 x9 xa xb xc xd s0 s1 s2 e f:Value} (h:W.heap[B]? = some (.cells #[x0,x1,x2,x3,x4,x5,x6,x7,x8,x9,xa,xb,xc,xd,s0,s1,s2,e,f] t (0,0))) :
  (W.cell? ⟨B,0,none⟩=some x0∧W.cell? ⟨B,1,none⟩=some x1∧W.cell? ⟨B,2,none⟩=some x2∧W.cell? ⟨B,3,none⟩=some x3∧W.cell? ⟨B,4,none⟩=some x4∧W.cell? ⟨B,5,none⟩=some x5∧W.cell? ⟨B,6,none⟩=some x6∧W.cell? ⟨B,7,none⟩=some x7∧W.cell? ⟨B,8,none⟩=some x8∧W.cell? ⟨B,9,none⟩=some x9∧W.cell? ⟨B,10,none⟩=some xa∧W.cell? ⟨B,11,none⟩=some xb∧W.cell? ⟨B,12,none⟩=some xc∧W.cell? ⟨B,13,none⟩=some xd) ∧
  (W.cell? ⟨B,14,none⟩=some s0∧W.cell? ⟨B,15,none⟩=some s1∧W.cell? ⟨B,16,none⟩=some s2)∧W.cell? ⟨B,17,none⟩=some e∧W.cell? ⟨B,18,none⟩=some f:=
 ⟨⟨cell_of_row _ _ 0 _ _ _ h,cell_of_row _ _ 1 _ _ _ h,cell_of_row _ _ 2 _ _ _ h,cell_of_row _ _ 3 _ _ _ h,cell_of_row _ _ 4 _ _ _ h,cell_of_row _ _ 5 _ _ _ h,cell_of_row _ _ 6 _ _ _ h,cell_of_row _ _ 7 _ _ _ h,cell_of_row _ _ 8 _ _ _ h,cell_of_row _ _ 9 _ _ _ h,cell_of_row _ _ 10 _ _ _ h,cell_of_row _ _ 11 _ _ _ h,cell_of_row _ _ 12 _ _ _ h,cell_of_row _ _ 13 _ _ _ h⟩,
  ⟨cell_of_row _ _ 14 _ _ _ h,cell_of_row _ _ 15 _ _ _ h,cell_of_row _ _ 16 _ _ _ h⟩,cell_of_row _ _ 17 _ _ _ h,cell_of_row _ _ 18 _ _ _ h⟩
set_option maxRecDepth 100000 in
set_option maxHeartbeats 4000000 in
theorem fold1_any (bp:Nat) (p:Nat→Prop) (s0 s1 s2 va:Value) (s:Tess.Sch) (C:List (CK×Pay)) (W:World) (h0:W.cell? ⟨bp,14,none⟩=some s0) (h1:W.cell? ⟨bp,15,none⟩=some s1) (h2:W.cell? ⟨bp,16,none⟩=some s2) (hs:SA p W (.agg #[s0,s1,s2]) s) (hc:CA3 p W va C) (hok:CO s C) :
  Calls Tryz.prog 63 #[va,.pointer (some ⟨bp,0,none⟩)] W fun e w'=>e = .returned (.bool false)∧Below W.heap.size W w':=by
 have HR:=Hd (right_any p _ va s C W hs hc hok)
 obtain ⟨vd,vm,hv,_⟩:=hs
 clear hc hok
 go_enter Tryz.func63,Tryz.ntmps63
 go_wp2_with (fail)
 go_at_call 64
 refine HR.out.mono ?_
 rintro e w2 ⟨rfl,Aa⟩
 have Ab:=Hd Aa
 clear Aa
 go_wp2
 go_ret
 exact ⟨rfl,Ab.out⟩
def prtList (cb:Nat) (n:Nat) (a:Option Addr) (w:World):Prop:=
 ∀ k,k < n→∃ b off,a=some ⟨b,off,none⟩∧b < w.heap.size∧∃ c0,w.cell? ⟨b,off + k,none⟩=some c0 ∧
   ∀ W,Below w.heap.size w W→Calls Tryz.prog 63 #[c0,.pointer (some ⟨cb,0,none⟩)] W fun e w'=>e = .returned (.bool false)∧Below W.heap.size W w'
set_option maxHeartbeats 1000000 in
theorem index_prt (cb:Nat) (n:Nat) (a:Option Addr) (cap:Nat) (w:World) (hlen:n≤maxLen) (hc:prtList cb n a w) :
  Calls Tryz.prog 101 #[.slice a n cap,.func (.func 63) #[] #[.pointer (some ⟨cb,0,none⟩)]] w fun e w'=>e = .returned (.int .i64 (-1))∧Below w.heap.size w w':=by
 have HC:=Hd hc
 have Af:n≤9223372036854775807:=by unfold maxLen at hlen;omega
 clear hc hlen
 go_enter Tryz.func101,Tryz.ntmps101
 go_wp2
 go_loopw [8] (fun i wr => ∃ k:Nat,k≤n∧i = .int .i64 k∧Below w.heap.size w wr) (fun i _=>n - (intOf i).toNat)
 case atStart=>exact ⟨0,Nat.zero_le _,rfl,Below.refl _ _⟩
 case round=>
  obtain ⟨k,hk,rfl,hB⟩:=hrel
  have HB:=Hd hB
  clear hB
  by_cases hlt:k < n
  ·obtain ⟨b,Ab,rfl,hb,c0,g0,Aa⟩:=HC.out k hlt
   have e0:wr.cell? ⟨b,Ab + k,none⟩=some c0:=(HB.out.cell (p:=⟨b,Ab + k,none⟩) hb).trans g0
   have HX:=Hd Aa
   clear g0 Aa
   have Ae:(k:Int) < (n:Int):=by omega
   go_wp2_with (go_at_call 63;refine (HX.out _ HB.out).mono ?_;rintro e w2 ⟨rfl,Ac⟩;have Ad:=Hd Ac;clear Ac)
   go_roundw
   case rel=>exact ⟨k + 1,by omega,by go_num,Bt HB.out Ad.out⟩
   case measure=>simp [intOf];omega
  ·have Ae:¬ (k:Int) < (n:Int):=by omega
   go_wp2
   go_ret
   exact ⟨rfl,HB.out⟩
theorem contains_prt (cb:Nat) (n:Nat) (a:Option Addr) (cap:Nat) (w:World) (hlen:n≤maxLen) (hc:prtList cb n a w) :
  Calls Tryz.prog 65 #[.slice a n cap,.func (.func 63) #[] #[.pointer (some ⟨cb,0,none⟩)]] w fun e w'=>e = .returned (.bool false)∧Below w.heap.size w w':=by
 have HI:=Hd (index_prt cb n a cap w hlen hc)
 clear hc
 go_enter Tryz.func65,Tryz.ntmps65
 go_wp2_with (go_at_call 101;refine HI.out.mono ?_;rintro e w2 ⟨rfl,hB⟩;have HB:=Hd hB;clear hB)
 go_ret
 exact ⟨rfl,HB.out⟩
end Go.Proofs.YtaddkkkchkdgkaaGreatDoor
