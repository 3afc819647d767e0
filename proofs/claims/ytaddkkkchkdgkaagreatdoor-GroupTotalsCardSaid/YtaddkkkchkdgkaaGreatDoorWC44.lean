/- A query's sets: walked. -/
import Derived.Test.YtaddkkkchkdgkaaGreatDoorWC43
import Derived.Test.YtaddkkkchkdgkaaGreatDoorWC41
import Derived.Maps.OwnIn
namespace Go.Proofs.YtaddkkkchkdgkaaGreatDoor
open Go.RowKit Go.Sort Go.Shelf
open Tess (Fil Que)
attribute [local go_sem] Oper.semAt_some
def natV (l:List Nat):List Value:=l.map fun k => .int .i64 ((k:Nat):Int)
structure St (w:World) (L:Nat) (qc lc:Array Value) (ov:Value) (ns:List Nat) (W:World):Prop where
 kQ:W.heap[w.heap.size + 1]? = some (.cells qc 35 (0,0))
 kL:W.heap[L]? = some (.cells lc 108 (0,0))
 kO:W.heap[L + 1]? = some (.cells #[ov] 65 (0,0))
 own:W.ownsRow (L + 2) 3 1 ov ns.length (natV ns)
 below:Below w.heap.size w W
 hL:w.heap.size + 2≤L
 size:L + 2≤W.heap.size
section
variable {w W W':World} {L:Nat} {qc lc:Array Value} {ov ov':Value} {ns ns':List Nat}
theorem St.later (h:St w L qc lc ov ns W) (hb:Below W.heap.size W W'):St w L qc lc ov ns W':=
 have h1:=h.size;have h2:=h.hL
 ⟨(hb.block _ (by omega)).trans h.kQ,(hb.block _ (by omega)).trans h.kL,(hb.block _ (by omega)).trans h.kO,owns_below h.own hb,Bt h.below hb,h.hL,Nat.le_trans h.size hb.size⟩
theorem St.but {l:Nat} (h:St w L qc lc ov ns W) (hs:Rf.SameBut l W W') (hl:L + 2≤l) {o:Obj} (ho:W.heap[l]? = some o) (hc:o.isCells=false):St w L qc lc ov ns W':=
 have h2:=h.hL
 ⟨(hs.block _ (by omega)).trans h.kQ,(hs.block _ (by omega)).trans h.kL,(hs.block _ (by omega)).trans h.kO,hs.owns h.own ho hc,h.below.trans (hs.below (by omega)),h.hL,by rw [hs.size];exact h.size⟩
theorem St.block (h:St w L qc lc ov ns W) {o:Obj} (hg:(W.alloc o).grownBy W' ov.ownBlock) {k:Nat} (hk:k < L + 2):W'.heap[k]? = W.heap[k]? := by
 have hs:=h.size
 exact (hg.block k (by simp;omega) (fun e=>by have:=(h.own.lt k e.symm).1;omega)).trans (Below.heap_alloc _ _ _ (by omega))
theorem St.append (h:St w L qc lc ov ns W) {o:Obj} (hg:(W.alloc o).grownBy W' ov.ownBlock) (hown:W'.ownsRow (L + 2) 3 1 ov' ns'.length (natV ns')):St w L qc lc ov' ns' (W'.setCell ⟨L + 1,0,none⟩ ov'):=by
 have hs:=h.size
 have h2:=h.hL
 have hb:Below w.heap.size w W':=(h.below.alloc h.below.size _).grown hg (by simp;omega) (fun k e=>by have:=(h.own.lt k e).1;omega)
 exact ⟨(heap_setCell_other _ _ _ _ (by show _≠L + 1;omega)).trans ((h.block hg (by omega)).trans h.kQ),(heap_setCell_other _ _ _ _ (by show _≠L + 1;omega)).trans ((h.block hg (by omega)).trans h.kL),heap_setCell_same _ _ _ _ _ _ ((h.block hg (by omega)).trans h.kO),
  ownsRow_setCell_below hown (by show L + 1 < _;omega) _,hb.setCell (by show _≤L + 1;omega) _,h.hL,by have:=hg.size;simp [World.setCell] at *;omega⟩
end
theorem SetsAt.lt {p:Nat→Prop} {w:World} {v:Value} {l:List (List ByteArray)} (h:SetsAt p w v l):SetsAt (fun b=>p b∧b < w.heap.size) w v l:=by
 obtain ⟨a,cap,hv,h1,h2,h3,h4⟩:=h
 refine ⟨a,cap,hv,h1,h2,h3,fun hl => ?_⟩
 obtain ⟨b,off,ha,hb,hp,hc⟩:=h4 hl
 refine ⟨b,off,ha,hb,⟨hp,hb⟩,fun j hj => ?_⟩
 obtain ⟨c,e1,e2,e3⟩:=hc j hj
 exact ⟨c,e1,e2.lt,e3⟩
end Go.Proofs.YtaddkkkchkdgkaaGreatDoor
