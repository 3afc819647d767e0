/- FilterTruths, walked: its first part. -/
import Derived.Test.YtdfnolgcdododaaDoorF31
namespace Go.Proofs.YtdfnolgcdododaaDoor
open Go.RowKit Go.Sort
open Tess (Fil)

/-- A box of three cells turned. -/
theorem box3 {w W : World} {B : Nat} {t : TypeId} {x0 x1 x2 : Value} (y0 y1 y2 : Value) (h : W.heap[B]? = some (.cells #[x0, x1, x2] t (0, 0))) (hb : Below w.heap.size w W) (hB : w.heap.size ≤ B) :
    ∃ W3, (((W.setCell ⟨B, 0, none⟩ y0).setCell ⟨B, 1, none⟩ y1).setCell ⟨B, 2, none⟩ y2) = W3 ∧ W3.heap[B]? = some (.cells #[y0, y1, y2] t (0, 0)) ∧ (∀ k, k ≠ B → W3.heap[k]? = W.heap[k]?) ∧ W3.heap.size = W.heap.size ∧ Below w.heap.size w W3 :=
  ⟨_, rfl, heap_setCell_same _ _ _ _ _ _ (heap_setCell_same _ _ _ _ _ _ (heap_setCell_same _ _ _ _ _ _ h)),
    fun k hk => ((heap_setCell_other _ _ _ _ hk).trans (heap_setCell_other _ _ _ _ hk)).trans (heap_setCell_other _ _ _ _ hk), by simp [World.setCell], ((hb.setCell hB _).setCell hB _).setCell hB _⟩
/-- A box of six cells turned. -/
theorem box6 {w W : World} {B : Nat} {t : TypeId} {x0 x1 x2 x3 x4 x5 : Value} (y0 y1 y2 y3 y4 y5 : Value) (h : W.heap[B]? = some (.cells #[x0, x1, x2, x3, x4, x5] t (0, 0))) (hb : Below w.heap.size w W) (hB : w.heap.size ≤ B) :
    ∃ W3, ((((((W.setCell ⟨B, 0, none⟩ y0).setCell ⟨B, 1, none⟩ y1).setCell ⟨B, 2, none⟩ y2).setCell ⟨B, 3, none⟩ y3).setCell ⟨B, 4, none⟩ y4).setCell ⟨B, 5, none⟩ y5) = W3 ∧ W3.heap[B]? = some (.cells #[y0, y1, y2, y3, y4, y5] t (0, 0)) ∧ (∀ k, k ≠ B → W3.heap[k]? = W.heap[k]?) ∧ W3.heap.size = W.heap.size ∧ Below w.heap.size w W3 :=
  ⟨_, rfl, set6 _ _ _ _ _ _ h, fun _ hk => set6_other _ _ _ _ _ _ hk, set6_size _ _ _ _ _ _, set6_below _ _ _ _ _ _ hb hB⟩
/-- What a load and a store of a box ask. -/
theorem can3 {W : World} {B : Nat} {t : TypeId} {x0 x1 x2 : Value} (h : W.heap[B]? = some (.cells #[x0, x1, x2] t (0, 0))) :
    (W.cell? ⟨B, 0, none⟩ = some x0 ∧ W.cell? ⟨B, 1, none⟩ = some x1 ∧ W.cell? ⟨B, 2, none⟩ = some x2) ∧ W.frozen? ⟨B, 0, none⟩ = false ∧ W.frozen? ⟨B, 1, none⟩ = false ∧ W.frozen? ⟨B, 2, none⟩ = false :=
  ⟨⟨cell_of_row _ _ 0 _ _ _ h, cell_of_row _ _ 1 _ _ _ h, cell_of_row _ _ 2 _ _ _ h⟩, frozen_of_row _ _ 0 _ _ h, frozen_of_row _ _ 1 _ _ h, frozen_of_row _ _ 2 _ _ h⟩
theorem can6 {W : World} {B : Nat} {t : TypeId} {x0 x1 x2 x3 x4 x5 : Value} (h : W.heap[B]? = some (.cells #[x0, x1, x2, x3, x4, x5] t (0, 0))) :
    (W.cell? ⟨B, 0, none⟩ = some x0 ∧ W.cell? ⟨B, 1, none⟩ = some x1 ∧ W.cell? ⟨B, 2, none⟩ = some x2 ∧ W.cell? ⟨B, 3, none⟩ = some x3 ∧ W.cell? ⟨B, 4, none⟩ = some x4 ∧ W.cell? ⟨B, 5, none⟩ = some x5) ∧
      W.frozen? ⟨B, 0, none⟩ = false ∧ W.frozen? ⟨B, 1, none⟩ = false ∧ W.frozen? ⟨B, 2, none⟩ = false ∧ W.frozen? ⟨B, 3, none⟩ = false ∧ W.frozen? ⟨B, 4, none⟩ = false ∧ W.frozen? ⟨B, 5, none⟩ = false :=
  ⟨⟨cell_of_row _ _ 0 _ _ _ h, cell_of_row _ _ 1 _ _ _ h, cell_of_row _ _ 2 _ _ _ h, cell_of_row _ _ 3 _ _ _ h, cell_of_row _ _ 4 _ _ _ h, cell_of_row _ _ 5 _ _ _ h⟩, frozen_of_row _ _ 0 _ _ h, frozen_of_row _ _ 1 _ _ h, frozen_of_row _ _ 2 _ _ h, frozen_of_row _ _ 3 _ _ h, frozen_of_row _ _ 4 _ _ h, frozen_of_row _ _ 5 _ _ h⟩
/-- The law's four boxes. -/
structure Bx (w : World) (c0 c1 c2 c3 : Array Value) (W : World) : Prop where
  k0 : W.heap[w.heap.size]? = some (.cells c0 24 (0, 0))
  k1 : W.heap[w.heap.size + 1]? = some (.cells c1 29 (0, 0))
  k2 : W.heap[w.heap.size + 1 + 1]? = some (.cells c2 29 (0, 0))
  k3 : W.heap[w.heap.size + 1 + 1 + 1]? = some (.cells c3 33 (0, 0))
  below : Below w.heap.size w W
  size : w.heap.size + 4 ≤ W.heap.size
/-- Two worlds that differ in the boxes alone. -/
def But4 (w W W' : World) : Prop := Ag (fun b => w.heap.size + 4 ≤ b) W W'
theorem Bx.later {w W W' : World} {c0 c1 c2 c3 : Array Value} (h : Bx w c0 c1 c2 c3 W) (hb : Below W.heap.size W W') : Bx w c0 c1 c2 c3 W' :=
  have := h.size
  ⟨(hb.block _ (by omega)).trans h.k0, (hb.block _ (by omega)).trans h.k1, (hb.block _ (by omega)).trans h.k2, (hb.block _ (by omega)).trans h.k3, Bt h.below hb, Nat.le_trans h.size hb.size⟩
theorem Bx.set0 {w W : World} {x0 x1 x2 : Value} {c1 c2 c3 : Array Value} (y0 y1 y2 : Value) (h : Bx w #[x0, x1, x2] c1 c2 c3 W) :
    ∃ W3, (((W.setCell ⟨w.heap.size, 0, none⟩ y0).setCell ⟨w.heap.size, 1, none⟩ y1).setCell ⟨w.heap.size, 2, none⟩ y2) = W3 ∧ Bx w #[y0, y1, y2] c1 c2 c3 W3 ∧ But4 w W W3 := by
  obtain ⟨W3, e, q0, qo, qs, qB⟩ := box3 y0 y1 y2 h.k0 h.below (Nat.le_refl _)
  exact ⟨W3, e, ⟨q0, (qo _ (by omega)).trans h.k1, (qo _ (by omega)).trans h.k2, (qo _ (by omega)).trans h.k3, qB, by rw [qs]; exact h.size⟩, by rw [qs]; exact Nat.le_refl _, fun b _ hb => qo b (by omega)⟩
theorem Bx.set1 {w W : World} {x0 x1 x2 x3 x4 x5 : Value} {c0 c2 c3 : Array Value} (y0 y1 y2 y3 y4 y5 : Value) (h : Bx w c0 #[x0, x1, x2, x3, x4, x5] c2 c3 W) :
    ∃ W3, ((((((W.setCell ⟨w.heap.size + 1, 0, none⟩ y0).setCell ⟨w.heap.size + 1, 1, none⟩ y1).setCell ⟨w.heap.size + 1, 2, none⟩ y2).setCell ⟨w.heap.size + 1, 3, none⟩ y3).setCell ⟨w.heap.size + 1, 4, none⟩ y4).setCell ⟨w.heap.size + 1, 5, none⟩ y5) = W3 ∧ Bx w c0 #[y0, y1, y2, y3, y4, y5] c2 c3 W3 ∧ But4 w W W3 := by
  obtain ⟨W3, e, q0, qo, qs, qB⟩ := box6 y0 y1 y2 y3 y4 y5 h.k1 h.below (by omega)
  exact ⟨W3, e, ⟨(qo _ (by omega)).trans h.k0, q0, (qo _ (by omega)).trans h.k2, (qo _ (by omega)).trans h.k3, qB, by rw [qs]; exact h.size⟩, by rw [qs]; exact Nat.le_refl _, fun b _ hb => qo b (by omega)⟩
theorem Bx.set2 {w W : World} {x0 x1 x2 x3 x4 x5 : Value} {c0 c1 c3 : Array Value} (y0 y1 y2 y3 y4 y5 : Value) (h : Bx w c0 c1 #[x0, x1, x2, x3, x4, x5] c3 W) :
    ∃ W3, ((((((W.setCell ⟨w.heap.size + 1 + 1, 0, none⟩ y0).setCell ⟨w.heap.size + 1 + 1, 1, none⟩ y1).setCell ⟨w.heap.size + 1 + 1, 2, none⟩ y2).setCell ⟨w.heap.size + 1 + 1, 3, none⟩ y3).setCell ⟨w.heap.size + 1 + 1, 4, none⟩ y4).setCell ⟨w.heap.size + 1 + 1, 5, none⟩ y5) = W3 ∧ Bx w c0 c1 #[y0, y1, y2, y3, y4, y5] c3 W3 ∧ But4 w W W3 := by
  obtain ⟨W3, e, q0, qo, qs, qB⟩ := box6 y0 y1 y2 y3 y4 y5 h.k2 h.below (by omega)
  exact ⟨W3, e, ⟨(qo _ (by omega)).trans h.k0, (qo _ (by omega)).trans h.k1, q0, (qo _ (by omega)).trans h.k3, qB, by rw [qs]; exact h.size⟩, by rw [qs]; exact Nat.le_refl _, fun b _ hb => qo b (by omega)⟩
theorem Bx.set3 {w W : World} {x0 x1 x2 : Value} {c0 c1 c2 : Array Value} (y0 y1 y2 : Value) (h : Bx w c0 c1 c2 #[x0, x1, x2] W) :
    ∃ W3, (((W.setCell ⟨w.heap.size + 1 + 1 + 1, 0, none⟩ y0).setCell ⟨w.heap.size + 1 + 1 + 1, 1, none⟩ y1).setCell ⟨w.heap.size + 1 + 1 + 1, 2, none⟩ y2) = W3 ∧ Bx w c0 c1 c2 #[y0, y1, y2] W3 ∧ But4 w W W3 := by
  obtain ⟨W3, e, q0, qo, qs, qB⟩ := box3 y0 y1 y2 h.k3 h.below (by omega)
  exact ⟨W3, e, ⟨(qo _ (by omega)).trans h.k0, (qo _ (by omega)).trans h.k1, (qo _ (by omega)).trans h.k2, q0, qB, by rw [qs]; exact h.size⟩, by rw [qs]; exact Nat.le_refl _, fun b _ hb => qo b (by omega)⟩
/-- A filter of two filters, laid in a block of twelve cells. -/
theorem fil_pair {q : Nat → Prop} {W : World} {b n : Nat} {t : TypeId} (k : Int) {f g : Fil} {x0 x1 x2 x3 x4 x5 y0 y1 y2 y3 y4 y5 : Value} (h : W.heap[b]? = some (.cells #[x0, x1, x2, x3, x4, x5, y0, y1, y2, y3, y4, y5] t (0, 0))) (hq : q b)
    (hf : FilAt q n W (.agg #[x0, x1, x2, x3, x4, x5]) f) (hg : FilAt q n W (.agg #[y0, y1, y2, y3, y4, y5]) g) :
    FilAt q (n + 1) W (.agg #[.int .i64 k, .string ⟨#[]⟩, .slice none 0 0, .int .i64 0, .int .i64 0, .slice (some ⟨b, 0, none⟩) 2 2]) (.mk k ByteArray.empty [] 0 0 [f, g]) := by
  refine ⟨_, _, _, rfl, Nat.zero_le _, SlP.nil _ _, (fun x hx => by cases hx), by show 2 ≤ maxLen; decide, (fun e => by cases e), fun _ => ⟨b, 0, rfl, (Array.getElem?_eq_some_iff.1 h).1, hq, fun j hj => ?_⟩⟩
  have : j = 0 ∨ j = 1 := by simp [Fil.l] at hj; omega
  rcases this with rfl | rfl
  · exact ⟨_, _, _, _, _, _, hf, cell_of_row W b 0 _ _ _ h, cell_of_row W b 1 _ _ _ h, cell_of_row W b 2 _ _ _ h, cell_of_row W b 3 _ _ _ h, cell_of_row W b 4 _ _ _ h, cell_of_row W b 5 _ _ _ h⟩
  · exact ⟨_, _, _, _, _, _, hg, cell_of_row W b 6 _ _ _ h, cell_of_row W b 7 _ _ _ h, cell_of_row W b 8 _ _ _ h, cell_of_row W b 9 _ _ _ h, cell_of_row W b 10 _ _ _ h, cell_of_row W b 11 _ _ _ h⟩
/-- A filter of one filter. -/
theorem fil_one {q : Nat → Prop} {W : World} {b n : Nat} {t : TypeId} (k : Int) {f : Fil} {x0 x1 x2 x3 x4 x5 : Value} (h : W.heap[b]? = some (.cells #[x0, x1, x2, x3, x4, x5] t (0, 0))) (hq : q b)
    (hf : FilAt q n W (.agg #[x0, x1, x2, x3, x4, x5]) f) :
    FilAt q (n + 1) W (.agg #[.int .i64 k, .string ⟨#[]⟩, .slice none 0 0, .int .i64 0, .int .i64 0, .slice (some ⟨b, 0, none⟩) 1 1]) (.mk k ByteArray.empty [] 0 0 [f]) := by
  refine ⟨_, _, _, rfl, Nat.zero_le _, SlP.nil _ _, (fun x hx => by cases hx), by show 1 ≤ maxLen; decide, (fun e => by cases e), fun _ => ⟨b, 0, rfl, (Array.getElem?_eq_some_iff.1 h).1, hq, fun j hj => ?_⟩⟩
  have : j = 0 := by simp [Fil.l] at hj; omega
  subst this
  exact ⟨_, _, _, _, _, _, hf, cell_of_row W b 0 _ _ _ h, cell_of_row W b 1 _ _ _ h, cell_of_row W b 2 _ _ _ h, cell_of_row W b 3 _ _ _ h, cell_of_row W b 4 _ _ _ h, cell_of_row W b 5 _ _ _ h⟩
theorem holdsE_ok (s : Tess.Sch) (t : Int) (d : List Tess.Val) (f : Fil) (h : Fil.checkE s f = 0) (hd : d.length = s.dims.length) : Fil.holdsE s t d f = (Fil.holds s t d f, 0) := by
  unfold Fil.holdsE; rw [if_pos h, if_pos hd]
theorem kinds_pair {k : Int} {f g : Fil} (hk : -9223372036854775808 ≤ k ∧ k ≤ 9223372036854775807) (hf : kindsOk f) (hg : kindsOk g) : kindsOk (.mk k ByteArray.empty [] 0 0 [f, g]) := by
  unfold kindsOk at *
  rw [Fil.allP_eq, Bool.and_eq_true]
  exact ⟨by simp [Fil.kind, hk.1, hk.2], by simp [Fil.l, hf, hg]⟩
theorem kinds_one {k : Int} {f : Fil} (hk : -9223372036854775808 ≤ k ∧ k ≤ 9223372036854775807) (hf : kindsOk f) : kindsOk (.mk k ByteArray.empty [] 0 0 [f]) := by
  unfold kindsOk at *
  rw [Fil.allP_eq, Bool.and_eq_true]
  exact ⟨by simp [Fil.kind, hk.1, hk.2], by simp [Fil.l, hf]⟩
end Go.Proofs.YtdfnolgcdododaaDoor
