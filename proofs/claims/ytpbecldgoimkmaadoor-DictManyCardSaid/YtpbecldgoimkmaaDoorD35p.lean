/- What is built is right; who stands in a range: plain. -/
import Derived.Test.YtpbecldgoimkmaaDoorD34p
namespace Tess
open Go
theorem right_of (l : List ByteArray) (h1 : l.length ≤ 1000) (h2 : ∀ y ∈ l, y.size ≤ 100) (h3 : Asc l) : right l = true := by
  rw [right_parts, Bool.and_eq_true, Bool.and_eq_true]
  refine ⟨⟨decide_eq_true h1, ?_⟩, ?_⟩
  · rw [Bool.not_eq_true', List.any_eq_false]
    intro y hy
    have := h2 y hy
    unfold isLong
    simp; omega
  · unfold chainTo
    rw [List.all_eq_true]
    intro i hi
    have hi' := List.mem_range.1 hi
    unfold ord
    rcases Nat.eq_zero_or_pos i with rfl | h0
    · rfl
    · rw [h3 (i - 1) i (by omega) hi', Bool.or_true]
theorem buildW_two (l : List ByteArray) : ((buildW l).2 = 0 ∧ (buildW l).1 = sortW l ∧ (∀ y ∈ l, y.size ≤ 100) ∧ (sortW l).length ≤ 1000) ∨ ((buildW l).2 = 50 ∧ (buildW l).1 = []) := by
  unfold buildW
  rw [built_sort]
  split
  · exact .inr ⟨rfl, rfl⟩
  · rename_i h
    split
    · exact .inr ⟨rfl, rfl⟩
    · rename_i h1
      refine .inl ⟨rfl, rfl, fun y hy => ?_, by omega⟩
      have h2 : l.any isLong = false := by simpa using h
      have := List.any_eq_false.1 h2 y hy
      unfold isLong at this
      simpa using this
theorem buildW_right (l : List ByteArray) (h : (buildW l).2 = 0) : right (buildW l).1 = true := by
  rcases buildW_two l with ⟨_, h2, h3, h4⟩ | ⟨h2, _⟩
  · rw [h2]
    exact right_of _ h4 (fun y hy => h3 y ((sortW_all l y).1 hy)) (up_asc (sortW_up l))
  · rw [h2] at h; cases h
theorem upTo_facts (f : ByteArray → Bool) (l : List ByteArray) (a : Nat) (ha : a ≤ l.length) : a ≤ upTo f l a ∧ upTo f l a ≤ l.length ∧ (∀ j, a ≤ j → j < upTo f l a → f (l.getD j w0) = true) ∧ (upTo f l a < l.length → f (l.getD (upTo f l a) w0) = false) := by
  have hs := findIdx_spec (fun y => !f y) (l.drop a)
  have hle : (l.drop a).findIdx (fun y => !f y) ≤ (l.drop a).length := List.findIdx_le_length
  have hg : ∀ j, (l.drop a).getD j w0 = l.getD (a + j) w0 := fun j => by simp [List.getD, List.getElem?_drop]
  have hlen : (l.drop a).length = l.length - a := List.length_drop ..
  unfold upTo
  generalize (l.drop a).findIdx (fun y => !f y) = n at *
  refine ⟨by omega, by omega, fun j h1 h2 => ?_, fun h => ?_⟩
  · have := hs.1 (j - a) (by omega)
    rw [hg, show a + (j - a) = j by omega] at this
    simpa using this
  · have := hs.2 (by omega)
    rw [hg] at this
    simpa using this
theorem between_in (d : List ByteArray) (hr : right d = true) (x y : ByteArray) : ∃ a b : Nat, betweenW d x y = (a, b) ∧ a ≤ b ∧ b ≤ d.length ∧ (∀ i, i < a → bl (d.getD i w0) x = true) ∧
    (∀ i, a ≤ i → i < b → bl (d.getD i w0) x = false ∧ bl y (d.getD i w0) = false) ∧ (∀ i, b ≤ i → i < d.length → bl (d.getD i w0) x = false ∧ bl y (d.getD i w0) = true) := by
  have ha := right_asc d hr
  have hp := place_spec d x
  have hle := place_le d x
  obtain ⟨u1, u2, u3, u4⟩ := upTo_facts (nb y) d (place d x) hle
  refine ⟨place d x, upTo (nb y) d (place d x), by unfold betweenW; rw [if_pos hr], u1, u2, hp.1, fun i h1 h2 => ⟨?_, ?_⟩, fun i h1 h2 => ⟨?_, ?_⟩⟩
  · exact asc_behind ha h1 (by omega) (hp.2 (by omega))
  · have := u3 i h1 h2
    unfold nb at this
    simpa using this
  · exact asc_behind ha (by omega) h2 (hp.2 (by omega))
  · have hb := u4 (by omega)
    have hb' : bl y (d.getD (upTo (nb y) d (place d x)) w0) = true := by
      generalize d.getD (upTo (nb y) d (place d x)) w0 = z at hb
      unfold nb at hb
      simpa using hb
    rcases Nat.lt_or_ge (upTo (nb y) d (place d x)) i with hlt | hge
    · exact bl_trans hb' (ha _ _ hlt h2)
    · rwa [show i = upTo (nb y) d (place d x) by omega]
end Tess
