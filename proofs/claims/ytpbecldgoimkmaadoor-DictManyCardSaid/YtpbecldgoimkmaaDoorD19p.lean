/- A dictionary's bytes: plain. -/
import Derived.Test.YtpbecldgoimkmaaDoorD18
import Derived.Test.YtpbecldgoimkmaaDoorD14
namespace Tess
def lastOf (l : List ByteArray) (k : Nat) : ByteArray := if k = 0 then w0 else l.getD (k - 1) w0
/-- A word behind another one. -/
def one (a y : ByteArray) : List UInt8 := putL (shared a y) ++ putL (y.size - shared a y) ++ y.data.toList.drop (shared a y)
def encTo (l : List ByteArray) : Nat → List UInt8
  | 0 => []
  | k + 1 => encTo l k ++ one (lastOf l k) (l.getD k w0)
def encL (l : List ByteArray) : List UInt8 := putL l.length ++ encTo l l.length
def encW (l : List ByteArray) : ByteArray × Nat := if right l then (⟨(encL l).toArray⟩, 0) else (⟨#[]⟩, 50)
theorem lastOf_succ (l : List ByteArray) (k : Nat) : lastOf l (k + 1) = l.getD k w0 := by unfold lastOf; simp
theorem right_size (l : List ByteArray) (h : right l = true) (i : Nat) (hi : i < l.length) : (l.getD i w0).size ≤ 100 := by
  unfold right rightTo at h
  rw [Bool.and_eq_true, List.all_eq_true] at h
  have := h.1 i (List.mem_range.2 hi)
  unfold fits at this
  rw [Bool.and_eq_true] at this
  exact of_decide_eq_true this.1
theorem lastOf_size (l : List ByteArray) (h : right l = true) (k : Nat) (hk : k ≤ l.length) : (lastOf l k).size ≤ 100 := by
  unfold lastOf
  split
  · exact Nat.zero_le _
  · exact right_size l h _ (by omega)
theorem one_len (a y : ByteArray) (h : y.size ≤ 100) : (one a y).length ≤ 120 := by
  unfold one
  have h1 := (shared_le a y).2
  have h2 := putL_len (shared a y) 9 (by omega)
  have h3 := putL_len (y.size - shared a y) 9 (by omega)
  simp only [List.length_append, List.length_drop, Array.length_toList]
  have : y.data.size = y.size := rfl
  omega
theorem encTo_len (l : List ByteArray) (h : right l = true) (k : Nat) (hk : k ≤ l.length) : (encTo l k).length ≤ 120 * k := by
  induction k with
  | zero => exact Nat.zero_le _
  | succ k ih =>
    have h1 := ih (by omega)
    have h2 := one_len (lastOf l k) (l.getD k w0) (right_size l h k (by omega))
    show (encTo l k ++ one (lastOf l k) (l.getD k w0)).length ≤ _
    rw [List.length_append]
    omega
/-- The text that is written for one word. -/
def oneW (a y : ByteArray) : ByteArray := (putW (shared a y) ++ putW (y.size - shared a y)) ++ y.extract (shared a y) y.size
theorem oneW_list (a y : ByteArray) : (oneW a y).data.toList = one a y := by
  unfold oneW one putW
  simp [List.extract_eq_take_drop]
  exact List.take_of_length_le (by simp)
end Tess
namespace Go.Proofs.YtpbecldgoimkmaaDoor
open Go.RowKit Go.Sort Go.Shelf
theorem builder_below {B b : Nat} {bs : List Value} {w w' : World} (h : Lib.IsBuilder 48 5 B b bs w) (hb : Below w.heap.size w w') : Lib.IsBuilder 48 5 B b bs w' := by
  have key : ∀ p, Lib.BuilderAt 48 5 B b p bs w → Lib.BuilderAt 48 5 B b p bs w' := fun p ⟨h1, v, h2, h3, h4⟩ =>
    ⟨h1, v, (hb.block _ (Array.getElem?_eq_some_iff.1 h2).1).trans h2, owns_below h3 hb, h4⟩
  exact h.imp (key _) (key _)
theorem strCells_eq (s : ByteArray) : Lib.strCells s = Lib.byteCells s.data.toList := by
  unfold Lib.strCells Lib.byteCells
  first | rfl | simp
end Go.Proofs.YtpbecldgoimkmaaDoor
