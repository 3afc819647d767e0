/- Words held against the one ahead: plain; the program's pairs. -/
import Derived.Test.YtpbecldgoimkmaaDoorD8
namespace Tess
def ord (l : List ByteArray) (i : Nat) : Bool := i == 0 || bl (l.getD (i - 1) w0) (l.getD i w0)
def chainTo (l : List ByteArray) (k : Nat) : Bool := (List.range k).all (ord l)
theorem chainTo_succ (l : List ByteArray) (k : Nat) (h : chainTo l k = true) (hf : ord l k = true) : chainTo l (k + 1) = true := by
  unfold chainTo at *
  rw [List.range_succ, List.all_append, h]; simp [hf]
theorem chainTo_not (l : List ByteArray) (k : Nat) (hk : k < l.length) (hf : ord l k = false) : chainTo l l.length = false := by
  unfold chainTo
  rw [List.all_eq_false]
  exact ⟨k, List.mem_range.2 hk, by simp [hf]⟩
theorem any_long (l : List ByteArray) : (!l.any isLong) = (List.range l.length).all fun i => decide ((l.getD i w0).size ≤ 100) := by
  rw [Bool.eq_iff_iff]
  simp only [Bool.not_eq_true', List.any_eq_false, List.all_eq_true, List.mem_range, isLong, decide_eq_true_eq]
  constructor
  · intro h i hi
    have := h l[i] (List.getElem_mem hi)
    rw [getD_lt l i hi]; omega
  · intro h y hy
    obtain ⟨i, hi, rfl⟩ := List.getElem_of_mem hy
    have := h i hi
    rw [getD_lt l i hi] at this; omega
theorem all_and {α : Type} (l : List α) (p q : α → Bool) : (l.all fun x => p x && q x) = (l.all p && l.all q) := by
  induction l with
  | nil => rfl
  | cons a l ih => simp only [List.all_cons, ih]; cases p a <;> cases q a <;> simp
theorem right_parts (l : List ByteArray) : right l = ((decide (l.length ≤ 1000) && !l.any isLong) && chainTo l l.length) := by
  unfold right rightTo chainTo
  rw [any_long, show (fits l) = fun i => decide ((l.getD i w0).size ≤ 100) && ord l i from rfl, all_and]
  cases decide (l.length ≤ 1000) <;> simp
theorem chain_end (l : List ByteArray) (k : Nat) (h : chainTo l k = true) (hk : k ≤ max 1 l.length) (hn : ¬ k < l.length) : chainTo l l.length = true := by
  by_cases e : l.length = 0
  · rw [e]; rfl
  · have : k = l.length := by omega
    rw [← this]; exact h
end Tess
namespace Go.Proofs.YtpbecldgoimkmaaDoor
open Go.RowKit Go.Sort

theorem pairs_any (a : Option Addr) (n cap : Nat) (w : World) :
    Calls Tryd.prog 52 #[.slice a n cap] w fun e w' => e = .returned (.func (.func 66) #[] #[.pointer (some ⟨w.heap.size, 0, none⟩)]) ∧ w.alloc (.cells #[.slice a n cap] 22) = w' := by
  go_enter Tryd.func52, Tryd.ntmps52
  go_wp2
  go_ret
  exact ⟨rfl, rfl⟩
end Go.Proofs.YtpbecldgoimkmaaDoor
