/- The order of words; no program in sight. -/
import Derived.Test.YtdfnolgcdododaaDoorB
namespace Tess
open Go
/-- Does a word stand ahead of another one? -/
def bl (a b : ByteArray) : Bool := Op.bytesLess a.toList b.toList
theorem bless_at (x y : List UInt8) : ∀ (k : Nat) (h1 : k < x.length) (h2 : k < y.length), x.take k = y.take k → x[k] ≠ y[k] → Op.bytesLess x y = decide (x[k] < y[k]) := by
  induction x generalizing y with
  | nil => intro k h1; simp at h1
  | cons a x ih =>
    intro k h1 h2 ht hne
    cases y with
    | nil => simp at h2
    | cons b y =>
      cases k with
      | zero =>
        simp only [List.getElem_cons_zero] at hne ⊢
        have e : (a == b) = false := by simpa using hne
        simp [Op.bytesLess, hne]
      | succ k =>
        rw [List.take_succ_cons, List.take_succ_cons] at ht
        obtain ⟨rfl, ht'⟩ := List.cons.inj ht
        simp only [List.getElem_cons_succ] at hne ⊢
        rw [← ih y k (by simpa using h1) (by simpa using h2) ht' hne]
        simp [Op.bytesLess]
theorem bless_end (x y : List UInt8) : ∀ (k : Nat), k ≤ x.length → k ≤ y.length → x.take k = y.take k → (k = x.length ∨ k = y.length) → Op.bytesLess x y = decide (x.length < y.length) := by
  induction x generalizing y with
  | nil => intro k h1 h2 _ _; cases y <;> simp [Op.bytesLess]
  | cons a x ih =>
    intro k h1 h2 ht hk
    cases y with
    | nil => simp [Op.bytesLess]
    | cons b y =>
      cases k with
      | zero => rcases hk with hk | hk <;> simp at hk
      | succ k =>
        rw [List.take_succ_cons, List.take_succ_cons] at ht
        obtain ⟨rfl, ht'⟩ := List.cons.inj ht
        have := ih y k (by simpa using h1) (by simpa using h2) ht' (by simpa using hk)
        simp [Op.bytesLess, this]
theorem tl (a : ByteArray) : a.toList = a.data.toList := ByteArray.toList_eq a
theorem bl_at (a b : ByteArray) (k : Nat) (h1 : k < a.size) (h2 : k < b.size) (ht : a.data.toList.take k = b.data.toList.take k) (hne : a[k] ≠ b[k]) : bl a b = decide (a[k].toNat < b[k].toNat) := by
  unfold bl
  rw [tl, tl, bless_at _ _ k (by simpa using h1) (by simpa using h2) ht (fun e => hne (show a.data[k] = b.data[k] by simpa using e))]
  simp only [UInt8.lt_iff_toNat_lt]; rfl
theorem bl_end (a b : ByteArray) (k : Nat) (h1 : k ≤ a.size) (h2 : k ≤ b.size) (ht : a.data.toList.take k = b.data.toList.take k) (hk : k = a.size ∨ k = b.size) : bl a b = decide (a.size < b.size) := by
  unfold bl
  rw [tl, tl, bless_end _ _ k (by simpa using h1) (by simpa using h2) ht (by simpa using hk)]
  simp
theorem take_more (a b : ByteArray) (k : Nat) (h1 : k < a.size) (h2 : k < b.size) (ht : a.data.toList.take k = b.data.toList.take k) (he : a[k] = b[k]) : a.data.toList.take (k + 1) = b.data.toList.take (k + 1) := by
  rw [List.take_succ_eq_append_getElem (by simpa using h1), List.take_succ_eq_append_getElem (by simpa using h2), ht]
  congr 2
end Tess
