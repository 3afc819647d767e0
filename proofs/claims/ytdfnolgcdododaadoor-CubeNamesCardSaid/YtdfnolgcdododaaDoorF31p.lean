/- Not, and, or: plain. -/
import Derived.Test.YtdfnolgcdododaaDoorF1p
namespace Tess.Fil
def fAnd (f g : Fil) : Fil := .mk 8 ByteArray.empty [] 0 0 [f, g]
def fOr (f g : Fil) : Fil := .mk 9 ByteArray.empty [] 0 0 [f, g]
def fNot (f : Fil) : Fil := .mk 7 ByteArray.empty [] 0 0 [f]
theorem check0 (s : Sch) (f : Fil) : checkE s f = 0 ↔ schOk s = true ∧ f.count ≤ 40 ∧ f.deep ≤ 6 ∧ allP (own s) f = true ∧ allP (fun x => !badGrain s x) f = true := by
  rw [checkE_eq]
  cases schOk s <;> cases allP (own s) f <;> cases allP (fun x => !badGrain s x) f <;> simp
  split <;> simp
theorem own_and (s : Sch) (f g : Fil) : own s (fAnd f g) = own s (fOr f g) := by
  unfold own fAnd fOr
  simp [form, kind, name, words, frm, to, l]
theorem bad_op (s : Sch) (k : Int) (h : k ≠ 6) (q : List Fil) : badGrain s (.mk k ByteArray.empty [] 0 0 q) = false := by
  unfold badGrain; simp [kind, h]
theorem truths (s : Sch) (f g : Fil) (h : checkE s (fNot (fOr f g)) = 0) : checkE s f = 0 ∧ checkE s g = 0 ∧ checkE s (fAnd f g) = 0 ∧ checkE s (fOr f g) = 0 := by
  simp only [check0] at *
  obtain ⟨h1, h2, h3, h4, h5⟩ := h
  have o := own_and s f g
  have b8 := bad_op s 8 (by decide) [f, g]
  have b9 := bad_op s 9 (by decide) [f, g]
  simp only [fNot, fOr, fAnd, count, countL, deep, deepL, allP, allPL, Bool.and_eq_true, Bool.and_true] at *
  obtain ⟨_, ⟨h41, h42, h43⟩⟩ := h4
  obtain ⟨_, ⟨h51, h52, h53⟩⟩ := h5
  refine ⟨⟨h1, by omega, by omega, h42, h52⟩, ⟨h1, by omega, by omega, h43, h53⟩, ⟨h1, by omega, by omega, ⟨o ▸ h41, h42, h43⟩, ⟨by rw [b8]; rfl, h52, h53⟩⟩, ⟨h1, by omega, by omega, ⟨h41, h42, h43⟩, ⟨h51, h52, h53⟩⟩⟩
theorem holds_and (s : Sch) (t : Int) (dims : List Val) (f g : Fil) : holds s t dims (fAnd f g) = (holds s t dims f && holds s t dims g) := by
  rw [holds_eq]; simp [holdsW, fAnd, kind, l]
theorem holds_or (s : Sch) (t : Int) (dims : List Val) (f g : Fil) : holds s t dims (fOr f g) = (holds s t dims f || holds s t dims g) := by
  rw [holds_eq]; simp [holdsW, fOr, kind, l]
theorem holds_not (s : Sch) (t : Int) (dims : List Val) (f : Fil) : holds s t dims (fNot f) = !holds s t dims f := by
  rw [holds_eq]; simp [holdsW, fNot, kind, l]
end Tess.Fil
