/- What is joined is parted again; no program in sight. -/
import Derived.Test.YtnaljebiefmlcaaFrP4
import Derived.Test.YtnaljebiefmlcaaFrP2
namespace Tess
theorem joinL_from (l : List ByteArray) : ∀ o : ByteArray, l.foldl (fun o s => o ++ mkf s) o = o ++ joinL l := by
  induction l with
  | nil => intro o; exact (ByteArray.append_empty).symm
  | cons s l ih =>
    intro o
    have e : joinL (s :: l) = (⟨#[]⟩ ++ mkf s) ++ joinL l := ih _
    rw [List.foldl_cons, ih, e, show (⟨#[]⟩ : ByteArray) ++ mkf s = mkf s from ByteArray.empty_append, ByteArray.append_assoc]
theorem joinL_cons (s : ByteArray) (l : List ByteArray) : joinL (s :: l) = mkf s ++ joinL l := by
  rw [joinL, List.foldl_cons, joinL_from, show (⟨#[]⟩ : ByteArray) ++ mkf s = mkf s from ByteArray.empty_append]
theorem splitF_joinL (l : List ByteArray) : ∀ (f : Nat) (out : List ByteArray), (∀ s ∈ l, s.size ≤ 300) → (joinL l).size ≤ f → splitF f out (joinL l) = (out ++ l, 0) := by
  induction l with
  | nil => intro f out _ _; rw [splitF_zero f out _ rfl, List.append_nil]
  | cons s l ih =>
    intro f out h hf
    have hr : rd (joinL (s :: l)) = (s, joinL l, 0) := by rw [joinL_cons]; exact rd_mkf s _ (by have := h s (by simp); omega)
    have hz : (joinL (s :: l)).size ≠ 0 := by rw [joinL_cons, ByteArray.size_append, mkf_size]; omega
    obtain ⟨f', hf', e⟩ := splitF_step f out (joinL (s :: l)) hz hf (by rw [hr])
    rw [e, hr, ih f' _ (fun x hx => h x (by simp [hx])) (by rw [hr] at hf'; exact hf')]
    simp
theorem joinL_size_all (l : List ByteArray) (h : ∀ s ∈ l, s.size ≤ 300) (hl : l.length ≤ 20) : (joinL l).size ≤ 6160 := by
  have := joinL_size l h l.length (Nat.le_refl _)
  rw [List.take_length] at this
  omega
end Tess
