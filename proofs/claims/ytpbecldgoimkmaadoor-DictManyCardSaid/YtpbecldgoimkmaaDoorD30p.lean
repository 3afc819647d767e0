/- What is left is the end of what was there. -/
import Derived.Test.YtpbecldgoimkmaaDoorD29
namespace Tess
def Suf (r s : ByteArray) : Prop := ∃ k, k ≤ s.size ∧ r = s.extract k s.size
theorem Suf.refl (s : ByteArray) : Suf s s := ⟨0, Nat.zero_le _, by simp⟩
theorem Suf.step {r s : ByteArray} (h : Suf r s) (j : Nat) (hj : j ≤ r.size) : Suf (r.extract j r.size) s := by
  obtain ⟨k, hk, rfl⟩ := h
  have hs : (s.extract k s.size).size = s.size - k := by simp
  rw [hs] at hj ⊢
  refine ⟨k + j, by omega, ?_⟩
  apply ByteArray.ext
  apply Array.toList_inj.1
  simp only [ByteArray.data_extract, Array.toList_extract, List.extract_eq_take_drop]
  have hl : s.data.toList.length = s.size := by simp
  rw [List.take_of_length_le (by simp), List.take_of_length_le (by simp), List.take_of_length_le (by simp), List.drop_drop]
theorem getW_suf {r s : ByteArray} (h : Suf r s) : Suf (getW r).2.1 s := by
  unfold getW
  split
  · split
    · rename_i h1 _
      exact h.step _ (by omega)
    · exact h
  · exact h
theorem numW_suf {r s : ByteArray} (h : Suf r s) (m : Nat) : Suf (numW r m).2.1 s := by
  unfold numW
  split
  · split
    · exact h
    · exact getW_suf h
  · exact h
theorem wordW_suf {r s : ByteArray} (h : Suf r s) (l : ByteArray) : Suf (wordW r l).1 s := by
  have h1 := numW_suf h l.size
  have h2 := numW_suf h1 (100 - (numW r l.size).1)
  unfold wordW
  split
  · split
    · split
      · exact h2
      · exact h2.step _ (by omega)
    · exact h2
  · exact h1
theorem suf_cmp {r s : ByteArray} (h : Suf r s) (E : ByteArray) : E ++ r = s ↔ E = s.extract 0 (s.size - r.size) := by
  obtain ⟨k, hk, rfl⟩ := h
  have hl : s.data.toList.length = s.size := by simp
  have e1 : (s.extract k s.size).size = s.size - k := by simp
  have e2 : (s.extract k s.size).data.toList = s.data.toList.drop k := by
    simp only [ByteArray.data_extract, Array.toList_extract, List.extract_eq_take_drop]
    rw [List.take_of_length_le (by simp)]
  have e3 : (s.extract 0 (s.size - (s.extract k s.size).size)).data.toList = s.data.toList.take k := by
    rw [e1]
    simp only [ByteArray.data_extract, Array.toList_extract, List.extract_eq_take_drop, List.drop_zero, Nat.sub_zero]
    congr 1; omega
  constructor
  · intro h
    apply ByteArray.ext; apply Array.toList_inj.1
    rw [e3]
    have := congrArg (fun b => b.data.toList) h
    simp only [ByteArray.data_append, Array.toList_append] at this
    rw [e2] at this
    have h4 : E.data.toList ++ s.data.toList.drop k = s.data.toList.take k ++ s.data.toList.drop k := by rw [this, List.take_append_drop]
    exact List.append_cancel_right h4
  · intro h
    apply ByteArray.ext; apply Array.toList_inj.1
    rw [ByteArray.data_append, Array.toList_append, e2, h, e3, List.take_append_drop]
end Tess
