/- Frames joined and parted; no program in sight. -/
import Derived.Test.YtnaljebiefmlcaaFrP3
namespace Tess
def cut300 (s : ByteArray) : ByteArray := s.extract 0 300
def fewL (l : List ByteArray) : List ByteArray := (l.take 20).map cut300
/-- Frames, one behind the other. -/
def joinL (l : List ByteArray) : ByteArray := l.foldl (fun o s => o ++ mkf s) ⟨#[]⟩
theorem cut300_size (s : ByteArray) : (cut300 s).size ≤ 300 := by simp [cut300]; omega
theorem cut300_self (s : ByteArray) (h : s.size ≤ 300) : cut300 s = s := by
  apply ByteArray.ext
  have : s.data.size ≤ 300 := h
  simp [cut300]; omega
theorem fewL_len (l : List ByteArray) : (fewL l).length ≤ 20 := by simp [fewL]; omega
theorem fewL_size (l : List ByteArray) (s : ByteArray) (h : s ∈ fewL l) : s.size ≤ 300 := by
  obtain ⟨x, _, rfl⟩ := List.mem_map.1 h
  exact cut300_size x
theorem joinL_snoc (l : List ByteArray) (s : ByteArray) : joinL (l ++ [s]) = joinL l ++ mkf s := by simp [joinL]
theorem joinL_take (l : List ByteArray) (k : Nat) (h : k < l.length) : joinL (l.take (k + 1)) = joinL (l.take k) ++ mkf l[k] := by
  rw [List.take_succ_eq_append_getElem h, joinL_snoc]

theorem joinL_size (l : List ByteArray) (h : ∀ s ∈ l, s.size ≤ 300) : ∀ k, k ≤ l.length → (joinL (l.take k)).size ≤ 308 * k := by
  intro k
  induction k with
  | zero => intro _; exact Nat.le_refl 0
  | succ k ih =>
    intro hk
    rw [joinL_take l k hk, ByteArray.size_append, mkf_size]
    have := ih (by omega)
    have := h l[k] (List.getElem_mem _)
    omega

/-- Frames parted: what was parted, what is left. -/
def splitF : Nat → List ByteArray → ByteArray → List ByteArray × Nat
  | 0, out, _ => (out, 0)
  | f + 1, out, s => if s.size = 0 then (out, 0) else if (rd s).2.2 = 0 then splitF f (out ++ [(rd s).1]) (rd s).2.1 else ([], (rd s).2.2)
theorem rd_rest (s : ByteArray) (h : (rd s).2.2 = 0) : (rd s).2.1.size + 8 ≤ s.size ∧ (rd s).1.size ≤ s.size := by
  unfold rd at h ⊢
  split
  · rename_i h1; rw [if_pos h1] at h; cases h
  · rename_i h1
    rw [if_neg h1] at h
    split
    · rename_i h2; rw [if_pos h2] at h; cases h
    · rename_i h2
      rw [if_neg h2] at h
      split
      · rename_i h3; rw [if_pos h3] at h; cases h
      · rename_i h3
        rw [if_neg h3] at h
        split
        · simp only [frm, ByteArray.size_extract]; omega
        · rename_i h4; rw [if_neg h4] at h; cases h
theorem splitF_zero (f : Nat) (out : List ByteArray) (s : ByteArray) (h : s.size = 0) : splitF f out s = (out, 0) := by
  cases f with
  | zero => rfl
  | succ f => rw [splitF, if_pos h]
theorem splitF_err (f : Nat) (out : List ByteArray) (s : ByteArray) (h : s.size ≠ 0) (hf : s.size ≤ f) (he : (rd s).2.2 ≠ 0) : splitF f out s = ([], (rd s).2.2) := by
  cases f with
  | zero => omega
  | succ f => rw [splitF, if_neg h, if_neg he]
theorem splitF_step (f : Nat) (out : List ByteArray) (s : ByteArray) (h : s.size ≠ 0) (hf : s.size ≤ f) (he : (rd s).2.2 = 0) : ∃ f', (rd s).2.1.size ≤ f' ∧ splitF f out s = splitF f' (out ++ [(rd s).1]) (rd s).2.1 := by
  cases f with
  | zero => omega
  | succ f =>
    refine ⟨f, ?_, by rw [splitF, if_neg h, if_pos he]⟩
    have := (rd_rest s he).1
    omega
end Tess
