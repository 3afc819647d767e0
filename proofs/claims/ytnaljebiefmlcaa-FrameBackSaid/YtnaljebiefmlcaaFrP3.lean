/- The sum of bytes is linear; a changed byte is seen; no program in sight. -/
import Derived.Test.YtnaljebiefmlcaaFrP2
namespace Tess
theorem xor_swap (a b c d : Nat) : (a ^^^ b) ^^^ (c ^^^ d) = (a ^^^ c) ^^^ (b ^^^ d) := by
  rw [Nat.xor_assoc, Nat.xor_assoc, ← Nat.xor_assoc b c d, Nat.xor_comm b c, Nat.xor_assoc c b d]
theorem crc1_xor (n m : Nat) (c d : UInt8) : crc1 (n ^^^ m) (c ^^^ d) = crc1 n c ^^^ crc1 m d := by
  unfold crc1
  rw [UInt8.toNat_xor, xor_swap, cstepN_xor]
def bxor (a b : List UInt8) : List UInt8 := List.zipWith (· ^^^ ·) a b
theorem fold_xor : ∀ (a b : List UInt8) (n m : Nat), a.length = b.length → (bxor a b).foldl crc1 (n ^^^ m) = a.foldl crc1 n ^^^ b.foldl crc1 m
  | [], [], n, m, _ => rfl
  | c :: a, d :: b, n, m, h => by
    have ih := fold_xor a b (crc1 n c) (crc1 m d) (by simpa using h)
    rw [← crc1_xor] at ih
    exact ih
theorem csum_xor3 (a b z : List UInt8) (h : a.length = b.length) (hz : z = List.replicate a.length 0) : csum a ^^^ csum b ^^^ csum z = csum (bxor a b) := by
  have hzx : bxor (bxor a b) z = bxor a b := by
    subst hz
    apply List.ext_getElem
    · simp [bxor, h]
    · intro i h1 h2
      simp [bxor]
  have h1 := fold_xor a b 4294967295 4294967295 h
  have h2 := fold_xor (bxor a b) z (4294967295 ^^^ 4294967295) 4294967295 (by subst hz; simp [bxor, h])
  rw [h1, hzx] at h2
  have h3 : (4294967295 ^^^ 4294967295) ^^^ 4294967295 = 4294967295 := by decide
  rw [h3] at h2
  unfold csum crcs
  rw [h2, xor_swap (List.foldl crc1 4294967295 a), xor_swap _ (4294967295 ^^^ 4294967295), h3]
theorem cstep_ne (n : Nat) (h : n < 4294967296) (h0 : n ≠ 0) : cstep n ≠ 0 := by
  unfold cstep
  split
  · intro e
    have : n / 2 = 3988292384 := by
      have h1 : (n / 2 ^^^ 3988292384) ^^^ 3988292384 = 0 ^^^ 3988292384 := by rw [e]
      rw [Nat.xor_assoc, Nat.xor_self, Nat.xor_zero, Nat.zero_xor] at h1
      exact h1
    omega
  · omega
theorem cstepN_ne (k n : Nat) (h : n < 4294967296) (h0 : n ≠ 0) : cstepN k n ≠ 0 := by
  induction k with
  | zero => exact h0
  | succ k ih => exact cstep_ne _ (cstepN_lt k n h) ih
theorem fold_zeros (m : Nat) : ∀ n, n < 4294967296 → n ≠ 0 → (List.replicate m (0 : UInt8)).foldl crc1 n ≠ 0 := by
  induction m with
  | zero => exact fun n _ h => h
  | succ m ih =>
    intro n h h0
    rw [List.replicate_succ, List.foldl_cons]
    have e : crc1 n 0 = cstepN 8 n := by unfold crc1; rw [show (0 : UInt8).toNat = 0 from rfl, Nat.xor_zero]
    rw [e]
    exact ih _ (cstepN_lt 8 n h) (cstepN_ne 8 n h h0)
theorem cstepN_zero (k : Nat) : cstepN k 0 = 0 := by
  induction k with
  | zero => rfl
  | succ k ih => rw [cstepN, ih]; rfl
theorem fold_zero0 (m : Nat) : (List.replicate m (0 : UInt8)).foldl crc1 0 = 0 := by
  induction m with
  | zero => rfl
  | succ m ih =>
    rw [List.replicate_succ, List.foldl_cons]
    have e : crc1 0 0 = 0 := by unfold crc1; rw [show (0 : UInt8).toNat = 0 from rfl, Nat.xor_zero]; exact cstepN_zero 8
    rw [e]; exact ih
/-- One byte that is another one: another sum. -/
theorem csum_set (l : List UInt8) (i : Nat) (hi : i < l.length) (ch : UInt8) (hc : ch ≠ 0) : csum (l.set i (l[i] ^^^ ch)) ≠ csum l := by
  have hd : l.set i (l[i] ^^^ ch) = bxor l (List.replicate i 0 ++ ch :: List.replicate (l.length - i - 1) 0) := by
    apply List.ext_getElem
    · simp [bxor]; omega
    · intro j h1 h2
      simp only [bxor, List.getElem_zipWith, List.getElem_set]
      by_cases e : i = j
      · subst e
        simp
      · rw [if_neg e]
        by_cases hlt : j < i
        · rw [List.getElem_append_left (by simpa using hlt)]; simp
        · rw [List.getElem_append_right (by simp; omega)]
          obtain ⟨q, hq⟩ : ∃ q, j - i = q + 1 := ⟨j - i - 1, by omega⟩
          simp [hq]
  have h1 := fold_xor l (List.replicate i 0 ++ ch :: List.replicate (l.length - i - 1) 0) 4294967295 0 (by simp; omega)
  rw [Nat.xor_zero, ← hd] at h1
  rw [List.foldl_append, fold_zero0, List.foldl_cons] at h1
  have hch : ch.toNat ≠ 0 := fun e => hc (UInt8.toNat_inj.1 e)
  have h2 : (List.replicate (l.length - i - 1) (0 : UInt8)).foldl crc1 (crc1 0 ch) ≠ 0 := by
    apply fold_zeros
    · exact crc1_lt _ _ (by omega)
    · unfold crc1; rw [Nat.zero_xor]; exact cstepN_ne 8 _ (by have := ch.toNat_lt; omega) hch
  intro e
  unfold csum crcs at e
  rw [h1] at e
  have h3 : ∀ a b : Nat, (a ^^^ b ^^^ 4294967295) = (a ^^^ 4294967295) → b = 0 := by
    intro a b hab
    have h4 : (a ^^^ b ^^^ 4294967295) ^^^ 4294967295 = (a ^^^ 4294967295) ^^^ 4294967295 := by rw [hab]
    rw [Nat.xor_assoc, Nat.xor_self, Nat.xor_zero, Nat.xor_assoc, Nat.xor_self, Nat.xor_zero] at h4
    have h5 : a ^^^ (a ^^^ b) = a ^^^ a := by rw [h4]
    rw [← Nat.xor_assoc, Nat.xor_self, Nat.zero_xor] at h5
    exact h5
  exact h2 (h3 _ _ e)
theorem fold_inj : ∀ (a b : List UInt8) (n m : Nat), a.length = b.length → a.foldl (fun n c => n * 256 + c.toNat) n = b.foldl (fun n c => n * 256 + c.toNat) m → n = m ∧ a = b
  | [], [], _, _, _, h => ⟨h, rfl⟩
  | x :: a, y :: b, n, m, h, e => by
    obtain ⟨h1, h2⟩ := fold_inj a b _ _ (by simpa using h) e
    replace h1 : n * 256 + x.toNat = m * 256 + y.toNat := h1
    have hx := x.toNat_lt
    have hy := y.toNat_lt
    have e1 : x.toNat = y.toNat := by omega
    exact ⟨by omega, by rw [h2, UInt8.toNat_inj.1 e1]⟩
theorem num4_inj (a b : List UInt8) (h : a.length = b.length) (e : num4 a = num4 b) : a = b := (fold_inj a b 0 0 h e).2
/-- A frame one byte of which, behind the first four, is another one. -/
theorem rd_set (c : ByteArray) (h : c.size ≤ 60000) (i : Nat) (h4 : 4 ≤ i) (ch : UInt8) (hc : ch ≠ 0) (B : ByteArray) (x : UInt8) (hx : (mkf c).data.toList[i]? = some x)
    (hB : B.data.toList = (mkf c).data.toList.set i (x ^^^ ch)) : rd B = (⟨#[]⟩, B, 31) := by
  have hl : (mkf c).data.toList.length = 8 + c.size := by rw [size_list, mkf_size]
  have hs : B.size = 8 + c.size := by rw [← size_list, hB, List.length_set, hl]
  have hn : num4 (B.data.toList.take 4) = c.size := by
    rw [hB, List.take_set_of_le h4]
    have := mkf_num c h []
    rwa [List.append_nil] at this
  have hD : (B.extract 8 (8 + c.size)).data.toList = if 8 ≤ i then c.data.toList.set (i - 8) (x ^^^ ch) else c.data.toList := by
    rw [ext_list, Nat.add_sub_cancel_left, hB, List.drop_set, mkf_list, ← List.append_assoc, List.drop_left' (by rw [List.length_append]; rfl)]
    by_cases h8 : 8 ≤ i
    · rw [if_neg (by omega), if_pos h8, List.take_of_length_le (by rw [List.length_set, size_list]; omega)]
    · rw [if_pos (by omega), if_neg h8, List.take_of_length_le (by rw [size_list]; omega)]
  have hS : (frm B 4).data.toList.take 4 = if 8 ≤ i then (be4 (csum c.data.toList)).data.toList else (be4 (csum c.data.toList)).data.toList.set (i - 4) (x ^^^ ch) := by
    unfold frm
    rw [ext_list, List.take_take, hs, Nat.min_eq_left (by omega), hB, List.drop_set, if_neg (by omega), mkf_list, List.drop_left' (be4_len _), List.take_set, List.take_left' (be4_len _)]
    by_cases h8 : 8 ≤ i
    · rw [if_pos h8, List.set_eq_of_length_le (by rw [be4_len]; omega)]
    · rw [if_neg h8]
  have hne : ¬ csum (B.extract 8 (8 + c.size)).data.toList = num4 ((frm B 4).data.toList.take 4) := by
    rw [hD, hS]
    by_cases h8 : 8 ≤ i
    · rw [if_pos h8, if_pos h8, be4_num _ (csum_lt _)]
      have hx2 : c.data.toList[i - 8]? = some x := by
        rw [mkf_list, ← List.append_assoc, List.getElem?_append_right (by rw [List.length_append, be4_len, be4_len]; omega)] at hx
        exact hx
      obtain ⟨hlt, hv⟩ := List.getElem?_eq_some_iff.1 hx2
      have := csum_set c.data.toList (i - 8) hlt ch hc
      rwa [hv] at this
    · rw [if_neg h8, if_neg h8]
      have hx2 : (be4 (csum c.data.toList)).data.toList[i - 4]? = some x := by
        rw [mkf_list, List.getElem?_append_right (by rw [be4_len]; omega), List.getElem?_append_left (by rw [be4_len, be4_len]; omega)] at hx
        exact hx
      intro e
      have e2 := num4_inj (be4 (csum c.data.toList)).data.toList _ (by rw [List.length_set]) ((be4_num _ (csum_lt _)).trans e)
      have e3 : (be4 (csum c.data.toList)).data.toList[i - 4]? = some (x ^^^ ch) := by
        rw [e2, List.getElem?_set_self (by rw [be4_len]; omega)]
      rw [hx2] at e3
      have e4 : x = x ^^^ ch := by simpa using e3
      apply hc
      have e5 : x ^^^ x = x ^^^ (x ^^^ ch) := by rw [← e4]
      rw [← UInt8.xor_assoc, UInt8.xor_self, UInt8.zero_xor] at e5
      exact e5.symm
  unfold rd
  rw [hn, hs, if_neg (by omega), if_neg (by omega), if_neg (by omega), if_neg hne]
end Tess
