/- A dictionary's bytes give it back, whatever stands behind: plain. -/
import Derived.Test.YtpbecldgoimkmaaDoorD35p
import Derived.Test.YtpbecldgoimkmaaDoorD30
namespace Tess
open Go
def mk (l : List UInt8) : ByteArray := ⟨l.toArray⟩
theorem mk_list (l : List UInt8) : (mk l).data.toList = l := rfl
theorem mk_size (l : List UInt8) : (mk l).size = l.length := by show l.toArray.size = _; simp
theorem mk_of (b : ByteArray) : mk b.data.toList = b := rfl
theorem mk_ext {b : ByteArray} {l : List UInt8} (h : b.data.toList = l) : b = mk l := by rw [← h]; rfl
theorem mk_append (l m : List UInt8) : mk l ++ mk m = mk (l ++ m) := by
  apply mk_ext
  rw [ByteArray.data_append, Array.toList_append]; rfl
theorem mk_drop (l : List UInt8) (k : Nat) : (mk l).extract k (mk l).size = mk (l.drop k) := by
  apply mk_ext
  rw [ByteArray.data_extract, Array.toList_extract, List.extract_eq_take_drop, mk_list, mk_size]
  exact List.take_of_length_le (by simp)
theorem mk_take (l : List UInt8) (k : Nat) : (mk l).extract 0 k = mk (l.take k) := by
  apply mk_ext
  rw [ByteArray.data_extract, Array.toList_extract, List.extract_eq_take_drop, mk_list]
  simp
theorem getW_put (n : Nat) (hn : n < 16384) (r : List UInt8) : getW (mk (putL n ++ r)) = (n, mk r, 0) := by
  by_cases h : n < 128
  · rw [putL_lt n h]
    have hc : (UInt8.ofNat n).toNat = n := by rw [UInt8.toNat_ofNat']; omega
    have hs : stop (mk ([UInt8.ofNat n] ++ r)).data.toList = 0 := by
      rw [mk_list]; unfold stop
      rw [List.singleton_append, List.take_succ_cons, List.findIdx_cons, hc]
      simp [h]
    unfold getW
    rw [hs, if_pos (by rw [mk_size]; simp only [List.length_append, List.length_cons, List.length_nil]; omega), if_pos (by unfold goodV; simp), mk_drop, mk_list]
    simp only [Nat.zero_add, List.singleton_append, List.take_succ_cons, List.take_zero, List.drop_succ_cons, List.drop_zero, dec, hc]
    rw [show n % 128 + 128 * 0 = n by omega]
  · rw [putL_ge n h, putL_lt (n / 128) (by omega)]
    have hc : (UInt8.ofNat (128 + n % 128)).toNat = 128 + n % 128 := by rw [UInt8.toNat_ofNat']; omega
    have hc2 : (UInt8.ofNat (n / 128)).toNat = n / 128 := by rw [UInt8.toNat_ofNat']; omega
    generalize UInt8.ofNat (128 + n % 128) = a at *
    generalize UInt8.ofNat (n / 128) = b at *
    have hb0 : b ≠ 0 := fun e => by
      rw [e] at hc2
      have : (0 : UInt8).toNat = 0 := rfl
      omega
    have hs : stop (mk ([a, b] ++ r)).data.toList = 1 := by
      rw [mk_list]; unfold stop
      rw [List.cons_append, List.singleton_append, List.take_succ_cons, List.take_succ_cons, List.findIdx_cons, List.findIdx_cons, hc, hc2, decide_eq_false (by omega), decide_eq_true (by omega)]
      rfl
    unfold getW
    rw [hs, if_pos (by rw [mk_size]; simp only [List.length_append, List.length_cons, List.length_nil]; omega), if_pos (by unfold goodV; rw [mk_list]; simp [hb0]), mk_drop, mk_list]
    simp only [List.cons_append, List.take_succ_cons, List.take_zero, List.drop_succ_cons, List.drop_zero, dec, hc, hc2]
    rw [show (128 + n % 128) % 128 + 128 * (n / 128 % 128 + 128 * 0) = n by omega]
    rfl
theorem numW_put (n m : Nat) (hn : n < 16384) (hm : n ≤ m) (r : List UInt8) : numW (mk (putL n ++ r)) m = (n, mk r, 0) := by
  unfold numW
  rw [getW_put n hn r]
  simp only [if_true]
  rw [if_neg (by omega)]
def encFrom : ByteArray → List ByteArray → List UInt8
  | _, [] => []
  | a, y :: l => one a y ++ encFrom y l
theorem encTo_from (l : List ByteArray) (k : Nat) (hk : k ≤ l.length) : encTo l k ++ encFrom (lastOf l k) (l.drop k) = encFrom w0 l := by
  induction k with
  | zero => rfl
  | succ k ih =>
    rw [← ih (by omega), List.drop_eq_getElem_cons (show k < l.length by omega)]
    show (encTo l k ++ one (lastOf l k) (l.getD k w0)) ++ _ = encTo l k ++ (one (lastOf l k) l[k] ++ encFrom l[k] (l.drop (k + 1)))
    rw [lastOf_succ, getD_lt l k (by omega), List.append_assoc]
theorem encL_from (l : List ByteArray) : encL l = putL l.length ++ encFrom w0 l := by
  have := encTo_from l l.length (Nat.le_refl _)
  rw [List.drop_length] at this
  unfold encL
  rw [← this]
  show _ = putL l.length ++ (encTo l l.length ++ [])
  rw [List.append_nil]
theorem shr_take : ∀ (x y : List UInt8), x.take (shr x y) = y.take (shr x y)
  | [], y => by cases y <;> rfl
  | _ :: _, [] => rfl
  | a :: x, b :: y => by
    unfold shr
    split
    · rename_i h
      rw [List.take_succ_cons, List.take_succ_cons, shr_take x y, h]
    · rfl
theorem shared_take (a b : ByteArray) : a.data.toList.take (shared a b) = b.data.toList.take (shared a b) := shr_take _ _
theorem wordW_one (a y : ByteArray) (ha : a.size ≤ 100) (hy : y.size ≤ 100) (r : List UInt8) : wordW (mk (one a y ++ r)) a = (mk r, y, 0) := by
  have hsa := shared_le a y
  have hsh := shared_take a y
  generalize hn : shared a y = n at *
  have h1 : numW (mk (one a y ++ r)) a.size = (n, mk (putL (y.size - n) ++ (y.data.toList.drop n ++ r)), 0) := by
    have e : one a y ++ r = putL n ++ (putL (y.size - n) ++ (y.data.toList.drop n ++ r)) := by
      unfold one; rw [hn]; simp only [List.append_assoc]
    rw [e]
    exact numW_put n a.size (by omega) hsa.1 _
  have h2 : numW (mk (putL (y.size - n) ++ (y.data.toList.drop n ++ r))) (100 - n) = (y.size - n, mk (y.data.toList.drop n ++ r), 0) := numW_put _ _ (by omega) (by omega) _
  have hl : y.data.toList.length = y.size := by simp
  have hdl : (y.data.toList.drop n).length = y.size - n := by rw [List.length_drop, hl]
  rw [wordW_of _ a _ _ _ _ _ _ h1 h2, if_pos rfl, if_pos rfl, if_neg (by rw [mk_size, List.length_append]; omega), mk_drop, mk_take]
  have e1 : (y.data.toList.drop n ++ r).drop (y.size - n) = r := by rw [← hdl, List.drop_left]
  have e2 : (y.data.toList.drop n ++ r).take (y.size - n) = y.data.toList.drop n := by rw [← hdl, List.take_left]
  rw [e1, e2]
  have e3 : a.extract 0 n ++ mk (y.data.toList.drop n) = y := by
    rw [← mk_of a, mk_take, mk_append, hsh, List.take_append_drop]
    rfl
  rw [e3]
theorem wordsW_from (l : List ByteArray) : ∀ (a : ByteArray), a.size ≤ 100 → (∀ y ∈ l, y.size ≤ 100) → ∀ r, wordsW l.length (mk (encFrom a l ++ r)) a = (l, mk r, 0) := by
  induction l with
  | nil => intro a _ _ r; rfl
  | cons y l ih =>
    intro a ha hl r
    have hy := hl y (by simp)
    have hw : wordW (mk (encFrom a (y :: l) ++ r)) a = (mk (encFrom y l ++ r), y, 0) := by
      show wordW (mk ((one a y ++ encFrom y l) ++ r)) a = _
      rw [List.append_assoc]
      exact wordW_one a y ha hy _
    show wordsW (l.length + 1) _ a = _
    unfold wordsW
    rw [hw]
    simp only [if_true]
    rw [ih y hy (fun z hz => hl z (by simp [hz])) r]
theorem dec_enc (l : List ByteArray) (h : right l = true) (t : ByteArray) : (encW l).2 = 0 ∧ decW ((encW l).1 ++ t) = (l, t, 0) := by
  have he : encW l = (mk (encL l), 0) := by unfold encW; rw [if_pos h]; rfl
  have hs : mk (encL l) ++ t = mk (putL l.length ++ (encFrom w0 l ++ t.data.toList)) := by
    rw [← mk_of t, mk_append, encL_from, List.append_assoc]
    rfl
  have hlen := right_len l h
  have hn := numW_put l.length 1000 (by omega) hlen (encFrom w0 l ++ t.data.toList)
  have hsz : ∀ y ∈ l, y.size ≤ 100 := fun y hy => by
    obtain ⟨i, hi, rfl⟩ := List.getElem_of_mem hy
    have := right_size l h i hi
    rwa [getD_lt l i hi] at this
  have hws := wordsW_from l w0 (Nat.zero_le _) hsz t.data.toList
  refine ⟨by rw [he], ?_⟩
  rw [he]
  show decW (mk (encL l) ++ t) = _
  rw [hs, decW_of _ _ _ _ hn, if_pos rfl, hws]
  simp only [if_true, he]
  rw [if_pos ⟨trivial, by rw [mk_of t]; exact hs⟩]
  rfl
theorem dec_facts (s : ByteArray) (h : (decW s).2.2 = 0) : (encW (decW s).1).2 = 0 ∧ (encW (decW s).1).1 ++ (decW s).2.1 = s ∧ right (decW s).1 = true := by
  have key : (encW (decW s).1).2 = 0 ∧ (encW (decW s).1).1 ++ (decW s).2.1 = s := by
    unfold decW at *
    split at h
    · rename_i h1
      split at h
      · rename_i h2
        split at h
        · rename_i h3
          rw [if_pos h1, if_pos h2, if_pos h3]
          exact h3
        · cases h
      · rename_i h2; exact absurd h h2
    · rename_i h1; exact absurd h h1
  refine ⟨key.1, key.2, ?_⟩
  have := key.1
  unfold encW at this
  split at this
  · assumption
  · cases this
theorem right_nil : right [] = true := by
  unfold right rightTo
  rfl
end Tess
