/- What is read of a frame's beginning, and of a frame; no program in sight. -/
import Derived.Test.YtnaljebiefmlcaaFrPl
namespace Tess
theorem be4_num (n : Nat) (h : n < 4294967296) : num4 (be4 n).data.toList = n := by
  simp [num4, be4]
  omega
theorem mkf_list (c : ByteArray) : (mkf c).data.toList = (be4 c.size).data.toList ++ ((be4 (csum c.data.toList)).data.toList ++ c.data.toList) := by
  simp [mkf, ByteArray.data_append]
theorem mkf_size (c : ByteArray) : (mkf c).size = 8 + c.size := by
  simp only [mkf, ByteArray.size_append]; show 4 + 4 + c.size = 8 + c.size; omega
theorem be4_len (n : Nat) : (be4 n).data.toList.length = 4 := rfl
theorem ext_list (s : ByteArray) (a b : Nat) : (s.extract a b).data.toList = (s.data.toList.drop a).take (b - a) := by
  simp [ByteArray.data_extract, Array.toList_extract, List.extract]
theorem size_list (s : ByteArray) : s.data.toList.length = s.size := by simp
theorem mkf_num (c : ByteArray) (h : c.size ≤ 60000) (t : List UInt8) : num4 (((mkf c).data.toList ++ t).take 4) = c.size := by
  rw [mkf_list, List.append_assoc, List.take_left' (be4_len _), be4_num _ (by omega)]
/-- Fewer bytes of a frame ask for more. -/
theorem rd_less (c : ByteArray) (h : c.size ≤ 60000) (k : Nat) (hk : k < 8 + c.size) : rd ((mkf c).extract 0 k) = (⟨#[]⟩, (mkf c).extract 0 k, 21) := by
  have hs : ((mkf c).extract 0 k).size = k := by
    rw [ByteArray.size_extract, mkf_size]; omega
  unfold rd
  rw [hs]
  by_cases h8 : k < 8
  · rw [if_pos h8]
  · have hn : num4 (((mkf c).extract 0 k).data.toList.take 4) = c.size := by
      rw [ext_list, List.drop_zero, List.take_take, Nat.min_eq_left (by omega)]
      have := mkf_num c h []
      rwa [List.append_nil] at this
    rw [hn, if_neg h8, if_neg (by omega), if_pos (by omega)]
/-- A frame is read, whatever stands behind. -/
theorem rd_mkf (c t : ByteArray) (h : c.size ≤ 60000) : rd (mkf c ++ t) = (c, t, 0) := by
  have hl : (mkf c ++ t).data.toList = (mkf c).data.toList ++ t.data.toList := by simp [ByteArray.data_append]
  have hs : (mkf c ++ t).size = 8 + c.size + t.size := by rw [ByteArray.size_append, mkf_size]
  have hn : num4 ((mkf c ++ t).data.toList.take 4) = c.size := by rw [hl]; exact mkf_num c h _
  have h8 : (be4 c.size ++ be4 (csum c.data.toList)).size = 8 := rfl
  have e1 : (mkf c ++ t).extract 8 (8 + c.size) = c := by
    apply ByteArray.ext
    apply Array.toList_inj.1
    rw [ext_list, hl, mkf_list, ← List.append_assoc, List.append_assoc _ c.data.toList, List.drop_left' (by rw [List.length_append]; rfl), Nat.add_sub_cancel_left, List.take_left' (size_list c)]
  have e2 : frm (mkf c ++ t) (8 + c.size) = t := by
    apply ByteArray.ext
    apply Array.toList_inj.1
    unfold frm
    rw [ext_list, hl, List.drop_left' (by rw [size_list, mkf_size]), hs, List.take_of_length_le (by rw [size_list]; omega)]
  have e3 : num4 ((frm (mkf c ++ t) 4).data.toList.take 4) = csum c.data.toList := by
    unfold frm
    rw [ext_list, hl, mkf_list, List.append_assoc, List.drop_left' (be4_len _), List.take_take, Nat.min_eq_left (by omega), List.append_assoc, List.take_left' (be4_len _), be4_num _ (csum_lt _)]
  unfold rd
  rw [hn, hs, if_neg (by omega), if_neg (by omega), if_neg (by omega), e1, e2, e3, if_pos rfl]
end Tess
