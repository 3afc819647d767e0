/- The law FrameLong, walked. -/
import Derived.Test.YtnaljebiefmlcaaFr9
import Derived.Test.YtnaljebiefmlcaaFrP3
import Derived.OpenShut
namespace Go.Proofs.Ytnaljebiefmlcaa
open Go.RowKit Go.Sort

/-- The bytes that the law makes. -/
def longL (k : Nat) (b : UInt8) : List UInt8 := (List.replicate k (0 : UInt8)).set 0 b
def longS (k : Nat) (b : UInt8) : ByteArray := ⟨(longL k b).toArray⟩
theorem longS_size (k : Nat) (b : UInt8) : (longS k b).size = k := by
  show (longL k b).toArray.size = k
  simp [longL]
/-- What stands ahead of them. -/
def longH (k : Nat) : ByteArray := ⟨#[0, 0, UInt8.ofNat (k / 256 % 256), UInt8.ofNat (k % 256), 0, 0, 0, 0]⟩
theorem long_rd (k : Nat) (h : 60000 < k) (h2 : k < 65536) (t : ByteArray) : Tess.rd (longH k ++ t) = (⟨#[]⟩, longH k ++ t, 30) := by
  have hs : (longH k ++ t).size = 8 + t.size := by rw [ByteArray.size_append]; rfl
  have hn : Tess.num4 ((longH k ++ t).data.toList.take 4) = k := by
    rw [ByteArray.data_append, Array.toList_append]
    simp [longH, Tess.num4]
    omega
  unfold Tess.rd
  rw [hs, hn, if_neg (by omega), if_pos h]
theorem rep_at {k i : Nat} (v : Value) (h : i < k) : (Array.replicate k v)[i]? = some v := by simp [h]
theorem infoB : (Try.prog.info? 5).map (fun i => (i.zero, i.size, i.bytes)) = some (some (.int .u8 0), 1, 1) := by kernel_rfl
theorem long_cells {w1 : World} {g k : Nat} (b : UInt8) (hr : w1.heap[g]? = some (.cells (Array.replicate k (.int .u8 0)) 5 (0, 0))) (i : Nat) (hi : i < k) :
    (w1.setCell ⟨g, 0, none⟩ (.int .u8 (b.toNat : Int))).cell? ⟨g, 0 + i, none⟩ = some (.int .u8 (((longS k b).data.toList.map fun b => (b.toNat : Int)).getD i 0)) := by
  rw [cell_of_row _ _ _ _ _ _ (heap_setCell_same _ _ _ _ _ _ hr), getD_at _ (by simp [longS, longL]; omega), Nat.zero_add]
  rw [Array.getElem?_setIfInBounds]
  by_cases e : 0 = i
  · subst e; simp [hi, longS, longL]
  · simp [e, hi, longS, longL]

set_option maxHeartbeats 1000000 in
theorem FrameLong_no (n : Int) (b : Int) (w : World) (h : n < 59990 ∨ 60010 < n) :
    Calls Try.prog 6 #[.int .i64 n, .int .u8 b] w fun e w' => e = .returned (.bool true) ∧ Below w.heap.size w w' := by
  rcases h with h | h
  all_goals
    go_enter Try.func6, Try.ntmps6
    go_wp2_with (go_at_call 10; refine (shown_any _).mono ?_; rintro e w1 ⟨rfl, hB1⟩)
    go_ret
    exact ⟨rfl, hB1⟩

set_option maxRecDepth 100000 in
set_option maxHeartbeats 1000000 in
theorem FrameLong_short (k : Nat) (b : UInt8) (w : World) (h1 : 59990 ≤ k) (h2 : k ≤ 60000) :
    Calls Try.prog 6 #[.int .i64 k, .int .u8 (b.toNat : Int)] w fun e w' => e = .returned (.bool true) ∧ Below w.heap.size w w' := by
  have hS := longS_size k b
  have hm : ∀ w, Calls Try.prog 12 #[.string (longS k b)] w fun e w' => e = .returned (.tuple #[.string (Tess.mkf (longS k b)), .int .i64 0]) ∧ Below w.heap.size w w' := fun w => make_yes _ w (by omega)
  have hrd := Tess.rd_mkf (longS k b) ⟨#[]⟩ (by omega)
  rw [show (⟨#[]⟩ : ByteArray) = ByteArray.empty from rfl, ByteArray.append_empty] at hrd
  have hr : ∀ w, Calls Try.prog 14 #[.string (Tess.mkf (longS k b))] w fun e w' => e = .returned (.tuple #[.string (longS k b), .string ⟨#[]⟩, .int .i64 0]) ∧ Below w.heap.size w w' :=
    fun w => (read_any _ w (by unfold maxLen; rw [Tess.mkf_size]; omega)).mono fun _ _ ⟨he, hb⟩ => ⟨by rw [he, hrd]; rfl, hb⟩
  have HM := Lib.hid hm
  have HR := Lib.hid hr
  have HS := Lib.hid hS
  obtain ⟨i0, hi, hz0, hz1, hz2⟩ := info_parts infoB
  clear hm hr hS hrd
  go_enter Try.func6, Try.ntmps6
  go_wp2_with (first
    | (go_at_call 10; refine (shown_any _).mono ?_; rintro e w1 ⟨rfl, hB1⟩)
    | (at_make; refine wpList_make_row _ _ 32 rfl 5 i0 (.int .u8 0) Try.underlying32 hi hz0 hz1 rfl .i64 .i64 k rfl rfl (by rw [hz2]; omega) (by unfold maxLen; omega) ?_; intro w2 hB2 hlt hrow; have hck : w2.cell? ⟨w1.heap.size, 0, none⟩ = some (.int .u8 0) := (cell_of_row _ _ _ _ _ _ hrow).trans (rep_at _ (by omega)); have hfk := frozen_of_row w2 w1.heap.size 0 _ _ hrow; have HROW := Lib.hid hrow; clear hrow)
    | (with_reducible refine at_conv 32 9 ?_; refine wpList_bytes_string _ _ 5 _ rfl Try.underlying32 Try.underlying5 Try.underlying9 w1.heap.size 0 k k rfl ((longS k b).data.toList.map fun b => (b.toNat : Int)) ?_ ?_ ?_
       · exact (List.length_map _).trans ((Tess.size_list _).trans HS.out)
       · first
           | exact fun i hi => (hB4.cell (p := ⟨w1.heap.size, 0 + i, none⟩) (by have := hB3.size; rw [World.size_setCell] at this; show w1.heap.size < w3.heap.size; omega)).trans ((hB3.cell (p := ⟨w1.heap.size, 0 + i, none⟩) (by rw [World.size_setCell]; exact hlt)).trans (long_cells b HROW.out i hi))
           | exact fun i hi => long_cells b HROW.out i hi
       rw [strOfNums_list])
    | (go_at_call 12; refine (HM.out _).mono ?_; rintro e w3 ⟨rfl, hB3⟩)
    | (go_at_call 14; refine (HR.out _).mono ?_; rintro e w4 ⟨rfl, hB4⟩))
  go_ret
  exact ⟨rfl, Bt (Bt ((Bt hB1 hB2).setCell (p := ⟨w1.heap.size, 0, none⟩) hB1.size _) hB3) hB4⟩

set_option maxRecDepth 100000 in
set_option maxHeartbeats 1000000 in
theorem FrameLong_long (k : Nat) (b : UInt8) (w : World) (h1 : 60000 < k) (h2 : k ≤ 60010) :
    Calls Try.prog 6 #[.int .i64 k, .int .u8 (b.toNat : Int)] w fun e w' => e = .returned (.bool true) ∧ Below w.heap.size w w' := by
  have hS := longS_size k b
  have hm : ∀ w, Calls Try.prog 12 #[.string (longS k b)] w fun e w' => e = .returned (.tuple #[.string ⟨#[]⟩, .int .i64 30]) ∧ w = w' := fun w => make_no _ w (by unfold maxLen; omega) (by omega)
  have hrd := long_rd k h1 (by omega) (longS k b)
  have hr : ∀ w, Calls Try.prog 14 #[.string (longH k ++ longS k b)] w fun e w' => e = .returned (.tuple #[.string ⟨#[]⟩, .string (longH k ++ longS k b), .int .i64 30]) ∧ Below w.heap.size w w' :=
    fun w => (read_any _ w (by unfold maxLen; rw [ByteArray.size_append, hS]; show 8 + k ≤ _; omega)).mono fun _ _ ⟨he, hb⟩ => ⟨by rw [he, hrd]; rfl, hb⟩
  have hsum : (longH k).size + (longS k b).size ≤ 9223372036854775807 := by rw [hS]; show 8 + k ≤ _; omega
  have HM := Lib.hid hm
  have HR := Lib.hid hr
  have HS := Lib.hid hS
  obtain ⟨i0, hi, hz0, hz1, hz2⟩ := info_parts infoB
  clear hm hr hS hrd
  go_enter Try.func6, Try.ntmps6
  go_wp2_with (first
    | (go_at_call 10; refine (shown_any _).mono ?_; rintro e w1 ⟨rfl, hB1⟩)
    | (at_make; refine wpList_make_row _ _ 32 rfl 5 i0 (.int .u8 0) Try.underlying32 hi hz0 hz1 rfl .i64 .i64 k rfl rfl (by rw [hz2]; omega) (by unfold maxLen; omega) ?_; intro w2 hB2 hlt hrow; have hck : w2.cell? ⟨w1.heap.size, 0, none⟩ = some (.int .u8 0) := (cell_of_row _ _ _ _ _ _ hrow).trans (rep_at _ (by omega)); have hfk := frozen_of_row w2 w1.heap.size 0 _ _ hrow; have HROW := Lib.hid hrow; clear hrow)
    | (with_reducible refine at_convx 32 9 42 ?_; refine wpList_bytes_string _ _ 5 _ rfl Try.underlying32 Try.underlying5 Try.underlying9 w2.heap.size 0 8 8 rfl [0, 0, (k / 256 % 256 : Nat), (k % 256 : Nat), 0, 0, 0, 0] rfl ?_ ?_
       · intro i hi
         refine (alloc_cell i (World.size_setCell ..).symm).trans ?_
         have : i = 0 ∨ i = 1 ∨ i = 2 ∨ i = 3 ∨ i = 4 ∨ i = 5 ∨ i = 6 ∨ i = 7 := by omega
         rcases this with rfl | rfl | rfl | rfl | rfl | rfl | rfl | rfl <;> simp <;> omega
       rw [show strOfNums [0, 0, ((k / 256 % 256 : Nat) : Int), ((k % 256 : Nat) : Int), 0, 0, 0, 0] = longH k from rfl])
    | (with_reducible refine at_conv 32 9 ?_; refine wpList_bytes_string _ _ 5 _ rfl Try.underlying32 Try.underlying5 Try.underlying9 w1.heap.size 0 k k rfl ((longS k b).data.toList.map fun b => (b.toNat : Int)) ?_ ?_ ?_
       · exact (List.length_map _).trans ((Tess.size_list _).trans HS.out)
       · first
           | exact fun i hi => long_cells b HROW.out i hi
           | exact fun i hi => ((Below.refl (w2.setCell ⟨w1.heap.size, 0, none⟩ (.int .u8 (b.toNat : Int))).heap.size _).alloc (Nat.le_refl _) _).cell (p := ⟨w1.heap.size, 0 + i, none⟩) (by rw [World.size_setCell]; exact hlt) |>.trans (long_cells b HROW.out i hi)
       rw [strOfNums_list])
    | (go_at_call 12; refine (HM.out _).mono ?_; rintro e w3 ⟨rfl, rfl⟩)
    | (go_at_call 14; refine (HR.out _).mono ?_; rintro e w4 ⟨rfl, hB4⟩))
  go_ret
  exact ⟨rfl, Bt (((Bt hB1 hB2).setCell (p := ⟨w1.heap.size, 0, none⟩) hB1.size _).alloc (by rw [World.size_setCell]; exact (Bt hB1 hB2).size) _) hB4⟩

theorem FrameLong_any (n : Int) (b : Int) (w : World) (_ : (Lit.int .i64 n).wf = true) (hb : (Lit.int .u8 b).wf = true) :
    Calls Try.prog 6 #[.int .i64 n, .int .u8 b] w fun e w' => e = .returned (.bool true) ∧ Below w.heap.size w w' := by
  by_cases h : n < 59990 ∨ 60010 < n
  · exact FrameLong_no n b w h
  · have hb := bounds_u8 hb
    obtain ⟨k, rfl⟩ := Int.eq_ofNat_of_zero_le (show 0 ≤ n by omega)
    obtain ⟨c, rfl⟩ := Int.eq_ofNat_of_zero_le hb.1
    have e : c = (UInt8.ofNat c).toNat := by simp; omega
    rw [e]
    by_cases h2 : k ≤ 60000
    · exact FrameLong_short k _ w (by omega) h2
    · exact FrameLong_long k _ w (by omega) (by omega)
end Go.Proofs.Ytnaljebiefmlcaa
