/- The program's sum, walked. -/
import Derived.Test.YtnaljebiefmlcaaFr2
namespace Go.Proofs.Ytnaljebiefmlcaa
open Go.RowKit

theorem crcTab_get (j : Nat) (h : j < 256) : crcTab[j]? = some (.int .u32 (Tess.cstepN 8 j : Nat)) := by
  simp [crcTab, h]
theorem crcTab_size : crcTab.size = 256 := by simp [crcTab]

set_option maxRecDepth 100000 in
theorem sum_any (s : ByteArray) (w : World) (hs : s.size ≤ maxLen) :
    Calls Try.prog 16 #[.string s] w fun e w' => e = .returned (.int .u32 (Tess.csum s.data.toList : Nat)) ∧ Below w.heap.size w w' := by
  unfold maxLen at hs
  go_enter Try.func16, Try.ntmps16
  go_wp2_with (first
    | (go_at_call 28; refine (steps_any _).mono ?_; rintro e w1 ⟨rfl, hB1⟩)
    | (refine wpList_alloc_var 48 rfl (.agg zero256) zero48 zero256 rfl ?_)
    | (refine wpList_store_row rfl 48 _ _ rfl _ _ rfl rfl _ _ (heap_alloc_new _ _) (by rw [size48, crcTab_size]) (by rw [zero256_size, crcTab_size]) crcTab_one ?_))
  have hB : Below w.heap.size w ((w1.alloc (.cells zero256 48)).setRow w1.heap.size crcTab) := Below_setRow (hB1.alloc hB1.size _) hB1.size _
  have hrow := setRow_heap (w1.alloc (.cells zero256 48)) w1.heap.size zero256 crcTab _ _ (heap_alloc_new _ _)
  generalize (w1.alloc (.cells zero256 48)).setRow w1.heap.size crcTab = w2 at *
  generalize w1.heap.size = g at *
  clear hB1 w1
  go_loop [3, 9] (fun n i => ∃ k : Nat, k ≤ s.size ∧ i = .int .i64 k ∧ n = .int .u32 (Tess.crcs (s.data.toList.take k) : Nat)) (fun _ i => s.size - (intOf i).toNat)
  case atStart => exact ⟨0, Nat.zero_le _, rfl, rfl⟩
  case round =>
    obtain ⟨k, hk, rfl, rfl⟩ := hrel
    have hc := Tess.crcs_lt (s.data.toList.take k)
    have HR := Lib.hid hrow
    have HB := Lib.hid hB
    clear hrow hB
    by_cases hlt : k < s.size
    · have HS := Lib.hid ((Tess.crcs_take s k hlt).trans (Tess.crc_tab _ _).symm)
      generalize hcr : Tess.crcs (s.data.toList.take k) = c at *
      clear hcr
      have hb := s[k].toNat_lt
      have hm : c % 256 ^^^ s[k].toNat < 256 := Nat.xor_lt_two_pow (n := 8) (by omega) (by omega)
      have e1 : bits .xor .u8 ((c : Int) % 256) (s[k].toNat : Int) = ((c % 256 ^^^ s[k].toNat : Nat) : Int) := u8_xor_nat (c % 256) s[k].toNat (by omega) (by omega)
      have hcell : w2.cell? ⟨g, c % 256 ^^^ s[k].toNat, none⟩ = some (.int .u32 (Tess.cstepN 8 (c % 256 ^^^ s[k].toNat) : Nat)) := by
        rw [cell_of_row _ _ _ _ _ _ HR.out, crcTab_get _ hm]
      have ht := Tess.cstepN_lt 8 (c % 256 ^^^ s[k].toNat) (by omega)
      have e2 : bits .xor .u32 ((c : Int) / 256) ((Tess.cstepN 8 (c % 256 ^^^ s[k].toNat) : Nat) : Int) = ((c / 256 ^^^ Tess.cstepN 8 (c % 256 ^^^ s[k].toNat) : Nat) : Int) := u32_xor_nat (c / 256) (Tess.cstepN 8 (c % 256 ^^^ s[k].toNat)) (by omega) ht
      go_wp2
      go_round
      case rel => exact ⟨k + 1, by omega, by go_num, by rw [HS.out]⟩
      case measure => simp [intOf]; omega
    · rw [List.take_of_length_le (by simp; omega)] at *
      have e1 := xor32_ones _ hc
      go_wp2
      go_ret
      exact ⟨rfl, HB.out⟩
end Go.Proofs.Ytnaljebiefmlcaa
