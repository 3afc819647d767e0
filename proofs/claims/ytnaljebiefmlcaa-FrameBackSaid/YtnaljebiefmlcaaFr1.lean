/- The sum of bytes: the program's and the reference's, walked. -/
import Derived.Test.YtnaljebiefmlcaaRows
import Derived.Test.YtnaljebiefmlcaaFrPl
import Derived.Test.YtnaljebiefmlcaaB
namespace Go.Proofs.Ytnaljebiefmlcaa
open Go.RowKit

set_option maxHeartbeats 400000 in
theorem rsum_any (s : ByteArray) (w : World) (hs : s.size ≤ maxLen) :
    Calls Try.prog 17 #[.string s] w fun e w' => e = .returned (.int .u32 (Tess.csum s.data.toList : Nat)) ∧ w = w' := by
  unfold maxLen at hs
  go_enter Try.func17, Try.ntmps17
  go_wp2
  go_loop [3, 4] (fun n i => ∃ k : Nat, k ≤ s.size ∧ i = .int .i64 k ∧ n = .int .u32 (Tess.crcs (s.data.toList.take k) : Nat)) (fun _ i => s.size - (intOf i).toNat)
  case atStart => exact ⟨0, Nat.zero_le _, rfl, rfl⟩
  case round =>
    obtain ⟨k, hk, rfl, rfl⟩ := hrel
    have hc := Tess.crcs_lt (s.data.toList.take k)
    by_cases hlt : k < s.size
    · have HS := Lib.hid (Tess.crcs_take s k hlt)
      have hx := Tess.xor_lt _ _ hc (by have := s[k].toNat_lt; omega : s[k].toNat < 4294967296)
      have hb := s[k].toNat_lt
      have e1 := u32_xor_nat _ _ hc (by omega : s[k].toNat < 4294967296)
      go_wp2
      clear e1
      generalize Tess.crcs (s.data.toList.take k) ^^^ s[k].toNat = n0 at *
      go_loop [3, 5] (fun n i => ∃ j : Nat, j ≤ 8 ∧ i = .int .i64 j ∧ n = .int .u32 (Tess.cstepN j n0 : Nat)) (fun _ i => 8 - (intOf i).toNat)
      case atStart => exact ⟨0, by omega, rfl, rfl⟩
      case round =>
        obtain ⟨j, hj, rfl, rfl⟩ := hrel
        have hcj := Tess.cstepN_lt j n0 hx
        by_cases hj8 : j < 8
        · have HJ := Lib.hid (Tess.cstepN_succ j n0)
          go_wp2
          all_goals
            go_round
            case rel => exact ⟨j + 1, by omega, by go_num, by rw [HJ.out, Tess.cstep]; first | (rw [if_pos (by simp_all; omega)]; exact congrArg _ (xor32_half _ hcj)) | (rw [if_neg (by simp_all; omega)]; rfl)⟩
            case measure => simp [intOf]; omega
        · obtain rfl : j = 8 := by omega
          go_wp2
          go_round
          case rel => exact ⟨k + 1, by omega, by go_num, by rw [HS.out]⟩
          case measure => simp [intOf]; omega
    · rw [List.take_of_length_le (by simp; omega)] at *
      have e1 := xor32_ones _ hc
      go_wp2
      go_ret
      exact ⟨rfl, rfl⟩
end Go.Proofs.Ytnaljebiefmlcaa
