/- Numbers in four bytes, walked. -/
import Derived.Test.YtnaljebiefmlcaaRows
import Derived.Test.YtnaljebiefmlcaaFrPl
import Derived.Test.YtnaljebiefmlcaaB
namespace Go.Proofs.Ytnaljebiefmlcaa
open Go.RowKit

set_option maxHeartbeats 400000 in
theorem rnumber_any (s : ByteArray) (w : World) (hs : s.size ≤ maxLen) (h4 : 4 ≤ s.size) :
    Calls Try.prog 27 #[.string s] w fun e w' => e = .returned (.int .u32 (Tess.num4 (s.data.toList.take 4) : Nat)) ∧ ∃ n, w' = w.drewN n := by
  unfold maxLen at hs
  have h0 : 0 < s.size := by omega
  have h1 : (1 : Int) < (s.size : Int) := by omega
  have h2 : (2 : Int) < (s.size : Int) := by omega
  have h3 : (3 : Int) < (s.size : Int) := by omega
  have b0 := s[0].toNat_lt
  have b1 := s[1].toNat_lt
  have b2 := s[2].toNat_lt
  have b3 := s[3].toNat_lt
  go_enter Try.func27, Try.ntmps27
  go_wp2
  go_quiet (fail)
  go_wp2
  go_ret
  exact ⟨by rw [or4 _ _ _ _ b0 b1 b2 b3, Tess.num4_take4 s h4]; rfl, _, rfl⟩

set_option maxHeartbeats 400000 in
theorem number_any (s : ByteArray) (w : World) (hs : s.size ≤ maxLen) (h4 : 4 ≤ s.size) :
    Calls Try.prog 26 #[.string s] w fun e w' => e = .returned (.int .u32 (Tess.num4 (s.data.toList.take 4) : Nat)) ∧ w = w' := by
  unfold maxLen at hs
  go_enter Try.func26, Try.ntmps26
  go_wp2
  go_loop [3, 5] (fun n i => ∃ k : Nat, k ≤ 4 ∧ i = .int .i64 k ∧ n = .int .u32 (Tess.num4 (s.data.toList.take k) : Nat)) (fun _ i => 4 - (intOf i).toNat)
  case atStart => exact ⟨0, Nat.zero_le _, rfl, rfl⟩
  case round =>
    obtain ⟨k, hk, rfl, rfl⟩ := hrel
    by_cases hlt : k < 4
    · have hc : Tess.num4 (s.data.toList.take k) < 16777216 := Tess.num4_lt3 _ (by simp; omega)
      have hk1 : k < s.size := by omega
      have HS := Lib.hid (Tess.num4_take s k hk1)
      have hb := s[k].toNat_lt
      generalize Tess.num4 (s.data.toList.take k) = c at *
      have e1 : bits .or .u32 ((c : Int) * 256) (s[k].toNat : Int) = ((c * 256 + s[k].toNat : Nat) : Int) := or32_256 c _ hc hb
      go_wp2
      go_round
      case rel => exact ⟨k + 1, by omega, by go_num, by rw [HS.out]; go_num⟩
      case measure => simp [intOf]; omega
    · obtain rfl : k = 4 := by omega
      go_wp2
      go_ret
      exact ⟨rfl, rfl⟩
set_option maxHeartbeats 400000 in
theorem rfour_any (n : Nat) (w : World) (hn : n < 4294967296) :
    Calls Try.prog 25 #[.int .u32 n] w fun e w' => e = .returned (.string (Tess.be4 n)) ∧ Below w.heap.size w w' := by
  go_enter Try.func25, Try.ntmps25
  go_wp2_with (with_reducible refine at_conv 32 9 ?_; refine wpList_bytes_string _ _ 5 _ rfl Try.underlying32 Try.underlying5 Try.underlying9 w.heap.size 0 4 4 rfl [(n / 16777216 % 256 : Nat), (n / 65536 % 256 : Nat), (n / 256 % 256 : Nat), (n % 256 : Nat)] rfl ?c1 ?_)
  case c1 =>
    intro i hi
    have : i = 0 ∨ i = 1 ∨ i = 2 ∨ i = 3 := by omega
    rcases this with rfl | rfl | rfl | rfl <;> simp <;> omega
  go_ret
  exact ⟨by simp [strOfNums, Tess.be4]; exact ⟨rfl, rfl, rfl, rfl⟩, (Below.refl _ _).alloc (Nat.le_refl _) _⟩
end Go.Proofs.Ytnaljebiefmlcaa
