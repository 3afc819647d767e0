/- Frames made: the program's and the reference's. -/
import Derived.Test.YtnaljebiefmlcaaFr1
import Derived.Test.YtnaljebiefmlcaaFr5
namespace Go.Proofs.Ytnaljebiefmlcaa
open Go.RowKit

set_option maxHeartbeats 400000 in
theorem make_no (s : ByteArray) (w : World) (hs : s.size ≤ maxLen) (h : 60000 < s.size) :
    Calls Try.prog 12 #[.string s] w fun e w' => e = .returned (.tuple #[.string ByteArray.empty, .int .i64 30]) ∧ w = w' := by
  unfold maxLen at hs
  go_enter Try.func12, Try.ntmps12
  go_wp2
  go_ret2
  exact ⟨rfl, rfl⟩
set_option maxHeartbeats 400000 in
theorem make_yes (s : ByteArray) (w : World) (hs : s.size ≤ 60000) :
    Calls Try.prog 12 #[.string s] w fun e w' => e = .returned (.tuple #[.string (Tess.mkf s), .int .i64 0]) ∧ Below w.heap.size w w' := by
  have hc := Tess.csum_lt s.data.toList
  go_enter Try.func12, Try.ntmps12
  go_wp2_with (go_at_call 16; refine (sum_any s _ (by unfold maxLen; omega)).mono ?_; rintro e w1 ⟨rfl, hB1⟩)
  refine (numbers_any _ 0 [s.size, Tess.csum s.data.toList] _ (fun j hj => ?c1) (by simp) (by simp) (fun x hx => ?c2)).mono ?_
  case c1 =>
    have : j = 0 ∨ j = 1 := by simp at hj; omega
    rcases this with rfl | rfl <;> simp
  case c2 => simp at hx; rcases hx with rfl | rfl <;> omega
  rintro e w2 ⟨rfl, hB2⟩
  have HB : Below w.heap.size w w2 := (hB1.alloc hB1.size _).trans (hB2.mono (by have := hB1.size; simp; omega))
  clear hB1 hB2
  have l1 : ∀ n, (Tess.be4 n).data.toList.length = 4 := fun _ => rfl
  go_wp2
  go_ret2
  exact ⟨by simp [Tess.mkf, ← ByteArray.mk_append_mk], HB⟩

set_option maxHeartbeats 400000 in
theorem rmake_no (s : ByteArray) (w : World) (hs : s.size ≤ maxLen) (h : 60000 < s.size) :
    Calls Try.prog 13 #[.string s] w fun e w' => e = .returned (.tuple #[.string ByteArray.empty, .int .i64 30]) ∧ w = w' := by
  unfold maxLen at hs
  go_enter Try.func13, Try.ntmps13
  go_wp2
  go_ret2
  exact ⟨rfl, rfl⟩
set_option maxHeartbeats 400000 in
theorem rmake_yes (s : ByteArray) (w : World) (hs : s.size ≤ 60000) :
    Calls Try.prog 13 #[.string s] w fun e w' => e = .returned (.tuple #[.string (Tess.mkf s), .int .i64 0]) ∧ Below w.heap.size w w' := by
  have hc := Tess.csum_lt s.data.toList
  go_enter Try.func13, Try.ntmps13
  go_wp2_with fail
  refine (rfour_any s.size _ (by omega)).mono ?_
  rintro e w1 ⟨rfl, hB1⟩
  go_wp2_with fail
  refine (rsum_any s _ (by unfold maxLen; omega)).mono ?_
  rintro e w' ⟨rfl, rfl⟩
  go_wp2_with fail
  refine (rfour_any _ _ hc).mono ?_
  rintro e w2 ⟨rfl, hB2⟩
  have HB : Below w.heap.size w w2 := hB1.trans (hB2.mono hB1.size)
  clear hB1 hB2
  have l1 : ∀ n, (Tess.be4 n).size = 4 := fun _ => rfl
  go_wp2
  go_ret2
  exact ⟨by simp [Tess.mkf], HB⟩
end Go.Proofs.Ytnaljebiefmlcaa
