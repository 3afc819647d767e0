/- The law FrameMakes, walked: whatever the bytes, it returns true. -/
import Derived.Test.YtnaljebiefmlcaaFr9
namespace Go.Proofs.Ytnaljebiefmlcaa
open Go.RowKit Go.Sort

set_option maxHeartbeats 1000000 in
theorem FrameMakes_any (s : ByteArray) (w : World) (hs : s.size ≤ maxLen) :
    Calls Try.prog 3 #[.string s] w fun e w' => e = .returned (.bool true) ∧ Below w.heap.size w w' := by
  have hc := cutS_size s
  have hm : (cutS s).size ≤ maxLen := by unfold maxLen; omega
  go_enter Try.func3, Try.ntmps3
  go_wp2_with (first
    | (go_at_call 10; refine (shown_any _).mono ?_; rintro e w1 ⟨rfl, hB1⟩)
    | (go_at_call 11; refine (cut_any _ _ hs).mono ?_; rintro e w' ⟨rfl, rfl⟩; generalize cutS s = c at *)
    | (go_at_call 12; refine (make_yes c _ (by omega)).mono ?_; rintro e w2 ⟨rfl, hB2⟩)
    | (go_at_call 13; refine (rmake_yes c _ (by omega)).mono ?_; rintro e w3 ⟨rfl, hB3⟩)
    | (go_at_call 14; refine (read_any c _ hm).mono ?_; rintro e w4 ⟨rfl, hB4⟩)
    | (go_at_call 15; refine (rread_any c _ (by omega)).mono ?_; rintro e w5 ⟨rfl, hB5⟩)
    | (go_at_call 16; refine (sum_any c _ hm).mono ?_; rintro e w6 ⟨rfl, hB6⟩)
    | (go_at_call 17; refine (rsum_any c _ hm).mono ?_; rintro e w' ⟨rfl, rfl⟩))
  go_ret
  exact ⟨rfl, by
    have b2 := hB1.trans (hB2.mono hB1.size)
    have b3 := b2.trans (hB3.mono b2.size)
    have b4 := b3.trans (hB4.mono b3.size)
    have b5 := b4.trans (hB5.mono b4.size)
    exact b5.trans (hB6.mono b5.size)⟩
end Go.Proofs.Ytnaljebiefmlcaa
