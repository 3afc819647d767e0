/- The law FrameMore, walked. -/
import Derived.Test.YtnaljebiefmlcaaFr9
import Derived.Test.YtnaljebiefmlcaaFrP2
namespace Go.Proofs.Ytnaljebiefmlcaa
open Go.RowKit Go.Sort

set_option maxHeartbeats 1000000 in
theorem FrameMore_any (s : ByteArray) (n : Int) (w : World) (hs : s.size ≤ maxLen) (hn : (Lit.int .i64 n).wf = true) :
    Calls Try.prog 5 #[.string s, .int .i64 n] w fun e w' => e = .returned (.bool true) ∧ Below w.heap.size w w' := by
  have hc := cutS_size s
  have hsz := Tess.mkf_size (cutS s)
  have HR := Lib.hid fun k => Tess.rd_less (cutS s) (by omega) k
  by_cases h : 0 ≤ n ∧ n < 8 + (cutS s).size
  · obtain ⟨k, rfl⟩ := Int.eq_ofNat_of_zero_le h.1
    obtain ⟨_, h⟩ := h
    have hk : k < 8 + (cutS s).size := by omega
    have hk2 : k < (Tess.mkf (cutS s)).size := by omega
    have hx : ((Tess.mkf (cutS s)).extract 0 k).size ≤ maxLen := by unfold maxLen; rw [ByteArray.size_extract]; omega
    have hr : ∀ w, Calls Try.prog 14 #[.string ((Tess.mkf (cutS s)).extract 0 k)] w fun e w' => e = .returned (.tuple #[.string ⟨#[]⟩, .string ((Tess.mkf (cutS s)).extract 0 k), .int .i64 21]) ∧ Below w.heap.size w w' :=
      fun w => (read_any _ w hx).mono fun _ _ ⟨he, hb⟩ => ⟨by rw [he, HR.out k hk]; rfl, hb⟩
    have HRR := Lib.hid hr
    clear hr hsz hn HR
    go_enter Try.func5, Try.ntmps5
    go_wp2_with (first
      | (go_at_call 10; refine (shown_any _).mono ?_; rintro e w1 ⟨rfl, hB1⟩)
      | (go_at_call 11; refine (cut_any _ _ hs).mono ?_; rintro e w' ⟨rfl, rfl⟩; generalize cutS s = c at *)
      | (go_at_call 12; refine (make_yes c _ (by omega)).mono ?_; rintro e w2 ⟨rfl, hB2⟩)
      | (go_at_call 14; refine (HRR.out _).mono ?_; rintro e w4 ⟨rfl, hB4⟩))
    go_ret
    exact ⟨rfl, Bt (Bt hB1 hB2) hB4⟩
  · clear HR hn
    have h' : n < 0 ∨ (8 + (cutS s).size : Int) ≤ n := by omega
    clear h
    rcases h' with h | h
    all_goals
      go_enter Try.func5, Try.ntmps5
      go_wp2_with (first
        | (go_at_call 10; refine (shown_any _).mono ?_; rintro e w1 ⟨rfl, hB1⟩)
        | (go_at_call 11; refine (cut_any _ _ hs).mono ?_; rintro e w' ⟨rfl, rfl⟩; generalize cutS s = c at *)
        | (go_at_call 12; refine (make_yes c _ (by omega)).mono ?_; rintro e w2 ⟨rfl, hB2⟩))
      go_ret
      exact ⟨rfl, Bt hB1 hB2⟩
end Go.Proofs.Ytnaljebiefmlcaa
