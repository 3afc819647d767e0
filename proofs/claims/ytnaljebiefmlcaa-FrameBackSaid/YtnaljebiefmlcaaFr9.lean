/- What every law of this layer asks first: is a frame known? And the texts' beginnings. -/
import Derived.Test.YtnaljebiefmlcaaFr8
namespace Go.Proofs.Ytnaljebiefmlcaa
open Go.RowKit Go.Sort

def t9 : ByteArray := ⟨#[49, 50, 51, 52, 53, 54, 55, 56, 57]⟩
theorem sum9 : Tess.csum t9.data.toList = 3421780262 := by decide +kernel
theorem mkf9 : Tess.mkf t9 = ⟨#[0, 0, 0, 9, 203, 244, 57, 38, 49, 50, 51, 52, 53, 54, 55, 56, 57]⟩ := by
  unfold Tess.mkf; rw [sum9]; rfl
theorem make9 (w : World) : Calls Try.prog 12 #[.string ⟨#[49, 50, 51, 52, 53, 54, 55, 56, 57]⟩] w fun e w' => e = .returned (.tuple #[.string ⟨#[0, 0, 0, 9, 203, 244, 57, 38, 49, 50, 51, 52, 53, 54, 55, 56, 57]⟩, .int .i64 0]) ∧ Below w.heap.size w w' :=
  (make_yes t9 w (by decide)).mono fun _ _ ⟨he, hb⟩ => ⟨by rw [he, mkf9], hb⟩
theorem read7 (w : World) : Calls Try.prog 14 #[.string ⟨#[49, 50, 51, 52, 53, 54, 55]⟩] w fun e w' => e = .returned (.tuple #[.string ⟨#[]⟩, .string ⟨#[49, 50, 51, 52, 53, 54, 55]⟩, .int .i64 21]) ∧ Below w.heap.size w w' :=
  (read_any ⟨#[49, 50, 51, 52, 53, 54, 55]⟩ w (by decide)).mono fun _ _ ⟨he, hb⟩ => ⟨by rw [he]; rfl, hb⟩
theorem sum9c (w : World) : Calls Try.prog 16 #[.string ⟨#[49, 50, 51, 52, 53, 54, 55, 56, 57]⟩] w fun e w' => e = .returned (.int .u32 3421780262) ∧ Below w.heap.size w w' :=
  (sum_any t9 w (by decide)).mono fun _ _ ⟨he, hb⟩ => ⟨by rw [he, sum9]; rfl, hb⟩

set_option maxHeartbeats 400000 in
theorem shown_any (w : World) : Calls Try.prog 10 #[] w fun e w' => e = .returned (.bool true) ∧ Below w.heap.size w w' := by
  go_enter Try.func10, Try.ntmps10
  go_wp2_with (first
    | (go_at_call 12; refine (make9 _).mono ?_; rintro e w1 ⟨rfl, hB1⟩)
    | (go_at_call 14; refine (read7 _).mono ?_; rintro e w2 ⟨rfl, hB2⟩)
    | (go_at_call 16; refine (sum9c _).mono ?_; rintro e w3 ⟨rfl, hB3⟩))
  go_ret
  exact ⟨rfl, (hB1.trans (hB2.mono hB1.size)).trans (hB3.mono (Nat.le_trans hB1.size hB2.size))⟩
/-- The first two thousand bytes. -/
def cutS (s : ByteArray) : ByteArray := s.extract 0 2000
theorem cutS_size (s : ByteArray) : (cutS s).size ≤ 2000 := by simp [cutS]; omega
theorem cutS_self (s : ByteArray) (h : s.size ≤ 2000) : cutS s = s := by
  apply ByteArray.ext
  have : s.data.size ≤ 2000 := h
  simp [cutS]; omega
set_option maxHeartbeats 400000 in
theorem cut_any (s : ByteArray) (w : World) (hs : s.size ≤ maxLen) :
    Calls Try.prog 11 #[.string s] w fun e w' => e = .returned (.string (cutS s)) ∧ w = w' := by
  unfold maxLen at hs
  go_enter Try.func11, Try.ntmps11
  go_wp2
  all_goals
    go_ret
    refine ⟨?_, rfl⟩
    first | rfl | (rw [cutS_self s (by omega)]; rfl)
end Go.Proofs.Ytnaljebiefmlcaa
