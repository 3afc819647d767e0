/- Which word stands ahead: the reference's, walked; the law's cut. -/
import Derived.Test.YtpbecldgoimkmaaDoorRows
import Derived.Test.YtpbecldgoimkmaaDoorD2p
namespace Go.Proofs.YtpbecldgoimkmaaDoor
open Go.RowKit Go.Sort

def cutS (s : ByteArray) : ByteArray := s.extract 0 3000
theorem cutS_size (s : ByteArray) : (cutS s).size ≤ 3000 := by simp [cutS]; omega
theorem cutS_self (s : ByteArray) (h : s.size ≤ 3000) : cutS s = s := by
  apply ByteArray.ext
  have : s.data.size ≤ 3000 := h
  simp [cutS]; omega
theorem cut_any (s : ByteArray) (w : World) (hs : s.size ≤ maxLen) :
    Calls Tryd.prog 15 #[.string s] w fun e w' => e = .returned (.string (cutS s)) ∧ w = w' := by
  unfold maxLen at hs
  go_enter Tryd.func15, Tryd.ntmps15
  go_wp2
  all_goals
    go_ret
    refine ⟨?_, rfl⟩
    first | rfl | (rw [cutS_self s (by omega)]; rfl)

theorem ret_bool' {a b : Bool} (h : a = b) : Ending.returned (.bool a) = .returned (.bool b) := by rw [h]
set_option maxHeartbeats 1000000 in
theorem ahead_any (a b : ByteArray) (w : World) (ha : a.size ≤ maxLen) :
    Calls Tryd.prog 28 #[.string a, .string b] w fun e w' => e = .returned (.bool (Tess.bl a b)) ∧ Below w.heap.size w w' := by
  unfold maxLen at ha
  go_enter Tryd.func28, Tryd.ntmps28
  go_wp2
  go_loopw [5] (fun i wr => ∃ k : Nat, k ≤ a.size ∧ k ≤ b.size ∧ i = .int .i64 k ∧ a.data.toList.take k = b.data.toList.take k ∧ Below w.heap.size w wr) (fun i _ => a.size - (intOf i).toNat)
  case atStart => exact ⟨0, Nat.zero_le _, Nat.zero_le _, rfl, rfl, Below.refl _ _⟩
  case round =>
    obtain ⟨k, hka, hkb, rfl, heq, hB⟩ := hrel
    have HB := Lib.hid hB
    clear hB
    have HE := Lib.hid heq
    clear heq
    by_cases h1 : k < a.size
    · have h1i : (k : Int) < (a.size : Int) := by omega
      by_cases h2 : k < b.size
      · have h2i : (k : Int) < (b.size : Int) := by omega
        by_cases he : a[k] = b[k]
        · have hen : ((a[k].toNat : Int) != (b[k].toNat : Int)) = false := by rw [he]; simp
          have HX := Lib.hid he
          clear he
          go_wp2
          go_quiet (fail)
          go_wp2
          go_roundw
          case rel => exact ⟨k + 1, by omega, by omega, by go_num, Tess.take_more a b k h1 h2 HE.out HX.out, below_drewN HB.out _⟩
          case measure => simp [intOf]; omega
        · have hne : a[k].toNat ≠ b[k].toNat := fun e => he (UInt8.toNat_inj.1 e)
          have hen : ((a[k].toNat : Int) != (b[k].toNat : Int)) = true := by rw [bne_iff_ne]; omega
          have HX := Lib.hid (Tess.bl_at a b k h1 h2 HE.out he)
          clear he
          go_wp2
          go_quiet (fail)
          go_wp2
          go_quiet (fail)
          go_wp2
          go_ret
          refine ⟨ret_bool' ?_, below_drewN (below_drewN HB.out _) _⟩
          rw [HX.out]
      · have h2i : ¬ (k : Int) < (b.size : Int) := by omega
        have HX := Lib.hid (Tess.bl_end a b k hka hkb HE.out (.inr (by omega)))
        go_wp2
        go_ret
        refine ⟨ret_bool' ?_, HB.out⟩
        rw [HX.out]
    · have h1i : ¬ (k : Int) < (a.size : Int) := by omega
      have HX := Lib.hid (Tess.bl_end a b k hka hkb HE.out (.inl (by omega)))
      go_wp2
      go_ret
      refine ⟨ret_bool' ?_, HB.out⟩
      rw [HX.out]
end Go.Proofs.YtpbecldgoimkmaaDoor
