/- The reference's place of a word, walked. -/
import Derived.Test.YtpbecldgoimkmaaDoorD2
namespace Tess
def place (l : List ByteArray) (x : ByteArray) : Nat := l.findIdx fun y => !bl y x
theorem place_at (l : List ByteArray) (x : ByteArray) (n : Nat) (hn : n ≤ l.length) (h : ∀ j (hj : j < l.length), j < n → bl l[j] x = true) (he : n = l.length ∨ ∃ hn : n < l.length, bl l[n] x = false) : place l x = n := by
  unfold place
  rcases he with rfl | ⟨hn, he⟩
  · rw [List.findIdx_eq_length]; intro y hy
    obtain ⟨j, hj, rfl⟩ := List.getElem_of_mem hy
    simp [h j hj hj]
  · rw [List.findIdx_eq hn]
    exact ⟨by simp [he], fun j hj => by simp [h j (by omega) hj]⟩
theorem place_le (l : List ByteArray) (x : ByteArray) : place l x ≤ l.length := List.findIdx_le_length
end Tess
namespace Go.Proofs.YtpbecldgoimkmaaDoor
open Go.RowKit Go.Sort

set_option maxHeartbeats 1000000 in
theorem place_any (v : Value) (l : List ByteArray) (x : ByteArray) (w : World) (hv : SlOf w v (l.map .string)) (hl : ∀ y ∈ l, y.size ≤ maxLen) :
    Calls Tryd.prog 40 #[v, .string x] w fun e w' => e = .returned (.int .i64 (Tess.place l x)) ∧ Below w.heap.size w w' := by
  obtain ⟨a, cap, rfl, hlen, hc⟩ := sls_open hv
  have HC := Lib.hid hc
  have HL := Lib.hid hl
  clear hc hv hl
  go_enter Tryd.func40, Tryd.ntmps40
  go_wp2
  go_loopw [5] (fun i wr => ∃ k : Nat, k ≤ l.length ∧ i = .int .i64 k ∧ (∀ j (hj : j < l.length), j < k → Tess.bl l[j] x = true) ∧ Below w.heap.size w wr) (fun i _ => l.length - (intOf i).toNat)
  case atStart => exact ⟨0, Nat.zero_le _, rfl, fun j _ h => absurd h (Nat.not_lt_zero _), Below.refl _ _⟩
  case round =>
    obtain ⟨k, hk, rfl, hall, hB⟩ := hrel
    have HA := Lib.hid hall
    have HB := Lib.hid hB
    clear hall hB
    by_cases hlt : k < l.length
    · obtain ⟨b, off, rfl, hb, hcell⟩ := HC.out k hlt
      have hck : wr.cell? ⟨b, off + k, none⟩ = some (.string l[k]) := (HB.out.cell (p := ⟨b, off + k, none⟩) hb).trans hcell
      have hki : (k : Int) < (l.length : Int) := by omega
      have HY := Lib.hid (HL.out _ (List.getElem_mem hlt))
      obtain ⟨y, hy⟩ : ∃ y, y = l[k] := ⟨_, rfl⟩
      rw [← hy] at hck HY
      have HE := Lib.hid hy
      clear hcell hy
      go_wp2_with (go_at_call 28; refine (ahead_any y x _ HY.out).mono ?_; rintro e w2 ⟨rfl, hB2⟩; have HB := Lib.hid (Bt HB.out hB2); clear hB2; cases hyx : Tess.bl y x)
      · go_ret
        exact ⟨by rw [Tess.place_at l x k hk HA.out (.inr ⟨hlt, by rw [← HE.out]; exact hyx⟩)]; rfl, HB.out⟩
      · go_roundw
        case rel =>
          refine ⟨k + 1, by omega, by go_num, fun j hj hjk => ?_, HB.out⟩
          by_cases hjk' : j < k
          · exact HA.out j hj hjk'
          · obtain rfl : j = k := by omega
            rw [← HE.out]; exact hyx
        case measure => simp [intOf]; omega
    · have hki : ¬ (k : Int) < (l.length : Int) := by omega
      go_wp2
      go_ret
      exact ⟨by rw [Tess.place_at l x k hk HA.out (.inl (by omega))]; rfl, HB.out⟩
end Go.Proofs.YtpbecldgoimkmaaDoor
