/- The document's Get. -/
import Derived.Test.YtpbecldgoimkmaaDoorD23
namespace Go.Proofs.YtpbecldgoimkmaaDoor
open Go.RowKit Go.Sort Go.Shelf

set_option maxHeartbeats 4000000 in
set_option maxRecDepth 100000 in
theorem rget_any (s : ByteArray) (w : World) (hs : s.size ≤ maxLen) : Calls Tryd.prog 38 #[.string s] w (GetPost s w) := by
  unfold maxLen at hs
  unfold GetPost
  go_enter Tryd.func38, Tryd.ntmps38
  go_wp2
  go_loopw [5, 6] (fun s5 i wr => ∃ k : Nat, k ≤ min s.size 10 ∧ i = .int .i64 k ∧ s5 = .int .u64 (Tess.dec (s.data.toList.take k) % 18446744073709551616 : Nat) ∧ (∀ j (hj : j < s.data.toList.length), j < k → 128 ≤ s.data.toList[j].toNat) ∧ Below w.heap.size w wr) (fun _ i _ => 10 - (intOf i).toNat)
  case atStart => exact ⟨0, Nat.zero_le _, rfl, rfl, fun j _ h => absurd h (Nat.not_lt_zero _), Below.refl _ _⟩
  case round =>
    obtain ⟨k, hk, rfl, rfl, hall, hB⟩ := hrel
    have HA := Lib.hid hall
    have HB := Lib.hid hB
    clear hall hB
    by_cases hlt : k < min s.size 10
    · have hks : k < s.size := by omega
      have hki : (k : Int) < (s.size : Int) := by omega
      have hki10 : (k : Int) < 10 := by omega
      have hkd : decide ((k : Int) < (s.size : Int)) = true := decide_eq_true hki
      have hk9 : k ≤ 9 := by omega
      have hsk : s.data.toList[k]'(by simpa using hks) = s[k] := by simp; rfl
      obtain ⟨q, hq⟩ : ∃ q, q = 7 * k := ⟨_, rfl⟩
      have h7 : (7 : Int) * (k : Int) = (q : Int) := by omega
      have hq0 : (0 : Int) ≤ (q : Int) := by omega
      have hq64 : (q : Int) ≤ 64 := by omega
      have hwq : IntKind.i64.wrap (q : Int) = (q : Int) := by go_bits; first | trivial | omega
      obtain ⟨A, hA⟩ : ∃ A, A = Tess.dec (s.data.toList.take k) % 18446744073709551616 := ⟨_, rfl⟩
      obtain ⟨B, hB⟩ : ∃ B, B = ((s[k].toNat % 128) * 2 ^ (7 * k)) % 18446744073709551616 := ⟨_, rfl⟩
      obtain ⟨C, hC⟩ : ∃ C, C = Tess.dec (s.data.toList.take (k + 1)) % 18446744073709551616 := ⟨_, rfl⟩
      have hABC : A ||| B = C := by
        rw [hA, hB, hC, Tess.take_split _ k (by simpa using hks)]
        exact Tess.acc_step (s.data.toList.take k) s.data.toList[k] k (by simp; omega) hk9
      have hA64 : A < 18446744073709551616 := by rw [hA]; exact Nat.mod_lt _ (by omega)
      have hB64 : B < 18446744073709551616 := by rw [hB]; exact Nat.mod_lt _ (by omega)
      have hC64 : C < 18446744073709551616 := by rw [hC]; exact Nat.mod_lt _ (by omega)
      have hor : bits .or .u64 (A : Int) (B : Int) = (C : Int) := by rw [bits_or_u64_nat A B hA64 hB64, hABC]
      have hsh0 : IntKind.u64.wrap (((s[k].toNat : Nat) : Int) % 128 * 2 ^ q) = (B : Int) := by rw [shl_cast, hB, hq]
      obtain ⟨d, hd⟩ : ∃ d, d = s[k].toNat % 128 := ⟨_, rfl⟩
      have htm : ((s[k].toNat : Nat) : Int).tmod 128 = (d : Int) := by rw [Int.tmod_eq_emod_of_nonneg (by omega)]; omega
      have hsh : IntKind.u64.wrap ((d : Int) * 2 ^ q) = (B : Int) := by rw [← hsh0]; congr 2; omega
      have hd128 : d < 128 := by omega
      have hwd8 : IntKind.u8.wrap (d : Int) = (d : Int) := by go_bits; first | trivial | omega
      have hwd64 : IntKind.u64.wrap (d : Int) = (d : Int) := by go_bits; first | trivial | omega
      have hw1 : IntKind.i64.wrap ((k : Int) + 1) = (k : Int) + 1 := by go_bits; first | trivial | omega
      have hke : (k : Int) + 1 ≤ (s.size : Int) := by omega
      rw [← hA]
      have HC := Lib.hid hC
      clear hA hB hC hABC hq hA64 hB64 hsh0 hd
      by_cases hc : s[k].toNat < 128
      · have hci : ((s[k].toNat : Nat) : Int) < 128 := by omega
        have hstop := Tess.stop_at s.data.toList k (by simp; omega) HA.out (.inr ⟨by simpa using hks, by omega, by rw [hsk]; exact hc⟩)
        have hag := Tess.again s.data.toList k (by simpa using hks) (by omega) HA.out (by rw [hsk]; exact hc)
        have hGood : Tess.goodV s.data.toList k = true → Tess.getW s = (C, s.extract (k + 1) s.size, 0) := fun hg => by
          unfold Tess.getW
          rw [hstop, if_pos hlt, if_pos hg, HC.out, Nat.mod_eq_of_lt (hag.2 hg)]
        have hBad : Tess.goodV s.data.toList k = false → Tess.getW s = (0, s, 20) := fun hg => by
          unfold Tess.getW
          rw [hstop, if_pos hlt, if_neg (by rw [hg]; decide)]
        have hput := fun W => rput_any 9 C W (by omega) hC64
        have hcmp : ((Tess.putW C).toList == (s.extract 0 (k + 1)).toList) = Tess.goodV s.data.toList k := by
          rw [Bool.eq_iff_iff, beq_iff_eq, ← hag.1, ← HC.out, Tess.tl, Tess.tl]
          simp only [Tess.putW, ByteArray.data_extract, Array.toList_extract, List.extract_eq_take_drop, List.drop_zero, Nat.sub_zero]
        obtain ⟨g, hg⟩ : ∃ g, g = Tess.goodV s.data.toList k := ⟨_, rfl⟩
        rw [← hg] at hGood hBad hcmp
        have HPUT := Lib.hid hput
        have HGood := Lib.hid hGood
        have HBad := Lib.hid hBad
        clear hstop hag hGood hBad hput hg hsk HC
        obtain ⟨Z, hZ⟩ : ∃ Z, Z = Tess.putW C := ⟨_, rfl⟩
        rw [← hZ] at HPUT hcmp
        clear hZ
        obtain ⟨Y, hY⟩ : ∃ Y, Y = s.extract 0 (k + 1) := ⟨_, rfl⟩
        rw [← hY] at hcmp
        have hY' := hY.symm
        clear hY
        cases g
        · have HG := Lib.hid (HBad.out rfl)
          have C1 := Lib.hid (fun d os => Calls.regrown_of (HPUT.out (grow (redrawn wr d) os)))
          go_wp2
          refine wp_region_quiet_below (by kernel_rfl) (by kernel_rfl) ?_
          repeat (go_big_quiet_step (exact C1.out _ _))
          refine wpQuiet_nil ?_
          intro _ hw'
          obtain ⟨⟨dq, osq⟩, hw''⟩ := hw'
          subst hw''
          have HB2 := Lib.hid (Bt HB.out (below_regrown wr dq osq))
          generalize grow (redrawn wr dq) osq = w2 at *
          clear C1
          go_wp2
          go_ret3
          exact ⟨by rw [HG.out]; rfl, HB2.out⟩
        · have HG := Lib.hid (HGood.out rfl)
          have C1 := Lib.hid (fun d os => Calls.regrown_of (HPUT.out (grow (redrawn wr d) os)))
          go_wp2
          refine wp_region_quiet_below (by kernel_rfl) (by kernel_rfl) ?_
          repeat (go_big_quiet_step (exact C1.out _ _))
          refine wpQuiet_nil ?_
          intro _ hw'
          obtain ⟨⟨dq, osq⟩, hw''⟩ := hw'
          subst hw''
          have HB2 := Lib.hid (Bt HB.out (below_regrown wr dq osq))
          generalize grow (redrawn wr dq) osq = w2 at *
          clear C1
          go_wp2
          go_quiet (fail)
          go_wp2
          go_ret3
          exact ⟨by rw [HG.out]; rfl, below_drewN HB2.out _⟩
      · have hci : ¬ ((s[k].toNat : Nat) : Int) < 128 := by omega
        go_wp2
        go_roundw
        case rel =>
          refine ⟨k + 1, by omega, by go_num, by rw [HC.out], fun j hj hjk => ?_, HB.out⟩
          by_cases hjk2 : j < k
          · exact HA.out j hj hjk2
          · obtain rfl : j = k := by omega
            rw [hsk]; omega
        case measure => simp [intOf]; omega
    · have hstop := Tess.stop_at s.data.toList k (by simpa using hk) HA.out (.inl (by simp; omega))
      have hW : Tess.getW s = (0, s, if s.size < 10 then 21 else 20) := by
        unfold Tess.getW
        rw [hstop, if_neg hlt]
      have HG := Lib.hid hW
      clear hstop hW
      by_cases h10 : s.size < 10
      · have hki : ¬ (k : Int) < (s.size : Int) := by omega
        have hkd : decide ((k : Int) < (s.size : Int)) = false := decide_eq_false hki
        have h10i : (s.size : Int) < 10 := by omega
        go_wp2
        go_ret3
        exact ⟨by rw [HG.out, if_pos h10]; rfl, HB.out⟩
      · obtain rfl : k = 10 := by omega
        have h10i : ¬ (s.size : Int) < 10 := by omega
        by_cases hki : (10 : Nat) < s.size
        · have hki2 : (10 : Int) < (s.size : Int) := by omega
          have hkd : decide ((10 : Int) < (s.size : Int)) = true := decide_eq_true hki2
          go_wp2
          go_ret3
          exact ⟨by rw [HG.out, if_neg h10]; rfl, HB.out⟩
        · have hki2 : ¬ (10 : Int) < (s.size : Int) := by omega
          have hkd : decide ((10 : Int) < (s.size : Int)) = false := decide_eq_false hki2
          go_wp2
          go_ret3
          exact ⟨by rw [HG.out, if_neg h10]; rfl, HB.out⟩
end Go.Proofs.YtpbecldgoimkmaaDoor
