/- varint's reader: next. -/
import Derived.Test.YtpbecldgoimkmaaDoorD21p
namespace Go.Proofs.YtpbecldgoimkmaaDoor
open Go.RowKit Go.Sort Go.Shelf

set_option maxRecDepth 100000 in
theorem and_bits (c : UInt8) : bits .and .u8 (c.toNat : Int) 127 = ((c.toNat % 128 : Nat) : Int) := by
  have key : ∀ r : Fin 256, bits .and .u8 ((r.val : Nat) : Int) 127 = ((r.val % 128 : Nat) : Int) := by decide +kernel
  exact key ⟨c.toNat, c.toNat_lt⟩
theorem wrap_u64_mod (x : Int) : IntKind.u64.wrap x = x % 18446744073709551616 := by
  unfold IntKind.wrap
  rfl
theorem shl_cast (d q : Nat) : IntKind.u64.wrap ((d : Int) % 128 * 2 ^ q) = ((((d % 128) * 2 ^ q) % 18446744073709551616 : Nat) : Int) := by
  rw [wrap_u64_mod, Int.natCast_emod, Int.natCast_mul, Int.natCast_emod, Int.natCast_pow]
  rfl
/-- The error of a number. -/
def errV (a0 a1 : Addr) (code : Nat) : Value := if code = 0 then .nilIface else .iface 153 (.pointer (some (if code = 21 then a0 else a1)))
/-- What the row's listed variables give a walk. -/
structure Vars (a0 a1 : Addr) (w : World) : Prop where
  ne : a0 ≠ a1
  g0 : w.cell? ⟨0, 0, none⟩ = some (.iface 129 (.agg #[.pointer (some ⟨3, 50, none⟩)]))
  g1 : w.cell? ⟨1, 0, none⟩ = some (.iface 153 (.pointer (some a0)))
  g2 : w.cell? ⟨2, 0, none⟩ = some (.iface 153 (.pointer (some a1)))
  b0 : ∃ c0 t0, w.heap[a0.block]? = some (.cells c0 t0 (0, 0))
  b1 : ∃ c1 t1, w.heap[a1.block]? = some (.cells c1 t1 (0, 0))

set_option maxRecDepth 100000 in
set_option maxHeartbeats 4000000 in
theorem next_any (a0 a1 : Addr) (p : Nat) (s : ByteArray) (w : World) (hv : Vars a0 a1 w) (hp : w.cell? ⟨p, 0, none⟩ = some (.string s)) (hz : w.frozen? ⟨p, 0, none⟩ = false) :
    Calls Tryd.prog 70 #[.pointer (some ⟨p, 0, none⟩)] w fun e w' => e = .returned (.tuple #[.int .u64 ((Tess.getW s).1 : Nat), errV a0 a1 (Tess.getW s).2.2]) ∧ w'.cell? ⟨p, 0, none⟩ = some (.string (Tess.getW s).2.1) ∧ Below p w w' := by
  have g1 := hv.g1
  have g2 := hv.g2
  have HPB := Lib.hid (World.block_lt_of_cell? _ _ hp)
  refine (callsIn_wide (n := 5)).1 ?_
  refine callsIn_of_wp Tryd.func70 rfl trivial ?_ rfl
  simp only [Tryd.ntmps70, List.size_toArray, List.length_cons, List.length_nil, Nat.reduceAdd, Nat.reduceSub, Array.replicate_succ, Array.replicate_zero, List.push_toArray, List.append_toArray, List.nil_append, List.cons_append]
  gi_wp2
  refine Rf.wpIn_scope_straight ?_
  gi_wp2
  refine wpIn_label ?_
  gi_wp2
  refine wpIn_wide.2 ?_
  go_loopw [4, 5, 15] (fun s4 s5 i wr => ∃ k : Nat, k ≤ min s.size 10 ∧ i = .int .i64 k ∧ s5 = .int .i64 0 ∧ s4 = .int .u64 (Tess.dec (s.data.toList.take k) % 18446744073709551616 : Nat) ∧ (∀ j (hj : j < s.data.toList.length), j < k → 128 ≤ s.data.toList[j].toNat) ∧ wr = w) (fun _ _ i _ => 10 - (intOf i).toNat)
  case atStart => exact ⟨0, Nat.zero_le _, rfl, rfl, rfl, fun j _ h => absurd h (Nat.not_lt_zero _), rfl⟩
  case round =>
    obtain ⟨k, hk, rfl, rfl, rfl, hall, rfl⟩ := hrel
    have HA := Lib.hid hall
    clear hall
    by_cases hlt : k < min s.size 10
    · have hks : k < s.size := by omega
      have hki : (k : Int) < (s.size : Int) := by omega
      have hkm : (k : Int) < min (s.size : Int) 10 := by omega
      have hk9 : k ≤ 9 := by omega
      have hand := and_bits s[k]
      obtain ⟨q, hq⟩ : ∃ q, q = 7 * k := ⟨_, rfl⟩
      have h7 : (7 : Int) * (k : Int) = (q : Int) := by omega
      have hq0 : (0 : Int) ≤ (q : Int) := by omega
      have hq64 : (q : Int) ≤ 64 := by omega
      have hwq : IntKind.i64.wrap (q : Int) = (q : Int) := by go_bits; first | trivial | omega
      obtain ⟨A, hA⟩ : ∃ A, A = Tess.dec (s.data.toList.take k) % 18446744073709551616 := ⟨_, rfl⟩
      obtain ⟨B, hB⟩ : ∃ B, B = ((s[k].toNat % 128) * 2 ^ (7 * k)) % 18446744073709551616 := ⟨_, rfl⟩
      obtain ⟨C, hC⟩ : ∃ C, C = Tess.dec (s.data.toList.take (k + 1)) % 18446744073709551616 := ⟨_, rfl⟩
      have hABC : A ||| B = C := by
        rw [hA, hB, hC, Tess.take_split _ k (by simpa using hks)]
        exact Tess.acc_step (s.data.toList.take k) s.data.toList[k] k (by simp; omega) hk9
      have hA64 : A < 18446744073709551616 := by rw [hA]; exact Nat.mod_lt _ (by omega)
      have hB64 : B < 18446744073709551616 := by rw [hB]; exact Nat.mod_lt _ (by omega)
      have hor : bits .or .u64 (A : Int) (B : Int) = (C : Int) := by rw [bits_or_u64_nat A B hA64 hB64, hABC]
      have hsh : IntKind.u64.wrap (((s[k].toNat : Nat) : Int) % 128 * 2 ^ q) = (B : Int) := by rw [shl_cast, hB, hq]
      rw [← hA]
      have HC := Lib.hid hC
      clear hA hB hC hABC hq hA64 hB64
      have hsk : s.data.toList[k]'(by simpa using hks) = s[k] := by simp; rfl
      have hw1 : IntKind.i64.wrap ((k : Int) + 1) = (k : Int) + 1 := by go_bits; first | trivial | omega
      have hwk : IntKind.i64.wrap (k : Int) = (k : Int) := by go_bits; first | trivial | omega
      have hk1 : (k : Int) + 1 - 1 = (k : Int) := by omega
      have hz0 : ((k : Int) + 1 == 0) = false := by rw [beq_eq_false_iff_ne]; omega
      have hsk : s.data.toList[k]'(by simpa using hks) = s[k] := by simp; rfl
      have hw1 : IntKind.i64.wrap ((k : Int) + 1) = (k : Int) + 1 := by go_bits; first | trivial | omega
      have hwk : IntKind.i64.wrap (k : Int) = (k : Int) := by go_bits; first | trivial | omega
      have hk1 : (k : Int) + 1 - 1 = (k : Int) := by omega
      have hz0 : ((k : Int) + 1 == 0) = false := by rw [beq_eq_false_iff_ne]; omega
      by_cases hc : s[k].toNat < 128
      · have hci : ((s[k].toNat : Nat) : Int) < 128 := by omega
        have hstop := Tess.stop_at s.data.toList k (by simp; omega) HA.out (.inr ⟨by simpa using hks, by omega, by rw [hsk]; exact hc⟩)
        have hag := Tess.again s.data.toList k (by simpa using hks) (by omega) HA.out (by rw [hsk]; exact hc)
        have hgv : Tess.goodV s.data.toList k = ((decide (k = 0) || decide (s[k] ≠ 0)) && (decide (k < 9) || decide (s[k].toNat ≤ 1))) := by
          unfold Tess.goodV
          rw [show s.data.toList.getD k 0 = s[k] by rw [← hsk, List.getD_eq_getElem?_getD, List.getElem?_eq_getElem]; rfl]
        have HSTOP := Lib.hid hstop
        have HAG := Lib.hid hag
        have HGV := Lib.hid hgv
        clear hstop hag hgv hsk
        have hGood : Tess.goodV s.data.toList k = true → Tess.getW s = (C, s.extract (k + 1) s.size, 0) := fun hg => by
          unfold Tess.getW
          rw [HSTOP.out, if_pos hlt, if_pos hg, HC.out, Nat.mod_eq_of_lt (HAG.out.2 hg)]
        have hBad : Tess.goodV s.data.toList k = false → Tess.getW s = (0, s, 20) := fun hg => by
          unfold Tess.getW
          rw [HSTOP.out, if_pos hlt, if_neg (by rw [hg]; decide)]
        rw [HGV.out] at hGood hBad
        have HGood := Lib.hid hGood
        have HBad := Lib.hid hBad
        clear hGood hBad HGV HAG HSTOP HC
        have hke : (k : Int) + 1 ≤ (s.size : Int) := by omega
        by_cases h0 : k = 0
        · have HG := Lib.hid (HGood.out (by rw [decide_eq_true h0, decide_eq_true (show k < 9 by omega)]; rfl))
          have hg1 : ¬ (1 : Int) < (k : Int) + 1 := by omega
          have hg1d : decide ((1 : Int) < (k : Int) + 1) = false := decide_eq_false hg1
          have hg10 : ((k : Int) + 1 == 10) = false := by rw [beq_eq_false_iff_ne]; omega
          clear h0 HGood HBad
          go_wp2
          refine wpIn_wide.2 ?_
          go_wp2
          refine ⟨rfl, _, results_tmp2 rfl _ _ _, ?_⟩
          rw [HG.out]
          refine ⟨rfl, World.cell?_setCell_same' _ _ _ (by rw [hp]; rfl), (Below.refl _ _).setCell (p := ⟨p, 0, none⟩) (Nat.le_refl _) _⟩
        · have hg1 : (1 : Int) < (k : Int) + 1 := by omega
          have hg1d : decide ((1 : Int) < (k : Int) + 1) = true := decide_eq_true hg1
          by_cases hcz : s[k] = 0
          · have HG := Lib.hid (HBad.out (by rw [hcz, decide_eq_false h0]; rfl))
            have hcz2 : (((s[k].toNat : Nat) : Int) == 0) = true := by rw [hcz]; rfl
            clear h0 hcz HGood HBad
            go_wp2
            refine wpIn_wide.2 ?_
            go_wp2
            go_quiet (fail)
            go_wp2
            refine ⟨rfl, _, results_tmp2 rfl _ _ _, ?_⟩
            rw [HG.out]
            exact ⟨rfl, hp, below_drewN (Below.refl _ _) _⟩
          · have hcz2 : (((s[k].toNat : Nat) : Int) == 0) = false := by
              rw [beq_eq_false_iff_ne]
              intro e
              exact hcz (UInt8.toNat_inj.1 (by simpa using e))
            by_cases h9 : k = 9
            · have hg10 : ((k : Int) + 1 == 10) = true := by rw [beq_iff_eq]; omega
              by_cases hc1 : s[k].toNat ≤ 1
              · have HG := Lib.hid (HGood.out (by rw [decide_eq_true (show s[k] ≠ 0 from hcz), decide_eq_true hc1]; simp))
                have hc1i : ¬ (1 : Int) < ((s[k].toNat : Nat) : Int) := by omega
                have hc1d : decide ((1 : Int) < ((s[k].toNat : Nat) : Int)) = false := decide_eq_false hc1i
                clear h0 hcz HGood HBad h9
                go_wp2
                refine wpIn_wide.2 ?_
                go_wp2
                refine ⟨rfl, _, results_tmp2 rfl _ _ _, ?_⟩
                rw [HG.out]
                refine ⟨rfl, World.cell?_setCell_same' _ _ _ (by rw [hp]; rfl), (Below.refl _ _).setCell (p := ⟨p, 0, none⟩) (Nat.le_refl _) _⟩
              · have HG := Lib.hid (HBad.out (by rw [decide_eq_false hc1, decide_eq_false (show ¬ k < 9 by omega)]; simp))
                have hc1i : (1 : Int) < ((s[k].toNat : Nat) : Int) := by omega
                have hc1d : decide ((1 : Int) < ((s[k].toNat : Nat) : Int)) = true := decide_eq_true hc1i
                clear h0 hcz HGood HBad h9
                go_wp2
                refine wpIn_wide.2 ?_
                go_wp2
                go_quiet (fail)
                go_wp2
                refine ⟨rfl, _, results_tmp2 rfl _ _ _, ?_⟩
                rw [HG.out]
                exact ⟨rfl, hp, below_drewN (Below.refl _ _) _⟩
            · have HG := Lib.hid (HGood.out (by rw [decide_eq_true (show s[k] ≠ 0 from hcz), decide_eq_true (show k < 9 by omega)]; simp))
              have hg10 : ((k : Int) + 1 == 10) = false := by rw [beq_eq_false_iff_ne]; omega
              clear h0 hcz HGood HBad h9
              go_wp2
              refine wpIn_wide.2 ?_
              go_wp2
              refine ⟨rfl, _, results_tmp2 rfl _ _ _, ?_⟩
              rw [HG.out]
              refine ⟨rfl, World.cell?_setCell_same' _ _ _ (by rw [hp]; rfl), (Below.refl _ _).setCell (p := ⟨p, 0, none⟩) (Nat.le_refl _) _⟩
      · have hci : ¬ ((s[k].toNat : Nat) : Int) < 128 := by omega
        go_wp2
        go_roundw
        case rel =>
          refine ⟨k + 1, by omega, by go_num, rfl, by rw [HC.out], fun j hj hjk => ?_, trivial⟩
          by_cases hjk2 : j < k
          · exact HA.out j hj hjk2
          · obtain rfl : j = k := by omega
            rw [hsk]; omega
        case measure => simp [intOf]; omega
    · have hkm : ¬ (k : Int) < min (s.size : Int) 10 := by omega
      have hstop := Tess.stop_at s.data.toList k (by simpa using hk) HA.out (.inl (by simp; omega))
      have hW : Tess.getW s = (0, s, if s.size < 10 then 21 else 20) := by
        unfold Tess.getW
        rw [hstop, if_neg hlt]
      have HG := Lib.hid hW
      clear hstop hW
      by_cases h10 : s.size < 10
      · have h10i : (s.size : Int) < 10 := by omega
        have h10d : decide ((s.size : Int) < 10) = true := decide_eq_true h10i
        go_wp2
        refine wpIn_wide.2 ?_
        go_wp2
        go_quiet (fail)
        go_wp2
        refine ⟨rfl, _, results_tmp2 rfl _ _ _, ?_⟩
        rw [HG.out, if_pos h10]
        exact ⟨rfl, hp, below_drewN (Below.refl _ _) _⟩
      · have h10i : ¬ (s.size : Int) < 10 := by omega
        have h10d : decide ((s.size : Int) < 10) = false := decide_eq_false h10i
        go_wp2
        refine wpIn_wide.2 ?_
        go_wp2
        go_quiet (fail)
        go_wp2
        refine ⟨rfl, _, results_tmp2 rfl _ _ _, ?_⟩
        rw [HG.out, if_neg h10]
        exact ⟨rfl, hp, below_drewN (Below.refl _ _) _⟩
end Go.Proofs.YtpbecldgoimkmaaDoor
