/- The words that begin with another one: the reference's, walked. -/
import Derived.Test.YtpbecldgoimkmaaDoorD6
namespace Go.Proofs.YtpbecldgoimkmaaDoor
open Go.RowKit Go.Sort

set_option maxHeartbeats 1000000 in
theorem rprefix_any (v : Value) (l : List ByteArray) (x : ByteArray) (w : World) (hv : SlOf w v (l.map .string)) (hl : ∀ z ∈ l, z.size ≤ maxLen) :
    Calls Tryd.prog 22 #[v, .string x] w (TwoPost (Tess.prefixW l x) w) := by
  have hri := rright_any v l w hv hl
  have HV := Lib.hid hv
  have HL := Lib.hid hl
  cases hr : Tess.right l
  · rw [hr] at hri
    have HR := Lib.hid hri
    have hF : Tess.prefixW l x = (0, 0) := by unfold Tess.prefixW; rw [hr]; rfl
    rw [hF]
    clear hri hr hv hl hF
    go_enter Tryd.func22, Tryd.ntmps22
    go_wp2_with (go_at_call 27; refine HR.out.mono ?_; rintro e w1 ⟨rfl, hB1⟩; have HB := Lib.hid hB1; clear hB1)
    go_ret2
    exact ⟨rfl, HB.out⟩
  · rw [hr] at hri
    have HR := Lib.hid hri
    obtain ⟨n, hn⟩ : ∃ n, n = Tess.place l x := ⟨_, rfl⟩
    have hnl : n ≤ l.length := by rw [hn]; exact Tess.place_le l x
    have hF : Tess.prefixW l x = (n, Tess.upTo (Tess.pre x) l n) := by unfold Tess.prefixW; rw [hr, hn]; rfl
    have HP := Lib.hid (fun w1 (hB : Below w.heap.size w w1) => place_any v l x w1 (HV.out.below hB) HL.out)
    rw [← hn] at HP
    obtain ⟨a, cap, rfl, hlen, hc⟩ := sls_open hv
    have HC := Lib.hid hc
    have HF := Lib.hid hF
    clear hri hr hv hl hc hF hn
    go_enter Tryd.func22, Tryd.ntmps22
    go_wp2_with (first
      | (go_at_call 27; refine HR.out.mono ?_; rintro e w1 ⟨rfl, hB1⟩; have HB := Lib.hid hB1; clear hB1)
      | (go_at_call 40; refine (HP.out _ HB.out).mono ?_; rintro e w1 ⟨rfl, hB1⟩; have HB := Lib.hid (Bt HB.out hB1); clear hB1))
    clear HR HP
    go_loopw [7] (fun i wr => ∃ k : Nat, n ≤ k ∧ k ≤ l.length ∧ i = .int .i64 k ∧ (∀ j (hj : j < l.length), n ≤ j → j < k → Tess.pre x l[j] = true) ∧ Below w.heap.size w wr) (fun i _ => l.length - (intOf i).toNat)
    case atStart => exact ⟨n, Nat.le_refl _, hnl, rfl, fun j _ h h' => absurd h' (by omega), HB.out⟩
    case round =>
      obtain ⟨k, hnk, hk, rfl, hall, hB⟩ := hrel
      have HA := Lib.hid hall
      have HB := Lib.hid hB
      clear hall hB
      by_cases hlt : k < l.length
      · obtain ⟨b, off, rfl, hb, hcell⟩ := HC.out k hlt
        have hck : wr.cell? ⟨b, off + k, none⟩ = some (.string l[k]) := (HB.out.cell (p := ⟨b, off + k, none⟩) hb).trans hcell
        have hki : (k : Int) < (l.length : Int) := by omega
        have hkd : decide ((k : Int) < (l.length : Int)) = true := decide_eq_true hki
        obtain ⟨z, hz⟩ : ∃ z, z = l[k] := ⟨_, rfl⟩
        rw [← hz] at hck
        have HE := Lib.hid hz
        clear hcell hz
        have hzz : z.size ≤ maxLen := by rw [HE.out]; exact HL.out _ (List.getElem_mem hlt)
        unfold maxLen at hzz
        by_cases hsz : x.size ≤ z.size
        · have hsi : (x.size : Int) ≤ (z.size : Int) := by omega
          have hsd : decide ((x.size : Int) ≤ (z.size : Int)) = true := decide_eq_true hsi
          go_wp2
          · have hnb : Tess.pre x z = true := by unfold Tess.pre; rw [decide_eq_true hsz, decide_eq_true (str_eq' (by assumption))]; rfl
            have HN := Lib.hid hnb
            clear hnb
            go_roundw
            case rel =>
              refine ⟨k + 1, by omega, by omega, by go_num, fun j hj hnj hjk => ?_, HB.out⟩
              by_cases hjk' : j < k
              · exact HA.out j hj hnj hjk'
              · obtain rfl : j = k := by omega
                rw [← HE.out]; exact HN.out
            case measure => simp [intOf]; omega
          · have hnb : Tess.pre x z = false := by unfold Tess.pre; rw [decide_eq_false (str_ne' (by assumption)), Bool.and_false]
            have HN := Lib.hid (Tess.upTo_at (Tess.pre x) l n k hnk hk HA.out (.inr ⟨hlt, by rw [← HE.out]; exact hnb⟩))
            go_ret2
            exact ⟨by rw [HF.out, HN.out]; rfl, HB.out⟩
        · have hsi : ¬ (x.size : Int) ≤ (z.size : Int) := by omega
          have hsd : decide ((x.size : Int) ≤ (z.size : Int)) = false := decide_eq_false hsi
          have hnb : Tess.pre x z = false := by unfold Tess.pre; rw [decide_eq_false hsz]; rfl
          have HN := Lib.hid (Tess.upTo_at (Tess.pre x) l n k hnk hk HA.out (.inr ⟨hlt, by rw [← HE.out]; exact hnb⟩))
          clear hnb
          go_wp2
          go_ret2
          exact ⟨by rw [HF.out, HN.out]; rfl, HB.out⟩
      · have hki : ¬ (k : Int) < (l.length : Int) := by omega
        have hkd : decide ((k : Int) < (l.length : Int)) = false := decide_eq_false hki
        have HE := Lib.hid (Tess.upTo_at (Tess.pre x) l n k hnk hk HA.out (.inl (by omega)))
        go_wp2
        go_ret2
        exact ⟨by rw [HF.out, HE.out]; rfl, HB.out⟩
end Go.Proofs.YtpbecldgoimkmaaDoor
