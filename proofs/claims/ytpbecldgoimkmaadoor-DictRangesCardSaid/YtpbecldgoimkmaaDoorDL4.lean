/- The law DictRanges, walked: whatever the words, it returns true. -/
import Derived.Test.YtpbecldgoimkmaaDoorD34
import Derived.Test.YtpbecldgoimkmaaDoorD35p
import Derived.Test.YtpbecldgoimkmaaDoorDL2
namespace Go.Proofs.YtpbecldgoimkmaaDoor
open Go.RowKit Go.Sort Go.Shelf

theorem cut100 (x : ByteArray) : (x.extract 0 (min (x.size : Int) 100).toNat).size ≤ 100 := by
  have : (x.extract 0 (min (x.size : Int) 100).toNat).size ≤ (min (x.size : Int) 100).toNat := by simp; omega
  omega

set_option maxRecDepth 100000 in
set_option maxHeartbeats 4000000 in
theorem DictRanges_any (a0 a1 : Addr) (v : Value) (l : List ByteArray) (x y : ByteArray) (w : World) (hV : Vars a0 a1 w) (hv : SlOf w v (l.map .string) ∧ ∀ x ∈ l, x.size ≤ maxLen) (hx : x.size ≤ maxLen) (hy : y.size ≤ maxLen) :
    Calls Tryd.prog 8 #[v, .string x, .string y] w fun e w' => e = .returned (.bool true) ∧ Below w.heap.size w w' := by
  unfold maxLen at hx hy
  obtain ⟨hv, hl⟩ := hv
  have HV := Lib.hid hv
  have HL := Lib.hid hl
  have hfs := few_size 100 l
  have hfl := few_len 100 l
  have HFEW := Lib.hid (fun w (hb : Below _ _ w) => few_any v 100 l w (by omega) (HV.out.below hb) HL.out)
  have HSH := Lib.hid (shown_any a0 a1 w hV)
  generalize fewN 100 l = fl at *
  have hb : ∀ v W, SlOf W v (fl.map .string) → Calls Tryd.prog 25 #[v] W (BuildPost fl W) := fun v W h => build_any v fl W h (by omega)
  unfold BuildPost at hb
  have htwo := Tess.buildW_two fl
  have hri := Tess.buildW_right fl
  obtain ⟨⟨d, c⟩, hg⟩ : ∃ g, g = Tess.buildW fl := ⟨_, rfl⟩
  rw [← hg] at hb htwo hri
  simp only at hb htwo hri
  have HBD := Lib.hid hb
  clear hv hl hV hb hg
  rcases htwo with ⟨rfl, hd, _⟩ | ⟨rfl, hd⟩
  all_goals clear hd
  · have hri := hri rfl
    have HRI := Lib.hid hri
    clear hri
    have HBT := Lib.hid fun v W (h : SlOf W v (d.map .string)) x y => between_any v d x y W h
    go_enter Tryd.func8, Tryd.ntmps8
    go_wp2_with (first
      | (go_at_call 10; refine HSH.out.mono ?_; rintro e w1 ⟨rfl, hB'⟩; have HB := Lib.hid hB'; clear hB')
      | (go_at_call 11; refine (HFEW.out _ HB.out).mono ?_; rintro e w2 ⟨vf, rfl, hvf, hB'⟩; have HVF := Lib.hid hvf; have HB := Lib.hid (Bt HB.out hB'); clear hB' hvf)
      | (go_at_call 25; refine (HBD.out _ _ HVF.out).mono ?_; rintro e w3 ⟨va, rfl, hva, hB'⟩; have HVA := Lib.hid hva; have HB := Lib.hid (Bt HB.out hB'); clear hB' hva)
      | (go_at_call 23; have HXs := Lib.hid (cut100 x); have HYs := Lib.hid (cut100 y); generalize x.extract 0 (min (x.size : Int) 100).toNat = X at *; generalize y.extract 0 (min (y.size : Int) 100).toNat = Y at *; obtain ⟨p, q, hpq, hle, hlen, h1, h2, h3⟩ := Tess.between_in d HRI.out X Y; have hbt := HBT.out _ _ HVA.out X Y; rw [hpq] at hbt; refine hbt.mono ?_; rintro e w4 ⟨rfl, hB'⟩; have HVA := Lib.hid (HVA.out.below hB'); have HB := Lib.hid (Bt HB.out hB'); have H1 := Lib.hid h1; have H2 := Lib.hid h2; have H3 := Lib.hid h3; clear hB' hbt h1 h2 h3 hpq))
    obtain ⟨av, cap, rfl, hdl, hcd⟩ := sls_open HVA.out
    have HC := Lib.hid hcd
    clear hcd HVA
    go_loopw [12] (fun i wr => ∃ k : Nat, k ≤ d.length ∧ i = .int .i64 k ∧ Below w.heap.size w wr ∧ Below w4.heap.size w4 wr) (fun i _ => d.length - (intOf i).toNat)
    case atStart => exact ⟨0, Nat.zero_le _, rfl, HB.out, Below.refl _ _⟩
    case round =>
      obtain ⟨k, hk, rfl, hBr, hB4⟩ := hrel
      have HB := Lib.hid hBr
      have HB4 := Lib.hid hB4
      clear hBr hB4
      by_cases hlt : k < d.length
      · obtain ⟨b, off, rfl, hb, hcell⟩ := HC.out k hlt
        have hck : wr.cell? ⟨b, off + k, none⟩ = some (.string d[k]) := (HB4.out.cell (p := ⟨b, off + k, none⟩) hb).trans hcell
        have hbr : b < wr.heap.size := Nat.lt_of_lt_of_le hb HB4.out.size
        have hki : (k : Int) < (d.length : Int) := by omega
        have hk0 : (0 : Int) ≤ (k : Int) := by omega
        have hgd := Tess.getD_lt d k hlt
        have h1 := H1.out k
        have h2 := H2.out k
        have h3 := H3.out k
        have hzs := Tess.right_size d HRI.out k hlt
        rw [hgd] at h1 h2 h3 hzs
        obtain ⟨z, hz⟩ : ∃ z, z = d[k] := ⟨_, rfl⟩
        rw [← hz] at hck h1 h2 h3 hzs
        have HA1 := Lib.hid fun W => ahead_any z X W (by unfold maxLen; omega)
        have HA2 := Lib.hid fun W => ahead_any Y z W (by unfold maxLen; have := HYs.out; omega)
        clear hcell hz hgd
        by_cases hp : k < p
        · have e1 := h1 hp
          rw [e1] at HA1
          have hpi : ¬ (p : Int) ≤ (k : Int) := by omega
          clear h1 h2 h3
          go_wp2_with (go_at_call 28; (first | (with_reducible refine (HA1.out _).mono ?_; rintro e w5 ⟨rfl, hB'⟩) | (with_reducible refine (HA2.out _).mono ?_; rintro e w5 ⟨rfl, hB'⟩)); have hbw := Nat.lt_of_lt_of_le hbr hB'.size; have hck := (hB'.cell (p := ⟨b, off + k, none⟩) hbr).trans hck; have HB := Lib.hid (Bt HB.out hB'); have HB4 := Lib.hid (Bt HB4.out hB'); have hbr := hbw; clear hB')
          go_roundw
          case rel => exact ⟨k + 1, by omega, by go_num, HB.out, HB4.out⟩
          case measure => simp [intOf]; omega
        · by_cases hq : k < q
          · obtain ⟨e1, e2⟩ := h2 (by omega) hq
            rw [e1] at HA1
            rw [e2] at HA2
            have hpi : (p : Int) ≤ (k : Int) := by omega
            have hqi : (k : Int) < (q : Int) := by omega
            clear h1 h2 h3
            go_wp2_with (go_at_call 28; (first | (with_reducible refine (HA1.out _).mono ?_; rintro e w5 ⟨rfl, hB'⟩) | (with_reducible refine (HA2.out _).mono ?_; rintro e w5 ⟨rfl, hB'⟩)); have hbw := Nat.lt_of_lt_of_le hbr hB'.size; have hck := (hB'.cell (p := ⟨b, off + k, none⟩) hbr).trans hck; have HB := Lib.hid (Bt HB.out hB'); have HB4 := Lib.hid (Bt HB4.out hB'); have hbr := hbw; clear hB')
            go_roundw
            case rel => exact ⟨k + 1, by omega, by go_num, HB.out, HB4.out⟩
            case measure => simp [intOf]; omega
          · obtain ⟨e1, e2⟩ := h3 (by omega) hlt
            rw [e1] at HA1
            rw [e2] at HA2
            have hpi : (p : Int) ≤ (k : Int) := by omega
            have hqi : ¬ (k : Int) < (q : Int) := by omega
            clear h1 h2 h3
            go_wp2_with (go_at_call 28; (first | (with_reducible refine (HA1.out _).mono ?_; rintro e w5 ⟨rfl, hB'⟩) | (with_reducible refine (HA2.out _).mono ?_; rintro e w5 ⟨rfl, hB'⟩)); have hbw := Nat.lt_of_lt_of_le hbr hB'.size; have hck := (hB'.cell (p := ⟨b, off + k, none⟩) hbr).trans hck; have HB := Lib.hid (Bt HB.out hB'); have HB4 := Lib.hid (Bt HB4.out hB'); have hbr := hbw; clear hB')
            go_roundw
            case rel => exact ⟨k + 1, by omega, by go_num, HB.out, HB4.out⟩
            case measure => simp [intOf]; omega
      · obtain rfl : k = d.length := by omega
        have hki : ¬ (d.length : Int) < (d.length : Int) := by omega
        have i1 : (0 : Int) ≤ (p : Int) := by omega
        have i2 : (p : Int) ≤ (q : Int) := by omega
        have i3 : (q : Int) ≤ (d.length : Int) := by omega
        go_wp2
        go_ret
        exact ⟨by first | rfl | simp, HB.out⟩
  · go_enter Tryd.func8, Tryd.ntmps8
    go_wp2_with (first
      | (go_at_call 10; refine HSH.out.mono ?_; rintro e w1 ⟨rfl, hB'⟩; have HB := Lib.hid hB'; clear hB')
      | (go_at_call 11; refine (HFEW.out _ HB.out).mono ?_; rintro e w2 ⟨vf, rfl, hvf, hB'⟩; have HVF := Lib.hid hvf; have HB := Lib.hid (Bt HB.out hB'); clear hB' hvf)
      | (go_at_call 25; refine (HBD.out _ _ HVF.out).mono ?_; rintro e w3 ⟨va, rfl, hva, hB'⟩; have HVA := Lib.hid hva; have HB := Lib.hid (Bt HB.out hB'); clear hB' hva))
    go_ret
    exact ⟨by first | rfl | simp, HB.out⟩
end Go.Proofs.YtpbecldgoimkmaaDoor
