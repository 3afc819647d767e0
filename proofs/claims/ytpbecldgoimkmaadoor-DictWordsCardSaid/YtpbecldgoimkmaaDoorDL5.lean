/- The law DictWords, walked: whatever the words, it returns true. -/
import Derived.Test.YtpbecldgoimkmaaDoorD34
import Derived.Test.YtpbecldgoimkmaaDoorD36p
import Derived.Test.YtpbecldgoimkmaaDoorDL2
namespace Go.Proofs.YtpbecldgoimkmaaDoor
open Go.RowKit Go.Sort Go.Shelf
theorem cut100' (x : ByteArray) : (x.extract 0 (min (x.size : Int) 100).toNat).size ≤ 100 := by
  have : (x.extract 0 (min (x.size : Int) 100).toNat).size ≤ (min (x.size : Int) 100).toNat := by simp; omega
  omega
def lenStr : Value → Nat | .string s => s.size | _ => 0
theorem ffs_none (X : ByteArray) : X = X ++ Tess.ffs 0 := by
  apply ByteArray.ext
  apply Array.toList_inj.1
  rw [ByteArray.data_append, Array.toList_append]
  show _ = _ ++ []
  rw [List.append_nil]
theorem ffs_len (X : ByteArray) (j : Nat) : (X ++ Tess.ffs j).size = X.size + j := by rw [ByteArray.size_append, Tess.ffs_size]
theorem ffs_more (X : ByteArray) (k : Nat) : (X ++ Tess.ffs k) ++ (⟨#[255]⟩ : ByteArray) = X ++ Tess.ffs (k + 1) := by
  rw [ByteArray.append_assoc]
  congr 1
  apply ByteArray.ext
  apply Array.toList_inj.1
  rw [ByteArray.data_append, Array.toList_append]
  show List.replicate k (255 : UInt8) ++ [255] = List.replicate (k + 1) 255
  rw [List.replicate_succ']

set_option maxRecDepth 100000 in
set_option maxHeartbeats 4000000 in
theorem DictWords_any (a0 a1 : Addr) (v : Value) (l : List ByteArray) (x : ByteArray) (w : World) (hV : Vars a0 a1 w) (hv : SlOf w v (l.map .string) ∧ ∀ x ∈ l, x.size ≤ maxLen) (hx : x.size ≤ maxLen) :
    Calls Tryd.prog 9 #[v, .string x] w fun e w' => e = .returned (.bool true) ∧ Below w.heap.size w w' := by
  unfold maxLen at hx
  obtain ⟨hv, hl⟩ := hv
  have HV := Lib.hid hv
  have HL := Lib.hid hl
  have hfl := few_len 100 l
  have HFEW := Lib.hid (fun w (hb : Below _ _ w) => few_any v 100 l w (by omega) (HV.out.below hb) HL.out)
  have HSH := Lib.hid (shown_any a0 a1 w hV)
  generalize fewN 100 l = fl at *
  have HBD0 := Lib.hid fun v l W (h : SlOf W v (l.map .string)) (hl : l.length ≤ 10000) => build_any v l W h hl
  have hb : ∀ v W, SlOf W v (fl.map .string) → Calls Tryd.prog 25 #[v] W (BuildPost fl W) := fun v W h => HBD0.out v fl W h (by omega)
  unfold BuildPost at hb
  have htwo := Tess.buildW_two fl
  have hri := Tess.buildW_right fl
  have hall := Tess.sortW_all fl
  obtain ⟨⟨d, c⟩, hg⟩ : ∃ g, g = Tess.buildW fl := ⟨_, rfl⟩
  rw [← hg] at hb htwo hri
  simp only at hb htwo hri
  have HBD := Lib.hid hb
  clear hv hl hV hb hg
  rcases htwo with ⟨rfl, hd, _⟩ | ⟨rfl, hd⟩
  · have hri := hri rfl
    rw [← hd] at hall
    clear hd
    have HALL := Lib.hid hall
    have HRI := Lib.hid hri
    have hlen := Tess.right_len d hri
    clear hri hall
    have HF := Lib.hid fun v W (h : SlOf W v (d.map .string)) x => find_any v d x W h
    go_enter Tryd.func9, Tryd.ntmps9
    go_wp2_with (first
      | (go_at_call 10; refine HSH.out.mono ?_; rintro e w1 ⟨rfl, hB'⟩; have HB := Lib.hid hB'; clear hB')
      | (go_at_call 11; refine (HFEW.out _ HB.out).mono ?_; rintro e w2 ⟨vf, rfl, hvf, hB'⟩; have HVF := Lib.hid hvf; have HB := Lib.hid (Bt HB.out hB'); clear hB' hvf)
      | (go_at_call 25; refine (HBD.out _ _ HVF.out).mono ?_; rintro e w3 ⟨va, rfl, hva, hB'⟩; have HVF := Lib.hid (HVF.out.below hB'); have HVA := Lib.hid hva; have HB := Lib.hid (Bt HB.out hB'); clear hB' hva))
    have HXs := Lib.hid (cut100' x)
    generalize x.extract 0 (min (x.size : Int) 100).toNat = X at *
    obtain ⟨af, capf, rfl, hfl2, hcf⟩ := sls_open HVF.out
    obtain ⟨ad, capd, rfl, hdl, hcd⟩ := sls_open HVA.out
    have HCF := Lib.hid hcf
    have HCD := Lib.hid hcd
    clear hcf hcd
    go_loopw [8, 9] (fun is i wr => ∃ k : Nat, k ≤ fl.length ∧ i = .int .i64 k ∧ is = .bool (Tess.has (fl.take k) X) ∧ Below w.heap.size w wr ∧ Below w3.heap.size w3 wr) (fun _ i _ => fl.length - (intOf i).toNat)
    case atStart => exact ⟨0, Nat.zero_le _, rfl, rfl, HB.out, Below.refl _ _⟩
    case round =>
      obtain ⟨k, hk, rfl, rfl, hBr, hB4⟩ := hrel
      have HB := Lib.hid hBr
      have HB4 := Lib.hid hB4
      clear hBr hB4
      by_cases hlt : k < fl.length
      · obtain ⟨b, off, rfl, hb, hcell⟩ := HCF.out k hlt
        have hck : wr.cell? ⟨b, off + k, none⟩ = some (.string fl[k]) := (HB4.out.cell (p := ⟨b, off + k, none⟩) hb).trans hcell
        have hbr : b < wr.heap.size := Nat.lt_of_lt_of_le hb HB4.out.size
        have hki : (k : Int) < (fl.length : Int) := by omega
        have hk0 : (0 : Int) ≤ (k : Int) := by omega
        have HH := Lib.hid (Tess.has_succ fl X k hlt)
        obtain ⟨n, hn, hdn, hfn⟩ := Tess.findW_of d HRI.out fl[k] ((HALL.out fl[k]).2 (List.getElem_mem hlt))
        obtain ⟨b2, off2, rfl, hb2, hcell2⟩ := HCD.out n hn
        have hck2 : wr.cell? ⟨b2, off2 + n, none⟩ = some (.string d[n]) := (HB4.out.cell (p := ⟨b2, off2 + n, none⟩) hb2).trans hcell2
        have hbr2 : b2 < wr.heap.size := Nat.lt_of_lt_of_le hb2 HB4.out.size
        rw [hdn] at hck2
        have hni : (n : Int) < (d.length : Int) := by omega
        have hn0 : ¬ (n : Int) < 0 := by omega
        have hn0' : (0 : Int) ≤ (n : Int) := by omega
        have hnge : ¬ (d.length : Int) ≤ (n : Int) := by omega
        have d1 : decide ((n : Int) < 0) = false := decide_eq_false hn0
        have d2 : decide ((d.length : Int) ≤ (n : Int)) = false := decide_eq_false hnge
        have hf := fun v W h => HF.out v W h fl[k]
        unfold FindPost at hf
        rw [hfn] at hf
        simp only at hf
        obtain ⟨z, hz⟩ : ∃ z, z = fl[k] := ⟨_, rfl⟩
        rw [← hz] at hck hf hck2 HH
        have HF1 := Lib.hid hf
        have d3 : (z.toList == z.toList) = true := by simp
        clear hcell hz hcell2 hf hfn hdn
        have hstr := str_beq z X
        obtain ⟨bi, hbi⟩ : ∃ b, b = Tess.has (fl.take k) X := ⟨_, rfl⟩
        rw [← hbi] at HH
        rw [← hbi]
        clear hbi
        obtain ⟨be, hbe⟩ : ∃ b, b = decide (z = X) := ⟨_, rfl⟩
        rw [← hbe] at HH hstr
        clear hbe
        replace hstr := hstr.symm
        rcases bi with _ | _ <;> rcases be with _ | _
        all_goals (
          go_wp2_with (go_at_call 19; refine (HF1.out _ _ (HVA.out.below HB4.out)).mono ?_; rintro e w5 ⟨rfl, hB'⟩; have hck2 := (hB'.cell (p := ⟨b2, off2 + n, none⟩) hbr2).trans hck2; have hck := (hB'.cell (p := ⟨b, off + k, none⟩) hbr).trans hck; have HB := Lib.hid (Bt HB.out hB'); have HB4 := Lib.hid (Bt HB4.out hB'); clear hB')
          go_quiet (fail)
          go_wp2
          go_roundw
          case rel => exact ⟨k + 1, by omega, by go_num, by rw [HH.out]; rfl, below_drewN HB.out _, below_drewN HB4.out _⟩
          case measure => simp [intOf]; omega)
      · obtain rfl : k = fl.length := by omega
        have hki : ¬ (fl.length : Int) < (fl.length : Int) := by omega
        have his : Tess.has (fl.take fl.length) X = Tess.has d X := by
          rw [List.take_length]; exact Tess.has_same X ((HALL.out X).symm)
        rw [his]
        have hfi := Tess.findW_is d HRI.out X
        have hf := fun v W h => HF.out v W h X
        have hp := fun v W (h : SlOf W v (d.map .string)) => prefix_any v d X W h
        unfold FindPost at hf
        rw [hfi] at hf
        unfold TwoPost at hp
        have HPB := Lib.hid (Tess.prefix_between d HRI.out X)
        obtain ⟨⟨pa, pb⟩, hpe⟩ : ∃ g, g = Tess.prefixW d X := ⟨_, rfl⟩
        rw [← hpe] at hp HPB
        simp only at hp
        generalize Tess.has d X = bi at *
        have HF1 := Lib.hid hf
        have HP1 := Lib.hid hp
        have HBT := Lib.hid fun v W (h : SlOf W v (d.map .string)) x y => between_any v d x y W h
        have HRT := Lib.hid fun v W (h : SlOf W v (d.map .string)) => right_any v d W h
        have hbd := fun v W (h : SlOf W v (d.map .string)) => HBD0.out v d W h (by omega)
        unfold BuildPost at hbd
        rw [Tess.buildW_self d HRI.out] at hbd
        simp only at hbd
        have HBD1 := Lib.hid hbd
        have HVD := Lib.hid (HVA.out.below HB4.out)
        clear hf hp hpe hbd hfi his HB4
        go_wp2_with (first
          | (go_at_call 19; refine (HF1.out _ _ HVD.out).mono ?_; rintro e w5 ⟨rfl, hB'⟩; have HVD := Lib.hid (HVD.out.below hB'); have HB := Lib.hid (Bt HB.out hB'); clear hB')
          | (go_at_call 21; refine (HP1.out _ _ HVD.out).mono ?_; rintro e w6 ⟨rfl, hB'⟩; have HVD := Lib.hid (HVD.out.below hB'); have HB := Lib.hid (Bt HB.out hB'); clear hB'))
        go_loopw [16] (fun la wr => ∃ j : Nat, X.size + j ≤ 202 ∧ la = .string (X ++ Tess.ffs j) ∧ Below w.heap.size w wr ∧ Below w6.heap.size w6 wr) (fun la _ => 202 - lenStr la)
        case atStart => exact ⟨0, by have := HXs.out; omega, by rw [← ffs_none], HB.out, Below.refl _ _⟩
        case round =>
          obtain ⟨j, hj, rfl, hBr, hB6⟩ := hrel
          have hls := ffs_len X j
          have hmo := ffs_more X j
          have hls' := ffs_len X (j + 1)
          by_cases hlt : X.size + j < 202
          · have HM := Lib.hid hmo
            have HLS := Lib.hid hls
            have HLS' := Lib.hid hls'
            have HB := Lib.hid hBr
            have HB6 := Lib.hid hB6
            obtain ⟨L, hL⟩ : ∃ L, L = X ++ Tess.ffs j := ⟨_, rfl⟩
            rw [← hL] at HLS HM
            rw [← hL]
            have hi1 : (L.size : Int) < 202 := by have := HLS.out; omega
            clear hls hmo hls' hL hBr hB6
            go_wp2
            go_roundw
            case rel => exact ⟨j + 1, by omega, by rw [← HM.out], HB.out, HB6.out⟩
            case measure =>
              have h1 := HLS.out
              have h2 := HLS'.out
              rw [← HM.out] at h2
              show 202 - (L ++ _).size < 202 - L.size
              rw [h2, h1]
              omega
          · obtain ⟨pa', b', f, h1, h2, h3, h4, h5⟩ := HPB.out j (by have := HXs.out; omega)
            obtain ⟨rfl, rfl⟩ := Prod.mk.inj h1
            have hbt := fun v W h => HBT.out v W h X (X ++ Tess.ffs j)
            unfold TwoPost at hbt
            rw [h2] at hbt
            simp only at hbt
            obtain ⟨L, hL⟩ : ∃ L, L = X ++ Tess.ffs j := ⟨_, rfl⟩
            rw [← hL] at hbt hls
            rw [← hL]
            have HBT1 := Lib.hid hbt
            have HB := Lib.hid hBr
            have HVD := Lib.hid (HVD.out.below hB6)
            have hi1 : ¬ (L.size : Int) < 202 := by omega
            have hi2 : (pa : Int) ≤ (pb : Int) := by omega
            have hi3 : (pb : Int) ≤ (f : Int) := by omega
            clear hL hmo hls' hbt hBr hB6 h1 h2 h3 h4 h5 hls hlt hj
            go_wp2_with (first
              | (go_at_call 23; refine (HBT1.out _ _ HVD.out).mono ?_; rintro e w7 ⟨rfl, hB'⟩; have HVD := Lib.hid (HVD.out.below hB'); have HB := Lib.hid (Bt HB.out hB'); clear hB')
              | (go_at_call 25; refine (HBD1.out _ _ HVD.out).mono ?_; rintro e w8 ⟨va, rfl, hva, hB'⟩; have HVD := Lib.hid (HVD.out.below hB'); have HVA := Lib.hid hva; have HB := Lib.hid (Bt HB.out hB'); clear hB' hva)
              | (go_at_call 17; refine (texts_any _ _ d d _ HVA.out HVD.out).mono ?_; rintro e w9 ⟨rfl, hB'⟩; have HVD := Lib.hid (HVD.out.below hB'); have HB := Lib.hid (Bt HB.out hB'); clear hB'; rw [decide_eq_true rfl])
              | (go_at_call 26; refine (HRT.out _ _ HVD.out).mono ?_; rintro e w9 ⟨rfl, hB'⟩; have HB := Lib.hid (Bt HB.out hB'); clear hB'; rw [HRI.out]))
            go_ret
            exact ⟨by first | rfl | simp, HB.out⟩
  · subst hd
    go_enter Tryd.func9, Tryd.ntmps9
    go_wp2_with (first
      | (go_at_call 10; refine HSH.out.mono ?_; rintro e w1 ⟨rfl, hB'⟩; have HB := Lib.hid hB'; clear hB')
      | (go_at_call 11; refine (HFEW.out _ HB.out).mono ?_; rintro e w2 ⟨vf, rfl, hvf, hB'⟩; have HVF := Lib.hid hvf; have HB := Lib.hid (Bt HB.out hB'); clear hB' hvf)
      | (go_at_call 25; refine (HBD.out _ _ HVF.out).mono ?_; rintro e w3 ⟨va, rfl, hva, hB'⟩; obtain ⟨av, cap, rfl, _, _⟩ := sls_open hva; have HB := Lib.hid (Bt HB.out hB'); clear hB' hva))
    go_ret
    exact ⟨by first | rfl | simp, HB.out⟩
end Go.Proofs.YtpbecldgoimkmaaDoor
