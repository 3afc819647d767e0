/- Is a filter right, but for those of its list, the document's: walked kind by kind. Written by genG7.py. -/
import Derived.Test.YtdfnolgcdododaaDoorGA
namespace Go.Proofs.YtdfnolgcdododaaDoor
open Go.RowKit Go.Sort
open Tess (Fil)
open Tess.Fil (inW)
theorem own_form (s : Tess.Sch) (kd : Int) (nm : ByteArray) (wds : List ByteArray) (frm to : Int) (lst : List Fil) (hn hs : Bool) (a b : Nat × Nat) (h : Fil.form kd = some (hn, hs, a, b)) :
    Fil.own s (.mk kd nm wds frm to lst) = (((Tess.dimW s nm).2 == hn) && ((Tess.dimW s nm).2 || nm.size == 0) && (hs || (decide (frm = 0) && decide (to = 0))) && inW wds.length a && inW lst.length b && !wds.any (fun x => decide (100 < x.size))) := by
  unfold Fil.own
  simp only [Fil.kind, Fil.name, Fil.words, Fil.frm, Fil.to, Fil.l, h]
  rfl
set_option maxRecDepth 100000 in
set_option maxHeartbeats 8000000 in
theorem rOwn_any (p : Nat → Prop) (n : Nat) (vs v : Value) (s : Tess.Sch) (f : Fil) (w : World) (hs : SchAt p w vs s) (hf : FilAt p n w v f) :
    Calls Tryd.prog 67 #[vs, v] w fun e w' => e = .returned (.bool (Fil.own s f)) ∧ Below w.heap.size w w' := by
  cases n with
  | zero => exact hf.elim
  | succ n =>
  obtain ⟨kd, nm, wds, frm, to, lst⟩ := f
  obtain ⟨vw, za, zc, rfl, hnz, hw, hwz, hl, _, _⟩ := hf
  simp only [Fil.kind, Fil.name, Fil.words, Fil.frm, Fil.to, Fil.l] at hnz hw hwz hl ⊢
  have HDIM := Lib.hid (fun W (hB : Below w.heap.size w W) => rDim_any p vs s nm W (hs.ag (Ag.new p hB)))
  obtain ⟨vd, vm, rfl, hd, hm, _, _⟩ := hs
  obtain ⟨ad, capd, rfl, _⟩ := slp_len hd
  obtain ⟨am, capm, rfl, _⟩ := slp_len hm
  obtain ⟨wa, wc, rfl, hwl, hwc⟩ := sls_open hw.1
  clear hd hm hw
  obtain ⟨W0, hW0⟩ : ∃ W0, (w.alloc (.cells #[.slice ad s.dims.length capd, .slice am s.mets.length capm, .int .i64 s.grain] 24)).alloc (.cells #[.int .i64 kd, .string nm, .slice wa wds.length wc, .int .i64 frm, .int .i64 to, .slice za lst.length zc] 29) = W0 := ⟨_, rfl⟩
  obtain ⟨h0, h1, hS, hB⟩ := laid2 w (.cells #[.slice ad s.dims.length capd, .slice am s.mets.length capm, .int .i64 s.grain] 24) (.cells #[.int .i64 kd, .string nm, .slice wa wds.length wc, .int .i64 frm, .int .i64 to, .slice za lst.length zc] 29)
  rw [hW0] at h0 h1 hS hB
  have HB := Lib.hid hB
  have HC := Lib.hid (fun X (hX : Below W0.heap.size W0 X) => And.intro (can3 ((hX.block _ (by omega)).trans h0)).1 (can6 ((hX.block _ (by omega)).trans h1)).1)
  have HWC := Lib.hid (fun k (hk : k < wds.length) => hwc k hk)
  have HWZ := Lib.hid hwz
  obtain ⟨⟨s0, s1, s2⟩, f0, f1, f2, f3, f4, f5⟩ := HC.out W0 (Below.refl _ _)
  have hll : lst.length ≤ 9223372036854775807 := by unfold maxLen at hl; omega
  have HDE : RowKit.Hid (∀ hn hs a b, Fil.form kd = some (hn, hs, a, b) → _) := Lib.hid (own_form s kd nm wds frm to lst)
  generalize hdw : Tess.dimW s nm = dw at HDIM HDE
  obtain ⟨di, D⟩ := dw
  have HL := Lib.hid hl
  clear h0 h1 hS hB hwc hwz hdw hl
  by_cases k1 : kd = 1
  · subst k1
    have HOWN := Lib.hid (HDE.out false false (0, 0) (0, 0) rfl)
    clear HDE
    go_enter Tryd.func67, Tryd.ntmps67
    go_wp2_with (fail)
    go_loopw [10] (fun i wr => ∃ k : Nat, k ≤ wds.length ∧ i = .int .i64 k ∧ (∀ j (h1 : j < wds.length), j < k → ¬ 100 < wds[j].size) ∧ Below W0.heap.size W0 wr) (fun i _ => wds.length - (intOf i).toNat)
    case atStart => exact ⟨0, Nat.zero_le _, rfl, fun j _ h => absurd h (Nat.not_lt_zero _), Below.refl _ _⟩
    case round =>
      obtain ⟨k, hk, rfl, hall, hBr⟩ := hrel
      have HALL := Lib.hid hall
      have HBr := Lib.hid hBr
      clear hall hBr s0 s1 s2 f0 f1 f2 f3 f4 f5
      obtain ⟨⟨s0, s1, s2⟩, f0, f1, f2, f3, f4, f5⟩ := HC.out wr HBr.out
      by_cases hlt : k < wds.length
      · obtain ⟨b1, o1, rfl, hb1, hc1⟩ := HWC.out k hlt
        have e1 := ((Bt HB.out HBr.out).cell (p := ⟨b1, o1 + k, none⟩) hb1).trans hc1
        have hz1 : wds[k].size ≤ 9223372036854775807 := by have := HWZ.out _ (List.getElem_mem hlt); unfold maxLen at this; omega
        have hki : (k : Int) < (wds.length : Int) := by omega
        clear hc1 hb1
        by_cases hbig : 100 < wds[k].size
        · have hb : (100 : Int) < (wds[k].size : Int) := by omega
          have HBIG := Lib.hid hbig
          clear hbig
          go_wp2
          go_ret
          refine ⟨ret_bool' ?_, Bt HB.out HBr.out⟩
          rw [HOWN.out, show (wds.any fun x => decide (100 < x.size)) = true from List.any_eq_true.2 ⟨_, List.getElem_mem hlt, decide_eq_true HBIG.out⟩]
          simp
        · have hb : ¬ (100 : Int) < (wds[k].size : Int) := by omega
          have HBIG := Lib.hid hbig
          clear hbig
          go_wp2
          go_roundw
          case rel =>
            refine ⟨k + 1, by omega, by go_num, fun j h1 hjk => ?_, HBr.out⟩
            by_cases hjk' : j < k
            · exact HALL.out j h1 hjk'
            · obtain rfl : j = k := by omega
              exact HBIG.out
          case measure => simp [intOf]; omega
      · have hki : ¬ (k : Int) < (wds.length : Int) := by omega
        have HANY := Lib.hid (show (wds.any fun x => decide (100 < x.size)) = false from by
          rw [List.any_eq_false]
          intro y hy
          obtain ⟨j, hj, rfl⟩ := List.getElem_of_mem hy
          have := HALL.out j hj (by omega)
          simpa using this)
        rw [HANY.out] at HOWN
        go_wp2_with (fail)
        go_at_call 64
        refine (HDIM.out wr (Bt HB.out HBr.out)).mono ?_
        rintro e w2 ⟨rfl, hB2⟩
        have HB2 := Lib.hid (Bt HBr.out hB2)
        clear hB2 s0 s1 s2 f0 f1 f2 f3 f4 f5
        obtain ⟨⟨s0, s1, s2⟩, f0, f1, f2, f3, f4, f5⟩ := HC.out w2 HB2.out
        cases D
        · by_cases hnm : nm = ByteArray.empty
          · subst hnm
            by_cases hfr : frm = 0
            · by_cases hto : to = 0
              · subst hfr hto
                generalize hW1 : inW wds.length (0, 0) = W1 at HOWN
                generalize hL1 : inW lst.length (0, 0) = L1 at HOWN
                have HA1 := Lib.hid (fun W => rbetween_any wds.length 0 0 W)
                have HA2 := Lib.hid (fun W => rbetween_any lst.length 0 0 W)
                rw [hW1] at HA1
                rw [hL1] at HA2
                clear hW1 hL1
                go_wp2_with (fail)
                go_at_call 99
                refine (HA1.out _).mono ?_
                rintro e w3 ⟨rfl, rfl⟩
                cases W1
                · go_wp2
                  go_ret
                  exact ⟨ret_bool' (by rw [HOWN.out]; simp), Bt HB.out HB2.out⟩
                · go_wp2_with (fail)
                  go_at_call 99
                  refine (HA2.out _).mono ?_
                  rintro e w4 ⟨rfl, rfl⟩
                  go_wp2
                  go_ret
                  exact ⟨ret_bool' (by rw [HOWN.out]; simp ), Bt HB.out HB2.out⟩
              · have hto' : (to == 0) = false := beq_eq_false_iff_ne.2 hto
                have HT := Lib.hid (decide_eq_false hto)
                subst hfr
                rw [HT.out] at HOWN
                clear hto
                go_wp2
                go_ret
                exact ⟨ret_bool' (by rw [HOWN.out]; simp), Bt HB.out HB2.out⟩
            · have hfr' : (frm == 0) = false := beq_eq_false_iff_ne.2 hfr
              have HT := Lib.hid (decide_eq_false hfr)
              rw [HT.out] at HOWN
              clear hfr
              go_wp2
              go_ret
              exact ⟨ret_bool' (by rw [HOWN.out]; simp), Bt HB.out HB2.out⟩
          · have hnm' : nm.toList ≠ [] := fun e => hnm (str_inj (e.trans (by rw [ByteArray.toList_eq]; rfl)))
            have HN := Lib.hid (show (nm.size == 0) = false from beq_eq_false_iff_ne.2 fun e => hnm (by
              apply ByteArray.ext; apply Array.eq_empty_of_size_eq_zero; exact e))
            rw [HN.out] at HOWN
            clear hnm
            go_wp2
            go_ret
            exact ⟨ret_bool' (by rw [HOWN.out]; simp), Bt HB.out HB2.out⟩
        · go_wp2
          go_ret
          exact ⟨ret_bool' (by rw [HOWN.out]; simp), Bt HB.out HB2.out⟩
  by_cases k2 : kd = 2
  · subst k2
    have HOWN := Lib.hid (HDE.out true false (1, 8) (0, 0) rfl)
    clear HDE k1
    go_enter Tryd.func67, Tryd.ntmps67
    go_wp2_with (fail)
    go_loopw [10] (fun i wr => ∃ k : Nat, k ≤ wds.length ∧ i = .int .i64 k ∧ (∀ j (h1 : j < wds.length), j < k → ¬ 100 < wds[j].size) ∧ Below W0.heap.size W0 wr) (fun i _ => wds.length - (intOf i).toNat)
    case atStart => exact ⟨0, Nat.zero_le _, rfl, fun j _ h => absurd h (Nat.not_lt_zero _), Below.refl _ _⟩
    case round =>
      obtain ⟨k, hk, rfl, hall, hBr⟩ := hrel
      have HALL := Lib.hid hall
      have HBr := Lib.hid hBr
      clear hall hBr s0 s1 s2 f0 f1 f2 f3 f4 f5
      obtain ⟨⟨s0, s1, s2⟩, f0, f1, f2, f3, f4, f5⟩ := HC.out wr HBr.out
      by_cases hlt : k < wds.length
      · obtain ⟨b1, o1, rfl, hb1, hc1⟩ := HWC.out k hlt
        have e1 := ((Bt HB.out HBr.out).cell (p := ⟨b1, o1 + k, none⟩) hb1).trans hc1
        have hz1 : wds[k].size ≤ 9223372036854775807 := by have := HWZ.out _ (List.getElem_mem hlt); unfold maxLen at this; omega
        have hki : (k : Int) < (wds.length : Int) := by omega
        clear hc1 hb1
        by_cases hbig : 100 < wds[k].size
        · have hb : (100 : Int) < (wds[k].size : Int) := by omega
          have HBIG := Lib.hid hbig
          clear hbig
          go_wp2
          go_ret
          refine ⟨ret_bool' ?_, Bt HB.out HBr.out⟩
          rw [HOWN.out, show (wds.any fun x => decide (100 < x.size)) = true from List.any_eq_true.2 ⟨_, List.getElem_mem hlt, decide_eq_true HBIG.out⟩]
          simp
        · have hb : ¬ (100 : Int) < (wds[k].size : Int) := by omega
          have HBIG := Lib.hid hbig
          clear hbig
          go_wp2
          go_roundw
          case rel =>
            refine ⟨k + 1, by omega, by go_num, fun j h1 hjk => ?_, HBr.out⟩
            by_cases hjk' : j < k
            · exact HALL.out j h1 hjk'
            · obtain rfl : j = k := by omega
              exact HBIG.out
          case measure => simp [intOf]; omega
      · have hki : ¬ (k : Int) < (wds.length : Int) := by omega
        have HANY := Lib.hid (show (wds.any fun x => decide (100 < x.size)) = false from by
          rw [List.any_eq_false]
          intro y hy
          obtain ⟨j, hj, rfl⟩ := List.getElem_of_mem hy
          have := HALL.out j hj (by omega)
          simpa using this)
        rw [HANY.out] at HOWN
        go_wp2_with (fail)
        go_at_call 64
        refine (HDIM.out wr (Bt HB.out HBr.out)).mono ?_
        rintro e w2 ⟨rfl, hB2⟩
        have HB2 := Lib.hid (Bt HBr.out hB2)
        clear hB2 s0 s1 s2 f0 f1 f2 f3 f4 f5
        obtain ⟨⟨s0, s1, s2⟩, f0, f1, f2, f3, f4, f5⟩ := HC.out w2 HB2.out
        cases D
        · go_wp2
          go_ret
          exact ⟨ret_bool' (by rw [HOWN.out]; simp), Bt HB.out HB2.out⟩
        · by_cases hfr : frm = 0
          · by_cases hto : to = 0
            · subst hfr hto
              generalize hW1 : inW wds.length (1, 8) = W1 at HOWN
              generalize hL1 : inW lst.length (0, 0) = L1 at HOWN
              have HA1 := Lib.hid (fun W => rbetween_any wds.length 1 8 W)
              have HA2 := Lib.hid (fun W => rbetween_any lst.length 0 0 W)
              rw [hW1] at HA1
              rw [hL1] at HA2
              clear hW1 hL1
              go_wp2_with (fail)
              go_at_call 99
              refine (HA1.out _).mono ?_
              rintro e w3 ⟨rfl, rfl⟩
              cases W1
              · go_wp2
                go_ret
                exact ⟨ret_bool' (by rw [HOWN.out]; simp), Bt HB.out HB2.out⟩
              · go_wp2_with (fail)
                go_at_call 99
                refine (HA2.out _).mono ?_
                rintro e w4 ⟨rfl, rfl⟩
                go_wp2
                go_ret
                exact ⟨ret_bool' (by rw [HOWN.out]; simp ), Bt HB.out HB2.out⟩
            · have hto' : (to == 0) = false := beq_eq_false_iff_ne.2 hto
              have HT := Lib.hid (decide_eq_false hto)
              subst hfr
              rw [HT.out] at HOWN
              clear hto
              go_wp2
              go_ret
              exact ⟨ret_bool' (by rw [HOWN.out]; simp), Bt HB.out HB2.out⟩
          · have hfr' : (frm == 0) = false := beq_eq_false_iff_ne.2 hfr
            have HT := Lib.hid (decide_eq_false hfr)
            rw [HT.out] at HOWN
            clear hfr
            go_wp2
            go_ret
            exact ⟨ret_bool' (by rw [HOWN.out]; simp), Bt HB.out HB2.out⟩
  by_cases k3 : kd = 3
  · subst k3
    have HOWN := Lib.hid (HDE.out true false (0, 0) (0, 0) rfl)
    clear HDE k1 k2
    go_enter Tryd.func67, Tryd.ntmps67
    go_wp2_with (fail)
    go_loopw [10] (fun i wr => ∃ k : Nat, k ≤ wds.length ∧ i = .int .i64 k ∧ (∀ j (h1 : j < wds.length), j < k → ¬ 100 < wds[j].size) ∧ Below W0.heap.size W0 wr) (fun i _ => wds.length - (intOf i).toNat)
    case atStart => exact ⟨0, Nat.zero_le _, rfl, fun j _ h => absurd h (Nat.not_lt_zero _), Below.refl _ _⟩
    case round =>
      obtain ⟨k, hk, rfl, hall, hBr⟩ := hrel
      have HALL := Lib.hid hall
      have HBr := Lib.hid hBr
      clear hall hBr s0 s1 s2 f0 f1 f2 f3 f4 f5
      obtain ⟨⟨s0, s1, s2⟩, f0, f1, f2, f3, f4, f5⟩ := HC.out wr HBr.out
      by_cases hlt : k < wds.length
      · obtain ⟨b1, o1, rfl, hb1, hc1⟩ := HWC.out k hlt
        have e1 := ((Bt HB.out HBr.out).cell (p := ⟨b1, o1 + k, none⟩) hb1).trans hc1
        have hz1 : wds[k].size ≤ 9223372036854775807 := by have := HWZ.out _ (List.getElem_mem hlt); unfold maxLen at this; omega
        have hki : (k : Int) < (wds.length : Int) := by omega
        clear hc1 hb1
        by_cases hbig : 100 < wds[k].size
        · have hb : (100 : Int) < (wds[k].size : Int) := by omega
          have HBIG := Lib.hid hbig
          clear hbig
          go_wp2
          go_ret
          refine ⟨ret_bool' ?_, Bt HB.out HBr.out⟩
          rw [HOWN.out, show (wds.any fun x => decide (100 < x.size)) = true from List.any_eq_true.2 ⟨_, List.getElem_mem hlt, decide_eq_true HBIG.out⟩]
          simp
        · have hb : ¬ (100 : Int) < (wds[k].size : Int) := by omega
          have HBIG := Lib.hid hbig
          clear hbig
          go_wp2
          go_roundw
          case rel =>
            refine ⟨k + 1, by omega, by go_num, fun j h1 hjk => ?_, HBr.out⟩
            by_cases hjk' : j < k
            · exact HALL.out j h1 hjk'
            · obtain rfl : j = k := by omega
              exact HBIG.out
          case measure => simp [intOf]; omega
      · have hki : ¬ (k : Int) < (wds.length : Int) := by omega
        have HANY := Lib.hid (show (wds.any fun x => decide (100 < x.size)) = false from by
          rw [List.any_eq_false]
          intro y hy
          obtain ⟨j, hj, rfl⟩ := List.getElem_of_mem hy
          have := HALL.out j hj (by omega)
          simpa using this)
        rw [HANY.out] at HOWN
        go_wp2_with (fail)
        go_at_call 64
        refine (HDIM.out wr (Bt HB.out HBr.out)).mono ?_
        rintro e w2 ⟨rfl, hB2⟩
        have HB2 := Lib.hid (Bt HBr.out hB2)
        clear hB2 s0 s1 s2 f0 f1 f2 f3 f4 f5
        obtain ⟨⟨s0, s1, s2⟩, f0, f1, f2, f3, f4, f5⟩ := HC.out w2 HB2.out
        cases D
        · go_wp2
          go_ret
          exact ⟨ret_bool' (by rw [HOWN.out]; simp), Bt HB.out HB2.out⟩
        · by_cases hfr : frm = 0
          · by_cases hto : to = 0
            · subst hfr hto
              generalize hW1 : inW wds.length (0, 0) = W1 at HOWN
              generalize hL1 : inW lst.length (0, 0) = L1 at HOWN
              have HA1 := Lib.hid (fun W => rbetween_any wds.length 0 0 W)
              have HA2 := Lib.hid (fun W => rbetween_any lst.length 0 0 W)
              rw [hW1] at HA1
              rw [hL1] at HA2
              clear hW1 hL1
              go_wp2_with (fail)
              go_at_call 99
              refine (HA1.out _).mono ?_
              rintro e w3 ⟨rfl, rfl⟩
              cases W1
              · go_wp2
                go_ret
                exact ⟨ret_bool' (by rw [HOWN.out]; simp), Bt HB.out HB2.out⟩
              · go_wp2_with (fail)
                go_at_call 99
                refine (HA2.out _).mono ?_
                rintro e w4 ⟨rfl, rfl⟩
                go_wp2
                go_ret
                exact ⟨ret_bool' (by rw [HOWN.out]; simp ), Bt HB.out HB2.out⟩
            · have hto' : (to == 0) = false := beq_eq_false_iff_ne.2 hto
              have HT := Lib.hid (decide_eq_false hto)
              subst hfr
              rw [HT.out] at HOWN
              clear hto
              go_wp2
              go_ret
              exact ⟨ret_bool' (by rw [HOWN.out]; simp), Bt HB.out HB2.out⟩
          · have hfr' : (frm == 0) = false := beq_eq_false_iff_ne.2 hfr
            have HT := Lib.hid (decide_eq_false hfr)
            rw [HT.out] at HOWN
            clear hfr
            go_wp2
            go_ret
            exact ⟨ret_bool' (by rw [HOWN.out]; simp), Bt HB.out HB2.out⟩
  by_cases k4 : kd = 4
  · subst k4
    have HOWN := Lib.hid (HDE.out true false (1, 1) (0, 0) rfl)
    clear HDE k1 k2 k3
    go_enter Tryd.func67, Tryd.ntmps67
    go_wp2_with (fail)
    go_loopw [10] (fun i wr => ∃ k : Nat, k ≤ wds.length ∧ i = .int .i64 k ∧ (∀ j (h1 : j < wds.length), j < k → ¬ 100 < wds[j].size) ∧ Below W0.heap.size W0 wr) (fun i _ => wds.length - (intOf i).toNat)
    case atStart => exact ⟨0, Nat.zero_le _, rfl, fun j _ h => absurd h (Nat.not_lt_zero _), Below.refl _ _⟩
    case round =>
      obtain ⟨k, hk, rfl, hall, hBr⟩ := hrel
      have HALL := Lib.hid hall
      have HBr := Lib.hid hBr
      clear hall hBr s0 s1 s2 f0 f1 f2 f3 f4 f5
      obtain ⟨⟨s0, s1, s2⟩, f0, f1, f2, f3, f4, f5⟩ := HC.out wr HBr.out
      by_cases hlt : k < wds.length
      · obtain ⟨b1, o1, rfl, hb1, hc1⟩ := HWC.out k hlt
        have e1 := ((Bt HB.out HBr.out).cell (p := ⟨b1, o1 + k, none⟩) hb1).trans hc1
        have hz1 : wds[k].size ≤ 9223372036854775807 := by have := HWZ.out _ (List.getElem_mem hlt); unfold maxLen at this; omega
        have hki : (k : Int) < (wds.length : Int) := by omega
        clear hc1 hb1
        by_cases hbig : 100 < wds[k].size
        · have hb : (100 : Int) < (wds[k].size : Int) := by omega
          have HBIG := Lib.hid hbig
          clear hbig
          go_wp2
          go_ret
          refine ⟨ret_bool' ?_, Bt HB.out HBr.out⟩
          rw [HOWN.out, show (wds.any fun x => decide (100 < x.size)) = true from List.any_eq_true.2 ⟨_, List.getElem_mem hlt, decide_eq_true HBIG.out⟩]
          simp
        · have hb : ¬ (100 : Int) < (wds[k].size : Int) := by omega
          have HBIG := Lib.hid hbig
          clear hbig
          go_wp2
          go_roundw
          case rel =>
            refine ⟨k + 1, by omega, by go_num, fun j h1 hjk => ?_, HBr.out⟩
            by_cases hjk' : j < k
            · exact HALL.out j h1 hjk'
            · obtain rfl : j = k := by omega
              exact HBIG.out
          case measure => simp [intOf]; omega
      · have hki : ¬ (k : Int) < (wds.length : Int) := by omega
        have HANY := Lib.hid (show (wds.any fun x => decide (100 < x.size)) = false from by
          rw [List.any_eq_false]
          intro y hy
          obtain ⟨j, hj, rfl⟩ := List.getElem_of_mem hy
          have := HALL.out j hj (by omega)
          simpa using this)
        rw [HANY.out] at HOWN
        go_wp2_with (fail)
        go_at_call 64
        refine (HDIM.out wr (Bt HB.out HBr.out)).mono ?_
        rintro e w2 ⟨rfl, hB2⟩
        have HB2 := Lib.hid (Bt HBr.out hB2)
        clear hB2 s0 s1 s2 f0 f1 f2 f3 f4 f5
        obtain ⟨⟨s0, s1, s2⟩, f0, f1, f2, f3, f4, f5⟩ := HC.out w2 HB2.out
        cases D
        · go_wp2
          go_ret
          exact ⟨ret_bool' (by rw [HOWN.out]; simp), Bt HB.out HB2.out⟩
        · by_cases hfr : frm = 0
          · by_cases hto : to = 0
            · subst hfr hto
              generalize hW1 : inW wds.length (1, 1) = W1 at HOWN
              generalize hL1 : inW lst.length (0, 0) = L1 at HOWN
              have HA1 := Lib.hid (fun W => rbetween_any wds.length 1 1 W)
              have HA2 := Lib.hid (fun W => rbetween_any lst.length 0 0 W)
              rw [hW1] at HA1
              rw [hL1] at HA2
              clear hW1 hL1
              go_wp2_with (fail)
              go_at_call 99
              refine (HA1.out _).mono ?_
              rintro e w3 ⟨rfl, rfl⟩
              cases W1
              · go_wp2
                go_ret
                exact ⟨ret_bool' (by rw [HOWN.out]; simp), Bt HB.out HB2.out⟩
              · go_wp2_with (fail)
                go_at_call 99
                refine (HA2.out _).mono ?_
                rintro e w4 ⟨rfl, rfl⟩
                go_wp2
                go_ret
                exact ⟨ret_bool' (by rw [HOWN.out]; simp ), Bt HB.out HB2.out⟩
            · have hto' : (to == 0) = false := beq_eq_false_iff_ne.2 hto
              have HT := Lib.hid (decide_eq_false hto)
              subst hfr
              rw [HT.out] at HOWN
              clear hto
              go_wp2
              go_ret
              exact ⟨ret_bool' (by rw [HOWN.out]; simp), Bt HB.out HB2.out⟩
          · have hfr' : (frm == 0) = false := beq_eq_false_iff_ne.2 hfr
            have HT := Lib.hid (decide_eq_false hfr)
            rw [HT.out] at HOWN
            clear hfr
            go_wp2
            go_ret
            exact ⟨ret_bool' (by rw [HOWN.out]; simp), Bt HB.out HB2.out⟩
  by_cases k5 : kd = 5
  · subst k5
    have HOWN := Lib.hid (HDE.out true false (2, 2) (0, 0) rfl)
    clear HDE k1 k2 k3 k4
    go_enter Tryd.func67, Tryd.ntmps67
    go_wp2_with (fail)
    go_loopw [10] (fun i wr => ∃ k : Nat, k ≤ wds.length ∧ i = .int .i64 k ∧ (∀ j (h1 : j < wds.length), j < k → ¬ 100 < wds[j].size) ∧ Below W0.heap.size W0 wr) (fun i _ => wds.length - (intOf i).toNat)
    case atStart => exact ⟨0, Nat.zero_le _, rfl, fun j _ h => absurd h (Nat.not_lt_zero _), Below.refl _ _⟩
    case round =>
      obtain ⟨k, hk, rfl, hall, hBr⟩ := hrel
      have HALL := Lib.hid hall
      have HBr := Lib.hid hBr
      clear hall hBr s0 s1 s2 f0 f1 f2 f3 f4 f5
      obtain ⟨⟨s0, s1, s2⟩, f0, f1, f2, f3, f4, f5⟩ := HC.out wr HBr.out
      by_cases hlt : k < wds.length
      · obtain ⟨b1, o1, rfl, hb1, hc1⟩ := HWC.out k hlt
        have e1 := ((Bt HB.out HBr.out).cell (p := ⟨b1, o1 + k, none⟩) hb1).trans hc1
        have hz1 : wds[k].size ≤ 9223372036854775807 := by have := HWZ.out _ (List.getElem_mem hlt); unfold maxLen at this; omega
        have hki : (k : Int) < (wds.length : Int) := by omega
        clear hc1 hb1
        by_cases hbig : 100 < wds[k].size
        · have hb : (100 : Int) < (wds[k].size : Int) := by omega
          have HBIG := Lib.hid hbig
          clear hbig
          go_wp2
          go_ret
          refine ⟨ret_bool' ?_, Bt HB.out HBr.out⟩
          rw [HOWN.out, show (wds.any fun x => decide (100 < x.size)) = true from List.any_eq_true.2 ⟨_, List.getElem_mem hlt, decide_eq_true HBIG.out⟩]
          simp
        · have hb : ¬ (100 : Int) < (wds[k].size : Int) := by omega
          have HBIG := Lib.hid hbig
          clear hbig
          go_wp2
          go_roundw
          case rel =>
            refine ⟨k + 1, by omega, by go_num, fun j h1 hjk => ?_, HBr.out⟩
            by_cases hjk' : j < k
            · exact HALL.out j h1 hjk'
            · obtain rfl : j = k := by omega
              exact HBIG.out
          case measure => simp [intOf]; omega
      · have hki : ¬ (k : Int) < (wds.length : Int) := by omega
        have HANY := Lib.hid (show (wds.any fun x => decide (100 < x.size)) = false from by
          rw [List.any_eq_false]
          intro y hy
          obtain ⟨j, hj, rfl⟩ := List.getElem_of_mem hy
          have := HALL.out j hj (by omega)
          simpa using this)
        rw [HANY.out] at HOWN
        go_wp2_with (fail)
        go_at_call 64
        refine (HDIM.out wr (Bt HB.out HBr.out)).mono ?_
        rintro e w2 ⟨rfl, hB2⟩
        have HB2 := Lib.hid (Bt HBr.out hB2)
        clear hB2 s0 s1 s2 f0 f1 f2 f3 f4 f5
        obtain ⟨⟨s0, s1, s2⟩, f0, f1, f2, f3, f4, f5⟩ := HC.out w2 HB2.out
        cases D
        · go_wp2
          go_ret
          exact ⟨ret_bool' (by rw [HOWN.out]; simp), Bt HB.out HB2.out⟩
        · by_cases hfr : frm = 0
          · by_cases hto : to = 0
            · subst hfr hto
              generalize hW1 : inW wds.length (2, 2) = W1 at HOWN
              generalize hL1 : inW lst.length (0, 0) = L1 at HOWN
              have HA1 := Lib.hid (fun W => rbetween_any wds.length 2 2 W)
              have HA2 := Lib.hid (fun W => rbetween_any lst.length 0 0 W)
              rw [hW1] at HA1
              rw [hL1] at HA2
              clear hW1 hL1
              go_wp2_with (fail)
              go_at_call 99
              refine (HA1.out _).mono ?_
              rintro e w3 ⟨rfl, rfl⟩
              cases W1
              · go_wp2
                go_ret
                exact ⟨ret_bool' (by rw [HOWN.out]; simp), Bt HB.out HB2.out⟩
              · go_wp2_with (fail)
                go_at_call 99
                refine (HA2.out _).mono ?_
                rintro e w4 ⟨rfl, rfl⟩
                go_wp2
                go_ret
                exact ⟨ret_bool' (by rw [HOWN.out]; simp ), Bt HB.out HB2.out⟩
            · have hto' : (to == 0) = false := beq_eq_false_iff_ne.2 hto
              have HT := Lib.hid (decide_eq_false hto)
              subst hfr
              rw [HT.out] at HOWN
              clear hto
              go_wp2
              go_ret
              exact ⟨ret_bool' (by rw [HOWN.out]; simp), Bt HB.out HB2.out⟩
          · have hfr' : (frm == 0) = false := beq_eq_false_iff_ne.2 hfr
            have HT := Lib.hid (decide_eq_false hfr)
            rw [HT.out] at HOWN
            clear hfr
            go_wp2
            go_ret
            exact ⟨ret_bool' (by rw [HOWN.out]; simp), Bt HB.out HB2.out⟩
  by_cases k6 : kd = 6
  · subst k6
    have HOWN := Lib.hid (HDE.out false true (0, 0) (0, 0) rfl)
    clear HDE k1 k2 k3 k4 k5
    go_enter Tryd.func67, Tryd.ntmps67
    go_wp2_with (fail)
    go_loopw [10] (fun i wr => ∃ k : Nat, k ≤ wds.length ∧ i = .int .i64 k ∧ (∀ j (h1 : j < wds.length), j < k → ¬ 100 < wds[j].size) ∧ Below W0.heap.size W0 wr) (fun i _ => wds.length - (intOf i).toNat)
    case atStart => exact ⟨0, Nat.zero_le _, rfl, fun j _ h => absurd h (Nat.not_lt_zero _), Below.refl _ _⟩
    case round =>
      obtain ⟨k, hk, rfl, hall, hBr⟩ := hrel
      have HALL := Lib.hid hall
      have HBr := Lib.hid hBr
      clear hall hBr s0 s1 s2 f0 f1 f2 f3 f4 f5
      obtain ⟨⟨s0, s1, s2⟩, f0, f1, f2, f3, f4, f5⟩ := HC.out wr HBr.out
      by_cases hlt : k < wds.length
      · obtain ⟨b1, o1, rfl, hb1, hc1⟩ := HWC.out k hlt
        have e1 := ((Bt HB.out HBr.out).cell (p := ⟨b1, o1 + k, none⟩) hb1).trans hc1
        have hz1 : wds[k].size ≤ 9223372036854775807 := by have := HWZ.out _ (List.getElem_mem hlt); unfold maxLen at this; omega
        have hki : (k : Int) < (wds.length : Int) := by omega
        clear hc1 hb1
        by_cases hbig : 100 < wds[k].size
        · have hb : (100 : Int) < (wds[k].size : Int) := by omega
          have HBIG := Lib.hid hbig
          clear hbig
          go_wp2
          go_ret
          refine ⟨ret_bool' ?_, Bt HB.out HBr.out⟩
          rw [HOWN.out, show (wds.any fun x => decide (100 < x.size)) = true from List.any_eq_true.2 ⟨_, List.getElem_mem hlt, decide_eq_true HBIG.out⟩]
          simp
        · have hb : ¬ (100 : Int) < (wds[k].size : Int) := by omega
          have HBIG := Lib.hid hbig
          clear hbig
          go_wp2
          go_roundw
          case rel =>
            refine ⟨k + 1, by omega, by go_num, fun j h1 hjk => ?_, HBr.out⟩
            by_cases hjk' : j < k
            · exact HALL.out j h1 hjk'
            · obtain rfl : j = k := by omega
              exact HBIG.out
          case measure => simp [intOf]; omega
      · have hki : ¬ (k : Int) < (wds.length : Int) := by omega
        have HANY := Lib.hid (show (wds.any fun x => decide (100 < x.size)) = false from by
          rw [List.any_eq_false]
          intro y hy
          obtain ⟨j, hj, rfl⟩ := List.getElem_of_mem hy
          have := HALL.out j hj (by omega)
          simpa using this)
        rw [HANY.out] at HOWN
        go_wp2_with (fail)
        go_at_call 64
        refine (HDIM.out wr (Bt HB.out HBr.out)).mono ?_
        rintro e w2 ⟨rfl, hB2⟩
        have HB2 := Lib.hid (Bt HBr.out hB2)
        clear hB2 s0 s1 s2 f0 f1 f2 f3 f4 f5
        obtain ⟨⟨s0, s1, s2⟩, f0, f1, f2, f3, f4, f5⟩ := HC.out w2 HB2.out
        cases D
        · by_cases hnm : nm = ByteArray.empty
          · subst hnm
            generalize hW1 : inW wds.length (0, 0) = W1 at HOWN
            generalize hL1 : inW lst.length (0, 0) = L1 at HOWN
            have HA1 := Lib.hid (fun W => rbetween_any wds.length 0 0 W)
            have HA2 := Lib.hid (fun W => rbetween_any lst.length 0 0 W)
            rw [hW1] at HA1
            rw [hL1] at HA2
            clear hW1 hL1
            go_wp2_with (fail)
            go_at_call 99
            refine (HA1.out _).mono ?_
            rintro e w3 ⟨rfl, rfl⟩
            cases W1
            · go_wp2
              go_ret
              exact ⟨ret_bool' (by rw [HOWN.out]; simp), Bt HB.out HB2.out⟩
            · go_wp2_with (fail)
              go_at_call 99
              refine (HA2.out _).mono ?_
              rintro e w4 ⟨rfl, rfl⟩
              go_wp2
              go_ret
              exact ⟨ret_bool' (by rw [HOWN.out]; simp ), Bt HB.out HB2.out⟩
          · have hnm' : nm.toList ≠ [] := fun e => hnm (str_inj (e.trans (by rw [ByteArray.toList_eq]; rfl)))
            have HN := Lib.hid (show (nm.size == 0) = false from beq_eq_false_iff_ne.2 fun e => hnm (by
              apply ByteArray.ext; apply Array.eq_empty_of_size_eq_zero; exact e))
            rw [HN.out] at HOWN
            clear hnm
            go_wp2
            go_ret
            exact ⟨ret_bool' (by rw [HOWN.out]; simp), Bt HB.out HB2.out⟩
        · go_wp2
          go_ret
          exact ⟨ret_bool' (by rw [HOWN.out]; simp), Bt HB.out HB2.out⟩
  by_cases k7 : kd = 7
  · subst k7
    have HOWN := Lib.hid (HDE.out false false (0, 0) (1, 1) rfl)
    clear HDE k1 k2 k3 k4 k5 k6
    go_enter Tryd.func67, Tryd.ntmps67
    go_wp2_with (fail)
    go_loopw [10] (fun i wr => ∃ k : Nat, k ≤ wds.length ∧ i = .int .i64 k ∧ (∀ j (h1 : j < wds.length), j < k → ¬ 100 < wds[j].size) ∧ Below W0.heap.size W0 wr) (fun i _ => wds.length - (intOf i).toNat)
    case atStart => exact ⟨0, Nat.zero_le _, rfl, fun j _ h => absurd h (Nat.not_lt_zero _), Below.refl _ _⟩
    case round =>
      obtain ⟨k, hk, rfl, hall, hBr⟩ := hrel
      have HALL := Lib.hid hall
      have HBr := Lib.hid hBr
      clear hall hBr s0 s1 s2 f0 f1 f2 f3 f4 f5
      obtain ⟨⟨s0, s1, s2⟩, f0, f1, f2, f3, f4, f5⟩ := HC.out wr HBr.out
      by_cases hlt : k < wds.length
      · obtain ⟨b1, o1, rfl, hb1, hc1⟩ := HWC.out k hlt
        have e1 := ((Bt HB.out HBr.out).cell (p := ⟨b1, o1 + k, none⟩) hb1).trans hc1
        have hz1 : wds[k].size ≤ 9223372036854775807 := by have := HWZ.out _ (List.getElem_mem hlt); unfold maxLen at this; omega
        have hki : (k : Int) < (wds.length : Int) := by omega
        clear hc1 hb1
        by_cases hbig : 100 < wds[k].size
        · have hb : (100 : Int) < (wds[k].size : Int) := by omega
          have HBIG := Lib.hid hbig
          clear hbig
          go_wp2
          go_ret
          refine ⟨ret_bool' ?_, Bt HB.out HBr.out⟩
          rw [HOWN.out, show (wds.any fun x => decide (100 < x.size)) = true from List.any_eq_true.2 ⟨_, List.getElem_mem hlt, decide_eq_true HBIG.out⟩]
          simp
        · have hb : ¬ (100 : Int) < (wds[k].size : Int) := by omega
          have HBIG := Lib.hid hbig
          clear hbig
          go_wp2
          go_roundw
          case rel =>
            refine ⟨k + 1, by omega, by go_num, fun j h1 hjk => ?_, HBr.out⟩
            by_cases hjk' : j < k
            · exact HALL.out j h1 hjk'
            · obtain rfl : j = k := by omega
              exact HBIG.out
          case measure => simp [intOf]; omega
      · have hki : ¬ (k : Int) < (wds.length : Int) := by omega
        have HANY := Lib.hid (show (wds.any fun x => decide (100 < x.size)) = false from by
          rw [List.any_eq_false]
          intro y hy
          obtain ⟨j, hj, rfl⟩ := List.getElem_of_mem hy
          have := HALL.out j hj (by omega)
          simpa using this)
        rw [HANY.out] at HOWN
        go_wp2_with (fail)
        go_at_call 64
        refine (HDIM.out wr (Bt HB.out HBr.out)).mono ?_
        rintro e w2 ⟨rfl, hB2⟩
        have HB2 := Lib.hid (Bt HBr.out hB2)
        clear hB2 s0 s1 s2 f0 f1 f2 f3 f4 f5
        obtain ⟨⟨s0, s1, s2⟩, f0, f1, f2, f3, f4, f5⟩ := HC.out w2 HB2.out
        cases D
        · by_cases hnm : nm = ByteArray.empty
          · subst hnm
            by_cases hfr : frm = 0
            · by_cases hto : to = 0
              · subst hfr hto
                generalize hW1 : inW wds.length (0, 0) = W1 at HOWN
                generalize hL1 : inW lst.length (1, 1) = L1 at HOWN
                have HA1 := Lib.hid (fun W => rbetween_any wds.length 0 0 W)
                have HA2 := Lib.hid (fun W => rbetween_any lst.length 1 1 W)
                rw [hW1] at HA1
                rw [hL1] at HA2
                clear hW1 hL1
                go_wp2_with (fail)
                go_at_call 99
                refine (HA1.out _).mono ?_
                rintro e w3 ⟨rfl, rfl⟩
                cases W1
                · go_wp2
                  go_ret
                  exact ⟨ret_bool' (by rw [HOWN.out]; simp), Bt HB.out HB2.out⟩
                · go_wp2_with (fail)
                  go_at_call 99
                  refine (HA2.out _).mono ?_
                  rintro e w4 ⟨rfl, rfl⟩
                  go_wp2
                  go_ret
                  exact ⟨ret_bool' (by rw [HOWN.out]; simp ), Bt HB.out HB2.out⟩
              · have hto' : (to == 0) = false := beq_eq_false_iff_ne.2 hto
                have HT := Lib.hid (decide_eq_false hto)
                subst hfr
                rw [HT.out] at HOWN
                clear hto
                go_wp2
                go_ret
                exact ⟨ret_bool' (by rw [HOWN.out]; simp), Bt HB.out HB2.out⟩
            · have hfr' : (frm == 0) = false := beq_eq_false_iff_ne.2 hfr
              have HT := Lib.hid (decide_eq_false hfr)
              rw [HT.out] at HOWN
              clear hfr
              go_wp2
              go_ret
              exact ⟨ret_bool' (by rw [HOWN.out]; simp), Bt HB.out HB2.out⟩
          · have hnm' : nm.toList ≠ [] := fun e => hnm (str_inj (e.trans (by rw [ByteArray.toList_eq]; rfl)))
            have HN := Lib.hid (show (nm.size == 0) = false from beq_eq_false_iff_ne.2 fun e => hnm (by
              apply ByteArray.ext; apply Array.eq_empty_of_size_eq_zero; exact e))
            rw [HN.out] at HOWN
            clear hnm
            go_wp2
            go_ret
            exact ⟨ret_bool' (by rw [HOWN.out]; simp), Bt HB.out HB2.out⟩
        · go_wp2
          go_ret
          exact ⟨ret_bool' (by rw [HOWN.out]; simp), Bt HB.out HB2.out⟩
  by_cases k8 : kd = 8
  · subst k8
    have HOWN := Lib.hid (HDE.out false false (0, 0) (2, 8) rfl)
    clear HDE k1 k2 k3 k4 k5 k6 k7
    go_enter Tryd.func67, Tryd.ntmps67
    go_wp2_with (fail)
    go_loopw [10] (fun i wr => ∃ k : Nat, k ≤ wds.length ∧ i = .int .i64 k ∧ (∀ j (h1 : j < wds.length), j < k → ¬ 100 < wds[j].size) ∧ Below W0.heap.size W0 wr) (fun i _ => wds.length - (intOf i).toNat)
    case atStart => exact ⟨0, Nat.zero_le _, rfl, fun j _ h => absurd h (Nat.not_lt_zero _), Below.refl _ _⟩
    case round =>
      obtain ⟨k, hk, rfl, hall, hBr⟩ := hrel
      have HALL := Lib.hid hall
      have HBr := Lib.hid hBr
      clear hall hBr s0 s1 s2 f0 f1 f2 f3 f4 f5
      obtain ⟨⟨s0, s1, s2⟩, f0, f1, f2, f3, f4, f5⟩ := HC.out wr HBr.out
      by_cases hlt : k < wds.length
      · obtain ⟨b1, o1, rfl, hb1, hc1⟩ := HWC.out k hlt
        have e1 := ((Bt HB.out HBr.out).cell (p := ⟨b1, o1 + k, none⟩) hb1).trans hc1
        have hz1 : wds[k].size ≤ 9223372036854775807 := by have := HWZ.out _ (List.getElem_mem hlt); unfold maxLen at this; omega
        have hki : (k : Int) < (wds.length : Int) := by omega
        clear hc1 hb1
        by_cases hbig : 100 < wds[k].size
        · have hb : (100 : Int) < (wds[k].size : Int) := by omega
          have HBIG := Lib.hid hbig
          clear hbig
          go_wp2
          go_ret
          refine ⟨ret_bool' ?_, Bt HB.out HBr.out⟩
          rw [HOWN.out, show (wds.any fun x => decide (100 < x.size)) = true from List.any_eq_true.2 ⟨_, List.getElem_mem hlt, decide_eq_true HBIG.out⟩]
          simp
        · have hb : ¬ (100 : Int) < (wds[k].size : Int) := by omega
          have HBIG := Lib.hid hbig
          clear hbig
          go_wp2
          go_roundw
          case rel =>
            refine ⟨k + 1, by omega, by go_num, fun j h1 hjk => ?_, HBr.out⟩
            by_cases hjk' : j < k
            · exact HALL.out j h1 hjk'
            · obtain rfl : j = k := by omega
              exact HBIG.out
          case measure => simp [intOf]; omega
      · have hki : ¬ (k : Int) < (wds.length : Int) := by omega
        have HANY := Lib.hid (show (wds.any fun x => decide (100 < x.size)) = false from by
          rw [List.any_eq_false]
          intro y hy
          obtain ⟨j, hj, rfl⟩ := List.getElem_of_mem hy
          have := HALL.out j hj (by omega)
          simpa using this)
        rw [HANY.out] at HOWN
        go_wp2_with (fail)
        go_at_call 64
        refine (HDIM.out wr (Bt HB.out HBr.out)).mono ?_
        rintro e w2 ⟨rfl, hB2⟩
        have HB2 := Lib.hid (Bt HBr.out hB2)
        clear hB2 s0 s1 s2 f0 f1 f2 f3 f4 f5
        obtain ⟨⟨s0, s1, s2⟩, f0, f1, f2, f3, f4, f5⟩ := HC.out w2 HB2.out
        cases D
        · by_cases hnm : nm = ByteArray.empty
          · subst hnm
            by_cases hfr : frm = 0
            · by_cases hto : to = 0
              · subst hfr hto
                generalize hW1 : inW wds.length (0, 0) = W1 at HOWN
                generalize hL1 : inW lst.length (2, 8) = L1 at HOWN
                have HA1 := Lib.hid (fun W => rbetween_any wds.length 0 0 W)
                have HA2 := Lib.hid (fun W => rbetween_any lst.length 2 8 W)
                rw [hW1] at HA1
                rw [hL1] at HA2
                clear hW1 hL1
                go_wp2_with (fail)
                go_at_call 99
                refine (HA1.out _).mono ?_
                rintro e w3 ⟨rfl, rfl⟩
                cases W1
                · go_wp2
                  go_ret
                  exact ⟨ret_bool' (by rw [HOWN.out]; simp), Bt HB.out HB2.out⟩
                · go_wp2_with (fail)
                  go_at_call 99
                  refine (HA2.out _).mono ?_
                  rintro e w4 ⟨rfl, rfl⟩
                  go_wp2
                  go_ret
                  exact ⟨ret_bool' (by rw [HOWN.out]; simp ), Bt HB.out HB2.out⟩
              · have hto' : (to == 0) = false := beq_eq_false_iff_ne.2 hto
                have HT := Lib.hid (decide_eq_false hto)
                subst hfr
                rw [HT.out] at HOWN
                clear hto
                go_wp2
                go_ret
                exact ⟨ret_bool' (by rw [HOWN.out]; simp), Bt HB.out HB2.out⟩
            · have hfr' : (frm == 0) = false := beq_eq_false_iff_ne.2 hfr
              have HT := Lib.hid (decide_eq_false hfr)
              rw [HT.out] at HOWN
              clear hfr
              go_wp2
              go_ret
              exact ⟨ret_bool' (by rw [HOWN.out]; simp), Bt HB.out HB2.out⟩
          · have hnm' : nm.toList ≠ [] := fun e => hnm (str_inj (e.trans (by rw [ByteArray.toList_eq]; rfl)))
            have HN := Lib.hid (show (nm.size == 0) = false from beq_eq_false_iff_ne.2 fun e => hnm (by
              apply ByteArray.ext; apply Array.eq_empty_of_size_eq_zero; exact e))
            rw [HN.out] at HOWN
            clear hnm
            go_wp2
            go_ret
            exact ⟨ret_bool' (by rw [HOWN.out]; simp), Bt HB.out HB2.out⟩
        · go_wp2
          go_ret
          exact ⟨ret_bool' (by rw [HOWN.out]; simp), Bt HB.out HB2.out⟩
  by_cases k9 : kd = 9
  · subst k9
    have HOWN := Lib.hid (HDE.out false false (0, 0) (2, 8) rfl)
    clear HDE k1 k2 k3 k4 k5 k6 k7 k8
    go_enter Tryd.func67, Tryd.ntmps67
    go_wp2_with (fail)
    go_loopw [10] (fun i wr => ∃ k : Nat, k ≤ wds.length ∧ i = .int .i64 k ∧ (∀ j (h1 : j < wds.length), j < k → ¬ 100 < wds[j].size) ∧ Below W0.heap.size W0 wr) (fun i _ => wds.length - (intOf i).toNat)
    case atStart => exact ⟨0, Nat.zero_le _, rfl, fun j _ h => absurd h (Nat.not_lt_zero _), Below.refl _ _⟩
    case round =>
      obtain ⟨k, hk, rfl, hall, hBr⟩ := hrel
      have HALL := Lib.hid hall
      have HBr := Lib.hid hBr
      clear hall hBr s0 s1 s2 f0 f1 f2 f3 f4 f5
      obtain ⟨⟨s0, s1, s2⟩, f0, f1, f2, f3, f4, f5⟩ := HC.out wr HBr.out
      by_cases hlt : k < wds.length
      · obtain ⟨b1, o1, rfl, hb1, hc1⟩ := HWC.out k hlt
        have e1 := ((Bt HB.out HBr.out).cell (p := ⟨b1, o1 + k, none⟩) hb1).trans hc1
        have hz1 : wds[k].size ≤ 9223372036854775807 := by have := HWZ.out _ (List.getElem_mem hlt); unfold maxLen at this; omega
        have hki : (k : Int) < (wds.length : Int) := by omega
        clear hc1 hb1
        by_cases hbig : 100 < wds[k].size
        · have hb : (100 : Int) < (wds[k].size : Int) := by omega
          have HBIG := Lib.hid hbig
          clear hbig
          go_wp2
          go_ret
          refine ⟨ret_bool' ?_, Bt HB.out HBr.out⟩
          rw [HOWN.out, show (wds.any fun x => decide (100 < x.size)) = true from List.any_eq_true.2 ⟨_, List.getElem_mem hlt, decide_eq_true HBIG.out⟩]
          simp
        · have hb : ¬ (100 : Int) < (wds[k].size : Int) := by omega
          have HBIG := Lib.hid hbig
          clear hbig
          go_wp2
          go_roundw
          case rel =>
            refine ⟨k + 1, by omega, by go_num, fun j h1 hjk => ?_, HBr.out⟩
            by_cases hjk' : j < k
            · exact HALL.out j h1 hjk'
            · obtain rfl : j = k := by omega
              exact HBIG.out
          case measure => simp [intOf]; omega
      · have hki : ¬ (k : Int) < (wds.length : Int) := by omega
        have HANY := Lib.hid (show (wds.any fun x => decide (100 < x.size)) = false from by
          rw [List.any_eq_false]
          intro y hy
          obtain ⟨j, hj, rfl⟩ := List.getElem_of_mem hy
          have := HALL.out j hj (by omega)
          simpa using this)
        rw [HANY.out] at HOWN
        go_wp2_with (fail)
        go_at_call 64
        refine (HDIM.out wr (Bt HB.out HBr.out)).mono ?_
        rintro e w2 ⟨rfl, hB2⟩
        have HB2 := Lib.hid (Bt HBr.out hB2)
        clear hB2 s0 s1 s2 f0 f1 f2 f3 f4 f5
        obtain ⟨⟨s0, s1, s2⟩, f0, f1, f2, f3, f4, f5⟩ := HC.out w2 HB2.out
        cases D
        · by_cases hnm : nm = ByteArray.empty
          · subst hnm
            by_cases hfr : frm = 0
            · by_cases hto : to = 0
              · subst hfr hto
                generalize hW1 : inW wds.length (0, 0) = W1 at HOWN
                generalize hL1 : inW lst.length (2, 8) = L1 at HOWN
                have HA1 := Lib.hid (fun W => rbetween_any wds.length 0 0 W)
                have HA2 := Lib.hid (fun W => rbetween_any lst.length 2 8 W)
                rw [hW1] at HA1
                rw [hL1] at HA2
                clear hW1 hL1
                go_wp2_with (fail)
                go_at_call 99
                refine (HA1.out _).mono ?_
                rintro e w3 ⟨rfl, rfl⟩
                cases W1
                · go_wp2
                  go_ret
                  exact ⟨ret_bool' (by rw [HOWN.out]; simp), Bt HB.out HB2.out⟩
                · go_wp2_with (fail)
                  go_at_call 99
                  refine (HA2.out _).mono ?_
                  rintro e w4 ⟨rfl, rfl⟩
                  go_wp2
                  go_ret
                  exact ⟨ret_bool' (by rw [HOWN.out]; simp ), Bt HB.out HB2.out⟩
              · have hto' : (to == 0) = false := beq_eq_false_iff_ne.2 hto
                have HT := Lib.hid (decide_eq_false hto)
                subst hfr
                rw [HT.out] at HOWN
                clear hto
                go_wp2
                go_ret
                exact ⟨ret_bool' (by rw [HOWN.out]; simp), Bt HB.out HB2.out⟩
            · have hfr' : (frm == 0) = false := beq_eq_false_iff_ne.2 hfr
              have HT := Lib.hid (decide_eq_false hfr)
              rw [HT.out] at HOWN
              clear hfr
              go_wp2
              go_ret
              exact ⟨ret_bool' (by rw [HOWN.out]; simp), Bt HB.out HB2.out⟩
          · have hnm' : nm.toList ≠ [] := fun e => hnm (str_inj (e.trans (by rw [ByteArray.toList_eq]; rfl)))
            have HN := Lib.hid (show (nm.size == 0) = false from beq_eq_false_iff_ne.2 fun e => hnm (by
              apply ByteArray.ext; apply Array.eq_empty_of_size_eq_zero; exact e))
            rw [HN.out] at HOWN
            clear hnm
            go_wp2
            go_ret
            exact ⟨ret_bool' (by rw [HOWN.out]; simp), Bt HB.out HB2.out⟩
        · go_wp2
          go_ret
          exact ⟨ret_bool' (by rw [HOWN.out]; simp), Bt HB.out HB2.out⟩
  have HOWN := Lib.hid (show Fil.own s (.mk kd nm wds frm to lst) = false from by
    unfold Fil.own
    rw [show Fil.form (Fil.kind (.mk kd nm wds frm to lst)) = none from by simp [Fil.kind, Fil.form, k1, k2, k3, k4, k5, k6, k7, k8, k9]])
  have e1 : (kd == (1 : Int)) = false := beq_eq_false_iff_ne.2 k1
  have e2 : (kd == (2 : Int)) = false := beq_eq_false_iff_ne.2 k2
  have e3 : (kd == (3 : Int)) = false := beq_eq_false_iff_ne.2 k3
  have e4 : (kd == (4 : Int)) = false := beq_eq_false_iff_ne.2 k4
  have e5 : (kd == (5 : Int)) = false := beq_eq_false_iff_ne.2 k5
  have e6 : (kd == (6 : Int)) = false := beq_eq_false_iff_ne.2 k6
  have e7 : (kd == (7 : Int)) = false := beq_eq_false_iff_ne.2 k7
  have e8 : (kd == (8 : Int)) = false := beq_eq_false_iff_ne.2 k8
  have e9 : (kd == (9 : Int)) = false := beq_eq_false_iff_ne.2 k9
  clear HDE k1 k2 k3 k4 k5 k6 k7 k8 k9
  go_enter Tryd.func67, Tryd.ntmps67
  go_wp2
  go_ret
  exact ⟨ret_bool' HOWN.out.symm, HB.out⟩
end Go.Proofs.YtdfnolgcdododaaDoor
