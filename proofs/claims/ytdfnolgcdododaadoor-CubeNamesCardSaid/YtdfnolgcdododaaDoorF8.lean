/- Which schemas are right. -/
import Derived.Test.YtdfnolgcdododaaDoorF7
namespace Go.Proofs.YtdfnolgcdododaaDoor
open Go.RowKit Go.Sort

set_option maxRecDepth 100000 in
set_option maxHeartbeats 2000000 in
theorem schRight_any (v : Value) (s : Tess.Sch) (p : Nat → Prop) (w : World) (hv : SchAt p w v s) :
    Calls Tryd.prog 29 #[v] w fun e w' => e = .returned (.bool (Tess.schOk s)) ∧ Below w.heap.size w w' := by
  obtain ⟨vd, vm, rfl, hd, hm, hds, hms⟩ := hv
  obtain ⟨ds, ms, g⟩ := s
  simp only at hd hm hds hms
  obtain ⟨ad, capd, rfl, hld⟩ := slp_len hd
  obtain ⟨am, capm, rfl, hlm⟩ := slp_len hm
  have HSM := Lib.hid (show ∀ x ∈ ds ++ ms, x.size ≤ maxLen from fun x hx => by rcases List.mem_append.1 hx with h | h; exact hds x h; exact hms x h)
  have HD := Lib.hid hd
  have HM := Lib.hid hm
  clear hd hm hds hms
  have HW := Lib.hid (fun w => swithin_any ds.length 1 6 w)
  have HOK : RowKit.Hid (Tess.schOk ⟨ds, ms, g⟩ = (Tess.Fil.inW ds.length (1, 6) && decide (ms.length ≤ 4) && decide (1 ≤ g) && decide (g ≤ 1000000000) && Tess.namesOk (ds ++ ms))) := Lib.hid rfl
  by_cases h1 : Tess.Fil.inW ds.length (1, 6) = true
  · by_cases h2 : ms.length ≤ 4
    · have h2i : decide ((ms.length : Int) ≤ 4) = true := decide_eq_true (by omega)
      by_cases h3 : 1 ≤ g
      · by_cases h4 : g ≤ 1000000000
        · have hlen : 1 ≤ ds.length ∧ ds.length ≤ 6 := by unfold Tess.Fil.inW at h1; simpa using h1
          have HF : RowKit.Hid (Tess.schOk ⟨ds, ms, g⟩ = Tess.namesOk (ds ++ ms)) := Lib.hid (by rw [HOK.out, h1, decide_eq_true h2, decide_eq_true h3, decide_eq_true h4]; rfl)
          have HL := Lib.hid hlen
          clear HOK
          have h3i : decide (1 ≤ g) = true := decide_eq_true h3
          have h4i : decide (g ≤ 1000000000) = true := decide_eq_true h4
          clear hlen
          rw [HF.out]
          have HCC := Lib.hid (fun (b : Nat) (W : World) (hB : Below w.heap.size w W) => concat_any b _ _ ds ms W (HD.out.1.below hB) (HM.out.1.below hB) HM.out.2.2 HL.out.1 HL.out.2 (by omega))
          have HAN := Lib.hid (fun (v : Value) (W : World) (h : SlOf W v ((ds ++ ms).map .string)) => areNames_any v (ds ++ ms) W h HSM.out)
          generalize Tess.namesOk (ds ++ ms) = nk at *
          go_enter Tryd.func29, Tryd.ntmps29
          go_wp2_with (first
            | (go_at_call 50; refine (HW.out _).mono ?_; rintro e w2 ⟨rfl, rfl⟩; rw [h1])
            | (go_at_call 52; refine (HCC.out _ _ (((Below.refl _ _).alloc (Nat.le_refl _) _).alloc (by simp) _) (by simp) (by simp)).mono ?_; rintro e w3 ⟨v3, rfl, hv3, hB3⟩; have HV3 := Lib.hid hv3; have HB3 := Lib.hid ((((Below.refl _ _).alloc (Nat.le_refl _) _).alloc (by simp) _).trans (hB3.mono (by simp <;> omega))); clear hv3 hB3)
            | (go_at_call 51; refine (HAN.out _ _ HV3.out).mono ?_; rintro e w4 ⟨rfl, hB4⟩; have HB4 := Lib.hid (Bt HB3.out hB4); clear hB4))
          go_ret
          exact ⟨rfl, HB4.out⟩
        · have h4i : decide (g ≤ 1000000000) = false := decide_eq_false h4
          have h3i : decide (1 ≤ g) = true := decide_eq_true h3
          rw [HOK.out, h4i, Bool.and_false, Bool.false_and]
          clear HOK
          go_enter Tryd.func29, Tryd.ntmps29
          go_wp2_with (go_at_call 50; refine (HW.out _).mono ?_; rintro e w2 ⟨rfl, rfl⟩; rw [h1])
          go_ret
          exact ⟨rfl, (Below.refl _ _).alloc (Nat.le_refl _) _⟩
      · have h3i : decide (1 ≤ g) = false := decide_eq_false h3
        rw [HOK.out, h3i, Bool.and_false, Bool.false_and, Bool.false_and]
        clear HOK
        go_enter Tryd.func29, Tryd.ntmps29
        go_wp2_with (go_at_call 50; refine (HW.out _).mono ?_; rintro e w2 ⟨rfl, rfl⟩; rw [h1])
        go_ret
        exact ⟨rfl, (Below.refl _ _).alloc (Nat.le_refl _) _⟩
    · have h2i : decide ((ms.length : Int) ≤ 4) = false := decide_eq_false (by omega)
      rw [HOK.out, decide_eq_false h2, Bool.and_false, Bool.false_and, Bool.false_and, Bool.false_and]
      clear HOK
      go_enter Tryd.func29, Tryd.ntmps29
      go_wp2_with (go_at_call 50; refine (HW.out _).mono ?_; rintro e w2 ⟨rfl, rfl⟩; rw [h1])
      go_ret
      exact ⟨rfl, (Below.refl _ _).alloc (Nat.le_refl _) _⟩
  · have h1 : Tess.Fil.inW ds.length (1, 6) = false := by simpa using h1
    rw [HOK.out, h1, Bool.false_and, Bool.false_and, Bool.false_and, Bool.false_and]
    clear HOK
    go_enter Tryd.func29, Tryd.ntmps29
    go_wp2_with (go_at_call 50; refine (HW.out _).mono ?_; rintro e w2 ⟨rfl, rfl⟩; rw [h1])
    go_ret
    exact ⟨rfl, (Below.refl _ _).alloc (Nat.le_refl _) _⟩
end Go.Proofs.YtdfnolgcdododaaDoor
