/- Does a span fit a grain? The program's, walked. -/
import Derived.Test.YtdfnolgcdododaaDoorF17
namespace Go.Proofs.YtdfnolgcdododaaDoor
open Go.RowKit Go.Sort
open Tess (Fil)
open Tess.Fil (spanOk grainOk spanFits spanHas)

set_option maxRecDepth 100000 in
set_option maxHeartbeats 2000000 in
theorem gFits_any (a b g : Int) (w : World) : Calls Tryd.prog 56 #[.agg #[.int .i64 a, .int .i64 b], .int .i64 g] w fun e w' => e = .returned (.bool (spanFits a b g)) ∧ Below w.heap.size w w' := by
  have HR := Lib.hid (fun w => gRight_any a b w)
  have HG := Lib.hid (fun (b : Nat) (w : World) h => areGrains1 b g w h)
  have HF : RowKit.Hid (spanFits a b g = (spanOk a b && grainOk g && decide (a % g = 0) && (decide (b = 1000000000001) || decide (b % g = 0)))) := Lib.hid rfl
  cases hok : spanOk a b
  · rw [hok] at HR HF
    rw [HF.out, Bool.false_and, Bool.false_and, Bool.false_and]
    clear HF
    go_enter Tryd.func56, Tryd.ntmps56
    go_wp2_with (go_at_call 91; refine (HR.out _).mono ?_; rintro e w2 ⟨rfl, hB⟩; have HB := Lib.hid (((Below.refl _ _).alloc (Nat.le_refl _) _).trans (hB.mono (by simp))); clear hB)
    go_ret
    exact ⟨rfl, HB.out⟩
  · have hab : 0 ≤ a ∧ a ≤ b ∧ b ≤ 1000000000001 := by unfold spanOk at hok; simp at hok; omega
    obtain ⟨ha, hab, hb⟩ := hab
    rw [hok] at HR HF
    cases hg : grainOk g
    · rw [hg] at HG HF
      rw [HF.out, Bool.true_and, Bool.false_and, Bool.false_and]
      clear HF
      go_enter Tryd.func56, Tryd.ntmps56
      go_wp2_with (first
        | (go_at_call 91; refine (HR.out _).mono ?_; rintro e w2 ⟨rfl, hB⟩; have HB := Lib.hid (((Below.refl _ _).alloc (Nat.le_refl _) _).trans (hB.mono (by simp))); clear hB)
        | (go_at_call 45; refine (HG.out _ _ (by simp)).mono ?_; rintro e w3 ⟨rfl, rfl⟩; have HB3 := Lib.hid (HB.out.alloc HB.out.size (.cells #[.int .i64 g] 2))))
      go_ret
      exact ⟨rfl, HB3.out⟩
    · have hg1 : 1 ≤ g ∧ g ≤ 1000000000 := by unfold grainOk at hg; simpa using hg
      obtain ⟨hg1, hg2⟩ := hg1
      rw [hg] at HG HF
      obtain ⟨r1, hr1⟩ : ∃ r, ((a % g : Int) == 0) = r := ⟨_, rfl⟩
      obtain ⟨r2, hr2⟩ : ∃ r, ((b : Int) == 1000000000001) = r := ⟨_, rfl⟩
      obtain ⟨r3, hr3⟩ : ∃ r, ((b % g : Int) == 0) = r := ⟨_, rfl⟩
      have e1 : decide (a % g = 0) = r1 := by rw [← hr1]; rfl
      have e2 : decide (b = 1000000000001) = r2 := by rw [← hr2]; rfl
      have e3 : decide (b % g = 0) = r3 := by rw [← hr3]; rfl
      rw [e1, e2, e3, Bool.true_and, Bool.true_and] at HF
      have hb0 : 0 ≤ b := by omega
      clear e1 e2 e3 hok hg
      rw [HF.out]
      clear HF
      cases r1 <;> cases r2
      all_goals
        go_enter Tryd.func56, Tryd.ntmps56
        go_wp2_with (first
          | (go_at_call 91; refine (HR.out _).mono ?_; rintro e w2 ⟨rfl, hB⟩; have c0 := hB.cell (p := ⟨w.heap.size, 0, none⟩) (by simp); have c1 := hB.cell (p := ⟨w.heap.size, 1, none⟩) (by simp); simp at c0 c1; have hsz := hB.size; simp at hsz; have hlt : w.heap.size < w2.heap.size := (by omega); have HB := Lib.hid (((Below.refl _ _).alloc (Nat.le_refl _) _).trans (hB.mono (by simp))); clear hB)
          | (go_at_call 45; refine (HG.out _ _ (by simp)).mono ?_; rintro e w3 ⟨rfl, rfl⟩; have HB3 := Lib.hid (HB.out.alloc HB.out.size (.cells #[.int .i64 g] 2))))
        go_ret
        exact ⟨rfl, HB3.out⟩
end Go.Proofs.YtdfnolgcdododaaDoor
