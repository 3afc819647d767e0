/- Spans and grains: the program's, walked. -/
import Derived.Test.YtdfnolgcdododaaDoorF16
namespace Go.Proofs.YtdfnolgcdododaaDoor
open Go.RowKit Go.Sort
open Tess (Fil)
open Tess.Fil (spanOk grainOk spanFits spanHas)

set_option maxHeartbeats 1000000 in
theorem gRight_any (a b : Int) (w : World) : Calls Tryd.prog 91 #[.agg #[.int .i64 a, .int .i64 b]] w fun e w' => e = .returned (.bool (spanOk a b)) ∧ Below w.heap.size w w' := by
  unfold spanOk
  by_cases h1 : 0 ≤ a
  · have d1 : decide (0 ≤ a) = true := decide_eq_true h1
    by_cases h2 : a ≤ b
    · have d2 : decide (a ≤ b) = true := decide_eq_true h2
      obtain ⟨r, hr⟩ : ∃ r, decide (b ≤ 1000000000001) = r := ⟨_, rfl⟩
      rw [d1, d2, hr]
      go_enter Tryd.func91, Tryd.ntmps91
      go_wp2
      go_ret
      exact ⟨rfl, (Below.refl _ _).alloc (Nat.le_refl _) _⟩
    · have d2 : decide (a ≤ b) = false := decide_eq_false h2
      rw [d1, d2, Bool.true_and, Bool.false_and]
      go_enter Tryd.func91, Tryd.ntmps91
      go_wp2
      go_ret
      exact ⟨rfl, (Below.refl _ _).alloc (Nat.le_refl _) _⟩
  · have d1 : decide (0 ≤ a) = false := decide_eq_false h1
    rw [d1, Bool.false_and, Bool.false_and]
    go_enter Tryd.func91, Tryd.ntmps91
    go_wp2
    go_ret
    exact ⟨rfl, (Below.refl _ _).alloc (Nat.le_refl _) _⟩

set_option maxRecDepth 100000 in
set_option maxHeartbeats 1000000 in
theorem areGrains1 (b : Nat) (g : Int) (w : World) (hc : w.cell? ⟨b, 0, none⟩ = some (.int .i64 g)) :
    Calls Tryd.prog 45 #[.slice (some ⟨b, 0, none⟩) 1 1] w fun e w' => e = .returned (.bool (grainOk g)) ∧ w = w' := by
  unfold grainOk
  by_cases h1 : 1 ≤ g
  · have d1 : decide (1 ≤ g) = true := decide_eq_true h1
    have d1' : decide (g < 1) = false := decide_eq_false (by omega)
    by_cases h2 : g ≤ 1000000000
    · have d2 : decide (g ≤ 1000000000) = true := decide_eq_true h2
      have d2' : decide (1000000000 < g) = false := decide_eq_false (by omega)
      rw [d1, d2]
      go_enter Tryd.func45, Tryd.ntmps45
      go_wp2
      refine wp_loop_rounds 2 ?_
      rw [rounds_succ]
      go_wp2
      rw [rounds_succ]
      go_wp2
      go_ret
      exact ⟨rfl, rfl⟩
    · have d2 : decide (g ≤ 1000000000) = false := decide_eq_false h2
      have d2' : decide (1000000000 < g) = true := decide_eq_true (by omega)
      rw [d1, d2]
      go_enter Tryd.func45, Tryd.ntmps45
      go_wp2
      refine wp_loop_rounds 2 ?_
      rw [rounds_succ]
      go_wp2
      go_ret
      exact ⟨rfl, rfl⟩
  · have d1 : decide (1 ≤ g) = false := decide_eq_false h1
    have d1' : decide (g < 1) = true := decide_eq_true (by omega)
    rw [d1, Bool.false_and]
    go_enter Tryd.func45, Tryd.ntmps45
    go_wp2
    refine wp_loop_rounds 2 ?_
    rw [rounds_succ]
    go_wp2
    go_ret
    exact ⟨rfl, rfl⟩

set_option maxRecDepth 100000 in
set_option maxHeartbeats 1000000 in
theorem gHas_any (a b t : Int) (w : World) : Calls Tryd.prog 60 #[.agg #[.int .i64 a, .int .i64 b], .int .i64 t] w fun e w' => e = .returned (.bool (spanHas a b t)) ∧ Below w.heap.size w w' := by
  have HR := Lib.hid (fun w => gRight_any a b w)
  unfold spanHas
  cases hok : spanOk a b
  · rw [hok] at HR
    rw [Bool.false_and, Bool.false_and]
    go_enter Tryd.func60, Tryd.ntmps60
    go_wp2_with (go_at_call 91; refine (HR.out _).mono ?_; rintro e w2 ⟨rfl, hB⟩; have HB := Lib.hid (((Below.refl _ _).alloc (Nat.le_refl _) _).trans (hB.mono (by simp))); clear hB)
    go_ret
    exact ⟨rfl, HB.out⟩
  · rw [hok] at HR
    by_cases h1 : a ≤ t
    · have d1 : decide (a ≤ t) = true := decide_eq_true h1
      obtain ⟨r, hr⟩ : ∃ r, decide (t < b) = r := ⟨_, rfl⟩
      rw [d1, hr]
      go_enter Tryd.func60, Tryd.ntmps60
      go_wp2_with (go_at_call 91; refine (HR.out _).mono ?_; rintro e w2 ⟨rfl, hB⟩; have c0 := hB.cell (p := ⟨w.heap.size, 0, none⟩) (by simp); have c1 := hB.cell (p := ⟨w.heap.size, 1, none⟩) (by simp); simp at c0 c1; have HB := Lib.hid (((Below.refl _ _).alloc (Nat.le_refl _) _).trans (hB.mono (by simp))); clear hB)
      go_ret
      exact ⟨rfl, HB.out⟩
    · have d1 : decide (a ≤ t) = false := decide_eq_false h1
      rw [d1, Bool.and_false, Bool.false_and]
      go_enter Tryd.func60, Tryd.ntmps60
      go_wp2_with (go_at_call 91; refine (HR.out _).mono ?_; rintro e w2 ⟨rfl, hB⟩; have c0 := hB.cell (p := ⟨w.heap.size, 0, none⟩) (by simp); have c1 := hB.cell (p := ⟨w.heap.size, 1, none⟩) (by simp); simp at c0 c1; have HB := Lib.hid (((Below.refl _ _).alloc (Nat.le_refl _) _).trans (hB.mono (by simp))); clear hB)
      go_ret
      exact ⟨rfl, HB.out⟩
end Go.Proofs.YtdfnolgcdododaaDoor
