/- Kinds stay when a filter is cut. -/
import Derived.Test.YtdfnolgcdododaaDoorF31p
import Derived.Test.YtdfnolgcdododaaDoorF30
namespace Go.Proofs.YtdfnolgcdododaaDoor
open Go.RowKit
open Tess (Fil)
theorem kinds_cut : ∀ (d : Nat) (f : Fil), kindsOk f → kindsOk (Fil.cut d f) := by
  intro d
  induction d with
  | zero =>
    intro f h
    unfold kindsOk at *
    rw [Fil.allP_eq, Bool.and_eq_true] at h
    rw [Fil.allP_eq, Bool.and_eq_true]
    refine ⟨h.1, ?_⟩
    simp [Fil.cut, Fil.l]
  | succ d ih =>
    intro f h
    unfold kindsOk at *
    rw [Fil.allP_eq, Bool.and_eq_true, List.all_eq_true] at h
    rw [Fil.allP_eq, Bool.and_eq_true, List.all_eq_true]
    refine ⟨h.1, fun x hx => ?_⟩
    simp only [Fil.cut, Fil.l] at hx
    obtain ⟨y, hy, rfl⟩ := List.mem_map.1 hx
    exact ih y (h.2 y (List.mem_of_mem_take hy))
theorem kinds_few (f : Fil) (h : kindsOk f) : kindsOk (Fil.few f) := by
  have hc := kinds_cut 7 f h
  unfold Fil.few
  split
  · unfold kindsOk at *
    rw [Fil.allP_eq, Bool.and_eq_true] at hc
    rw [Fil.allP_eq, Bool.and_eq_true]
    exact ⟨hc.1, by simp [Fil.l]⟩
  · exact hc
end Go.Proofs.YtdfnolgcdododaaDoor
