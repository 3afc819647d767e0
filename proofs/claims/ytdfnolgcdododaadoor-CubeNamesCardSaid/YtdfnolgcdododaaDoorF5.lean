/- slices.Grow from nil, slices.Concat of two, slices.Index, Contains; words that are names, no two the same. -/
import Derived.Test.YtdfnolgcdododaaDoorF4
import Derived.Lib.AppendZerosOnto
import Derived.Maps.OwnSet
namespace Go.Proofs.YtdfnolgcdododaaDoor
open Go.RowKit Go.Sort

set_option maxRecDepth 100000 in
set_option maxHeartbeats 1000000 in
theorem grow_any (n : Nat) (w : World) (h0 : 0 < n) (hn : n ≤ 1000) :
    Calls Tryd.prog 82 #[.slice none 0 0, .int .i64 n] w fun e w' => ∃ cap, e = .returned (.slice (some ⟨w.heap.size, 0, none⟩) 0 cap) ∧ w'.ownsRow w.heap.size 9 1 (.slice (some ⟨w.heap.size, 0, none⟩) 0 cap) 0 [] ∧ Below w.heap.size w w' ∧ w'.heap.size = w.heap.size + 1 := by
  obtain ⟨i0, hi, hz0, hz1, hz2⟩ := info_parts infoStr
  have hold : (Builtin.firstCells i0.size 0 (.slice none 0 0)).run Tryd.prog w.drew = .ok ([] : List Value).toArray w.drew := run_firstCells_none w.drew i0.size 0 0 0
  have hrz : ∀ ty, (Builtin.append_ #[22, 3] ty #[.slice none 0 0, .int .i64 (n : Nat)]).run Tryd.prog w = _ := fun ty =>
    Lib.run_append_grow_zeros w 22 3 ty 9 i0 _ .i64 .i64 Tryd.underlying22 Tryd.underlying3 hi hz0 none 0 0 [] hold n h0 (by omega) (by omega) (by omega) (by rw [hz2]; omega)
      (by have := growslice_fits (need := 0 + n) (old := 0) (bytes := i0.bytes) (by omega) (by rw [hz2]; omega); simpa using this)
  have hGn := grownCap_ge w (0 + n) 0 9
  have hG63 := grownCap_le_maxLen w (0 + n) 0 9 (by unfold maxLen; omega)
  rw [Nat.zero_add] at hrz hGn hG63
  obtain ⟨G, hG⟩ : ∃ G, G = grownCap w n 0 9 := ⟨_, rfl⟩
  rw [← hG] at hrz hGn hG63
  have hm := hG63
  unfold maxLen at hm
  clear hG hold
  have n1 : ¬ (n : Int) < 0 := by omega
  have n2 : (0 : Int) < n := by omega
  go_enter Tryd.func82, Tryd.ntmps82
  go_wp2_with (at_builtin; refine Lib.wpList_append_run _ rfl _ _ _ _ rfl _ _ rfl rfl _ _ (hrz _) ?_)
  go_ret
  refine ⟨G, rfl, ⟨rfl, .inr ⟨w.heap.size, G, _, rfl, Nat.le_refl _, heap_alloc_new w.drew _, Nat.zero_le _, hG63, ?_, by simp⟩⟩, (Below.refl _ _).drew.alloc (Nat.le_refl _) _, by simp⟩
  simp [size_zeroCells]; omega

theorem ret_int {k : IntKind} {a b : Int} (h : a = b) : Ending.returned (.int k a) = .returned (.int k b) := by rw [h]
theorem index_any (v : Value) (l : List ByteArray) (x : ByteArray) (w : World) (hv : SlOf w v (l.map .string)) :
    Calls Tryd.prog 121 #[v, .string x] w fun e w' => e = .returned (.int .i64 (if Tess.hasW l x then (Tess.idxW l x : Nat) else -1)) ∧ w = w' := by
  obtain ⟨a, cap, rfl, hl, hc⟩ := sls_open hv
  have HC := Lib.hid hc
  clear hc hv
  obtain ⟨r, hr⟩ : ∃ r : Int, (if Tess.hasW l x then ((Tess.idxW l x : Nat) : Int) else -1) = r := ⟨_, rfl⟩
  rw [hr]
  have HR := Lib.hid hr
  clear hr
  go_enter Tryd.func121, Tryd.ntmps121
  go_wp2
  go_loop [8] (fun i => ∃ k : Nat, k ≤ l.length ∧ i = .int .i64 k ∧ ∀ j (hj : j < l.length), j < k → l[j] ≠ x) (fun i => l.length - (intOf i).toNat)
  case atStart => exact ⟨0, Nat.zero_le _, rfl, fun j _ h => absurd h (by omega)⟩
  case round =>
    obtain ⟨k, hk, rfl, hall⟩ := hrel
    have HA := Lib.hid hall
    clear hall
    by_cases hlt : k < l.length
    · obtain ⟨b, off, rfl, hb, hck⟩ := HC.out k hlt
      have hki : (k : Int) < (l.length : Int) := by omega
      obtain ⟨y, hy⟩ : ∃ y, y = l[k] := ⟨_, rfl⟩
      rw [← hy] at hck
      have HY := Lib.hid hy
      clear hy
      by_cases hxy : x = y
      · subst hxy
        have he : (x.toList == x.toList) = true := by simp
        go_wp2
        go_ret
        refine ⟨ret_int ?_, rfl⟩
        rw [← HR.out, (Tess.hasW_iff l x).2 (by rw [HY.out]; exact List.getElem_mem hlt), if_pos rfl, Tess.idxW_at l x k hlt HY.out.symm HA.out]
      · have he : (x.toList == y.toList) = false := Bool.eq_false_iff.2 fun e => hxy (str_eq' e)
        have HXY := Lib.hid hxy
        clear hxy
        go_wp2
        go_round
        case rel =>
          refine ⟨k + 1, by omega, by go_num, fun j hj hjk => ?_⟩
          by_cases e : j < k
          · exact HA.out j hj e
          · obtain rfl : j = k := by omega
            rw [← HY.out]; exact fun e => HXY.out e.symm
        case measure => simp [intOf]; omega
    · have hki : ¬ (k : Int) < (l.length : Int) := by omega
      go_wp2
      go_ret
      refine ⟨ret_int ?_, rfl⟩
      rw [← HR.out, (Tess.hasW_not l x).2 fun h => ?_]
      · rfl
      · obtain ⟨j, hj, e⟩ := List.getElem_of_mem h
        exact HA.out j hj (by omega) e

theorem contains_any (v : Value) (l : List ByteArray) (x : ByteArray) (w : World) (hv : SlOf w v (l.map .string)) :
    Calls Tryd.prog 95 #[v, .string x] w fun e w' => e = .returned (.bool (Tess.hasW l x)) ∧ w = w' := by
  have HI := Lib.hid (index_any v l x w hv)
  obtain ⟨a, cap, rfl, hl, hc⟩ := sls_open hv
  clear hc hv
  obtain ⟨i, hi⟩ : ∃ i : Int, (if Tess.hasW l x then ((Tess.idxW l x : Nat) : Int) else -1) = i := ⟨_, rfl⟩
  rw [hi] at HI
  have HII := Lib.hid hi
  clear hi
  go_enter Tryd.func95, Tryd.ntmps95
  go_wp2_with (go_at_call 121; refine HI.out.mono ?_; rintro e w2 ⟨rfl, rfl⟩)
  go_ret
  refine ⟨ret_bool' ?_, rfl⟩
  rw [← HII.out]
  cases Tess.hasW l x <;> simp
end Go.Proofs.YtdfnolgcdododaaDoor
