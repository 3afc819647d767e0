/- The table of the program's sum, and its sum, walked. -/
import Derived.Test.YtnaljebiefmlcaaRows
import Derived.Test.YtnaljebiefmlcaaFrPl
import Derived.Test.YtnaljebiefmlcaaB
namespace Go.Proofs.Ytnaljebiefmlcaa
open Go.RowKit

def crcTab : Array Value := Array.ofFn (n := 256) fun j => .int .u32 (Tess.cstepN 8 j : Nat)
def zero256 : Array Value := Array.replicate 256 (.int .u32 0)
theorem zero48 (w : World) : (zeroValue 48).run Try.prog w = .ok (.agg zero256) w := by kernel_rfl
theorem size48 : (Try.prog.info? 48).map (·.size) = some 256 := by kernel_rfl
theorem crcTab_one : crcTab.all (·.oneCell') = true := by
  rw [Array.all_eq_true_iff_forall_mem]; intro v hv; simp only [crcTab, Array.mem_ofFn] at hv; obtain ⟨i, rfl⟩ := hv; rfl
theorem zero256_size : zero256.size = 256 := by simp [zero256]

set_option maxHeartbeats 400000 in
set_option maxRecDepth 100000 in
theorem steps_any (w : World) :
    Calls Try.prog 28 #[] w fun e w' => e = .returned (.agg crcTab) ∧ Below w.heap.size w w' := by
  go_enter Try.func28, Try.ntmps28
  go_wp2_with (refine wpList_alloc_var 48 rfl (.agg zero256) zero48 zero256 rfl ?_)
  have hB0 : Below w.heap.size w ((w.alloc (.cells zero256 48)).alloc (.cells zero256 48)) := ((Below.refl _ _).alloc (Nat.le_refl _) _).alloc (by simp) _
  have h1 := heap_alloc2_new w (.cells zero256 48) (.cells zero256 48)
  have h2 := heap_alloc2_old w (.cells zero256 48) (.cells zero256 48)
  generalize (w.alloc (.cells zero256 48)).alloc (.cells zero256 48) = w0 at *
  go_loopw [4] (fun i wr => ∃ (k : Nat) (cs : Array Value), k ≤ 256 ∧ i = .int .i64 k ∧ cs.size = 256 ∧ (∀ j : Nat, j < k → cs[j]? = some (.int .u32 (Tess.cstepN 8 j : Nat))) ∧
    wr.heap[w.heap.size + 1]? = some (.cells cs 48 (0, 0)) ∧ wr.heap[w.heap.size]? = some (.cells zero256 48 (0, 0)) ∧ Below w.heap.size w wr) (fun i _ => 256 - (intOf i).toNat)
  case atStart => exact ⟨0, zero256, by omega, rfl, by simp [zero256], fun j hj => by omega, h1, h2, hB0⟩
  case round =>
    obtain ⟨k, cs, hk, rfl, hsz, hcs, hb1, hb0, hB⟩ := hrel
    clear h1 h2 hB0
    have HC := Lib.hid hcs
    have HB := Lib.hid hB
    have H1 := Lib.hid hb1
    have H0 := Lib.hid hb0
    have HZ := Lib.hid hsz
    clear hcs hB hb1 hb0
    by_cases hlt : k < 256
    · obtain ⟨c0, hcell⟩ : ∃ c0, wr.cell? ⟨w.heap.size + 1, k, none⟩ = some c0 := ⟨cs[k]'(by omega), by rw [cell_of_row _ _ _ _ _ _ H1.out]; simp⟩
      have hfr : wr.frozen? ⟨w.heap.size + 1, k, none⟩ = false := frozen_of_row _ _ _ _ _ H1.out
      clear hsz
      go_wp2
      have hk32 : k < 4294967296 := by omega
      go_loop [3, 9] (fun n i => ∃ j : Nat, j ≤ 8 ∧ i = .int .i64 j ∧ n = .int .u32 (Tess.cstepN j k : Nat)) (fun _ i => 8 - (intOf i).toNat)
      case atStart => exact ⟨0, by omega, rfl, rfl⟩
      case round =>
        obtain ⟨j, hj, rfl, rfl⟩ := hrel
        have hcj := Tess.cstepN_lt j k hk32
        by_cases hj8 : j < 8
        · have HJ := Lib.hid (Tess.cstepN_succ j k)
          go_wp2
          go_round
          case rel => exact ⟨j + 1, by omega, by go_num, by rw [step32 _ hcj, HJ.out, Tess.cstep]; split <;> rfl⟩
          case measure => simp [intOf]; omega
        · obtain rfl : j = 8 := by omega
          go_wp2
          go_roundw
          case rel => 
            exact ⟨k + 1, cs.setIfInBounds k (.int .u32 (Tess.cstepN 8 k : Nat)), by omega, by go_num, by simp [HZ.out], fun i hi => by
                by_cases e : i = k
                · subst e; simp [HZ.out, hlt]
                · rw [Array.getElem?_setIfInBounds_ne (by omega)]; exact HC.out i (by omega), heap_setCell_same _ _ _ _ _ _ H1.out, (heap_setCell_other _ _ _ _ (by simp)).trans H0.out, HB.out.setCell (by simp) _⟩
          case measure => simp [intOf]; omega
    · obtain rfl : k = 256 := by omega
      have htab : cs = crcTab := by
        apply Array.ext
        · simp [hsz, crcTab]
        · intro i h1 h2
          have := HC.out i (by omega)
          rw [Array.getElem?_eq_getElem h1] at this
          simp [crcTab]; simpa using this
      subst htab
      go_wp2_with (first | (refine wpList_load_row rfl 48 _ rfl (w.heap.size + 1) rfl _ _ _ _ H1.out Try.underlying48 rfl (by rw [size48, HZ.out]) ?_) | (refine wpList_store_row rfl 48 _ _ rfl w.heap.size _ rfl rfl _ _ H0.out (by rw [size48, HZ.out]) (by rw [zero256_size, HZ.out]) crcTab_one ?_))
      refine bodyPost_ret (results_cell_row (by rfl) _ _ w.heap.size _ crcTab _ _ rfl (setRow_heap _ _ _ _ _ _ H0.out) Try.underlying48 rfl (by rw [size48, HZ.out])) rfl ⟨rfl, ?_⟩
      exact Below_setRow HB.out (Nat.le_refl _) _
end Go.Proofs.Ytnaljebiefmlcaa
