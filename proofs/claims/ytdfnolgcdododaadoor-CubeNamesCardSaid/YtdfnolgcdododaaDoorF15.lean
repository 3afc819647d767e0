/- Are words too long? How many words, filters: walked. -/
import Derived.Test.YtdfnolgcdododaaDoorF14
namespace Tess
def isLong (s : ByteArray) : Bool := decide (100 < s.size)
end Tess
namespace Go.Proofs.YtdfnolgcdododaaDoor
open Go.RowKit Go.Sort
theorem fwithin_any (n a b : Nat) (w : World) : Calls Tryd.prog 89 #[.int .i64 n, .agg #[.int .i64 a, .int .i64 b]] w fun e w' => e = .returned (.bool (Tess.Fil.inW n (a, b))) ∧ Below w.heap.size w w' := by
  unfold Tess.Fil.inW
  by_cases h1 : a ≤ n
  · have h1i : (a : Int) ≤ (n : Int) := by omega
    have h1d : decide ((a : Int) ≤ (n : Int)) = true := decide_eq_true h1i
    obtain ⟨r, hr⟩ : ∃ r, decide (n ≤ b) = r := ⟨_, rfl⟩
    have hri : decide ((n : Int) ≤ (b : Int)) = r := by rw [← hr]; exact decide_eq_decide.2 (by omega)
    rw [decide_eq_true h1, hr]
    go_enter Tryd.func89, Tryd.ntmps89
    go_wp2
    go_ret
    exact ⟨rfl, (Below.refl _ _).alloc (Nat.le_refl _) _⟩
  · have h1d : decide ((a : Int) ≤ (n : Int)) = false := decide_eq_false (by omega)
    rw [decide_eq_false h1, Bool.false_and]
    go_enter Tryd.func89, Tryd.ntmps89
    go_wp2
    go_ret
    exact ⟨rfl, (Below.refl _ _).alloc (Nat.le_refl _) _⟩
theorem long_any (s : ByteArray) (w : World) : Calls Tryd.prog 88 #[.string s] w fun e w' => e = .returned (.bool (Tess.isLong s)) ∧ w = w' := by
  go_enter Tryd.func88, Tryd.ntmps88
  go_wp2
  go_ret
  exact ⟨by unfold Tess.isLong; exact congrArg (fun b => Ending.returned (Value.bool b)) (decide_eq_decide.2 (by omega)), rfl⟩

set_option maxHeartbeats 1000000 in
theorem index_long (v : Value) (l : List ByteArray) (w : World) (hv : SlOf w v (l.map .string)) :
    Calls Tryd.prog 120 #[v, .func (.func 88) #[] #[]] w fun e w' => ∃ i : Int, e = .returned (.int .i64 i) ∧ decide (0 ≤ i) = l.any Tess.isLong ∧ Below w.heap.size w w' := by
  obtain ⟨a, cap, rfl, hlen, hc⟩ := sls_open hv
  have HC := Lib.hid hc
  clear hc hv
  go_enter Tryd.func120, Tryd.ntmps120
  go_wp2
  go_loopw [8] (fun i wr => ∃ k : Nat, k ≤ l.length ∧ i = .int .i64 k ∧ (∀ j (hj : j < l.length), j < k → Tess.isLong l[j] = false) ∧ Below w.heap.size w wr) (fun i _ => l.length - (intOf i).toNat)
  case atStart => exact ⟨0, Nat.zero_le _, rfl, fun j _ h => absurd h (Nat.not_lt_zero _), Below.refl _ _⟩
  case round =>
    obtain ⟨k, hk, rfl, hall, hB⟩ := hrel
    have HA := Lib.hid hall
    have HB := Lib.hid hB
    clear hall hB
    by_cases hlt : k < l.length
    · obtain ⟨b, off, rfl, hb, hcell⟩ := HC.out k hlt
      have hck : wr.cell? ⟨b, off + k, none⟩ = some (.string l[k]) := (HB.out.cell (p := ⟨b, off + k, none⟩) hb).trans hcell
      have hki : (k : Int) < (l.length : Int) := by omega
      obtain ⟨y, hy⟩ : ∃ y, y = l[k] := ⟨_, rfl⟩
      rw [← hy] at hck
      have HE := Lib.hid hy
      clear hcell hy
      go_wp2_with (go_at_call 88; refine (long_any y _).mono ?_; rintro e w2 ⟨rfl, rfl⟩; cases hyx : Tess.isLong y)
      · go_roundw
        case rel =>
          refine ⟨k + 1, by omega, by go_num, fun j hj hjk => ?_, HB.out⟩
          by_cases hjk' : j < k
          · exact HA.out j hj hjk'
          · obtain rfl : j = k := by omega
            rw [← HE.out]; exact hyx
        case measure => simp [intOf]; omega
      · go_ret
        refine ⟨(k : Int), rfl, ?_, HB.out⟩
        rw [decide_eq_true (by omega), eq_comm, List.any_eq_true]
        exact ⟨l[k], List.getElem_mem hlt, by rw [← HE.out]; exact hyx⟩
    · have hki : ¬ (k : Int) < (l.length : Int) := by omega
      go_wp2
      go_ret
      refine ⟨-1, rfl, ?_, HB.out⟩
      rw [decide_eq_false (by omega), eq_comm, List.any_eq_false]
      intro y hy
      obtain ⟨j, hj, rfl⟩ := List.getElem_of_mem hy
      rw [HA.out j hj (by omega)]; simp

theorem contains_long (v : Value) (l : List ByteArray) (w : World) (hv : SlOf w v (l.map .string)) :
    Calls Tryd.prog 90 #[v, .func (.func 88) #[] #[]] w fun e w' => e = .returned (.bool (l.any Tess.isLong)) ∧ Below w.heap.size w w' := by
  have HI := Lib.hid (index_long v l w hv)
  obtain ⟨a, cap, rfl, hlen, hc⟩ := sls_open hv
  clear hc hv
  go_enter Tryd.func90, Tryd.ntmps90
  go_wp2_with (go_at_call 120; refine HI.out.mono ?_; rintro e w2 ⟨i, rfl, hi, hB⟩; have HH := Lib.hid hi; have HB := Lib.hid hB; clear hi hB)
  go_ret
  refine ⟨?_, HB.out⟩
  rw [← HH.out]; rfl
end Go.Proofs.YtdfnolgcdododaaDoor
