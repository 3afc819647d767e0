/- Is there a filter that holds in a list? The library's search, walked at holds' two closures. Written by gen24.py. -/
import Derived.Test.YtdfnolgcdododaaDoorF23
namespace Go.Proofs.YtdfnolgcdododaaDoor
open Go.RowKit Go.Sort
open Tess (Fil)

/-- A list of filters, at which a closure answers. -/
def isList (q : Fil → Bool) (l : List Fil) (a : Option Addr) (p1 p2 p3 : Value) (w : World) : Prop :=
  ∀ k (hk : k < l.length), ∃ b off, a = some ⟨b, off, none⟩ ∧ b < w.heap.size ∧ ∃ c0 c1 c2 c3 c4 c5, (w.cell? ⟨b, off + k * 6, none⟩ = some c0 ∧ w.cell? ⟨b, off + k * 6 + 1, none⟩ = some c1 ∧ w.cell? ⟨b, off + k * 6 + 2, none⟩ = some c2 ∧ w.cell? ⟨b, off + k * 6 + 3, none⟩ = some c3 ∧ w.cell? ⟨b, off + k * 6 + 4, none⟩ = some c4 ∧ w.cell? ⟨b, off + k * 6 + 5, none⟩ = some c5) ∧
    ∀ W, Below w.heap.size w W → Calls Tryd.prog 57 #[.agg #[c0, c1, c2, c3, c4, c5], p1, p2, p3] W fun e w' => e = .returned (.bool (q l[k])) ∧ Below W.heap.size W w'
set_option maxHeartbeats 1000000 in
theorem index_is (q : Fil → Bool) (l : List Fil) (a : Option Addr) (cap : Nat) (p1 p2 p3 : Value) (w : World) (hlen : l.length ≤ maxLen) (hc : isList q l a p1 p2 p3 w) :
    Calls Tryd.prog 92 #[.slice a l.length cap, .func (.func 57) #[] #[p1, p2, p3]] w fun e w' => ∃ i : Int, e = .returned (.int .i64 i) ∧ decide (0 ≤ i) = l.any q ∧ Below w.heap.size w w' := by
  have HC := Lib.hid hc
  have hmx : l.length ≤ 9223372036854775807 := by unfold maxLen at hlen; omega
  clear hc hlen
  go_enter Tryd.func92, Tryd.ntmps92
  go_wp2
  go_loopw [8] (fun i wr => ∃ k : Nat, k ≤ l.length ∧ i = .int .i64 k ∧ (∀ j (hj : j < l.length), j < k → q l[j] = false) ∧ Below w.heap.size w wr) (fun i _ => l.length - (intOf i).toNat)
  case atStart => exact ⟨0, Nat.zero_le _, rfl, fun j _ h => absurd h (Nat.not_lt_zero _), Below.refl _ _⟩
  case round =>
    obtain ⟨k, hk, rfl, hall, hB⟩ := hrel
    have HA := Lib.hid hall
    have HB := Lib.hid hB
    clear hall hB
    by_cases hlt : k < l.length
    · obtain ⟨b, off, rfl, hb, c0, c1, c2, c3, c4, c5, ⟨g0, g1, g2, g3, g4, g5⟩, hcall⟩ := HC.out k hlt
      have e0 : wr.cell? ⟨b, off + k * 6, none⟩ = some c0 := (HB.out.cell (p := ⟨b, off + k * 6, none⟩) hb).trans g0
      have e1 : wr.cell? ⟨b, off + k * 6 + 1, none⟩ = some c1 := (HB.out.cell (p := ⟨b, off + k * 6 + 1, none⟩) hb).trans g1
      have e2 : wr.cell? ⟨b, off + k * 6 + 2, none⟩ = some c2 := (HB.out.cell (p := ⟨b, off + k * 6 + 2, none⟩) hb).trans g2
      have e3 : wr.cell? ⟨b, off + k * 6 + 3, none⟩ = some c3 := (HB.out.cell (p := ⟨b, off + k * 6 + 3, none⟩) hb).trans g3
      have e4 : wr.cell? ⟨b, off + k * 6 + 4, none⟩ = some c4 := (HB.out.cell (p := ⟨b, off + k * 6 + 4, none⟩) hb).trans g4
      have e5 : wr.cell? ⟨b, off + k * 6 + 5, none⟩ = some c5 := (HB.out.cell (p := ⟨b, off + k * 6 + 5, none⟩) hb).trans g5
      have HX := Lib.hid hcall
      clear g0 g1 g2 g3 g4 g5 hcall
      have hki : (k : Int) < (l.length : Int) := by omega
      cases hyx : q l[k]
      · rw [hyx] at HX
        have HY := Lib.hid hyx
        clear hyx
        go_wp2_with (go_at_call 57; refine (HX.out _ HB.out).mono ?_; rintro e w2 ⟨rfl, hb2⟩; have HB2 := Lib.hid hb2; clear hb2)
        go_roundw
        case rel =>
          refine ⟨k + 1, by omega, by go_num, fun j hj hjk => ?_, Bt HB.out HB2.out⟩
          by_cases hjk' : j < k
          · exact HA.out j hj hjk'
          · obtain rfl : j = k := by omega
            exact HY.out
        case measure => simp [intOf]; omega
      · rw [hyx] at HX
        have HY := Lib.hid hyx
        clear hyx
        go_wp2_with (go_at_call 57; refine (HX.out _ HB.out).mono ?_; rintro e w2 ⟨rfl, hb2⟩; have HB2 := Lib.hid hb2; clear hb2)
        go_ret
        refine ⟨(k : Int), rfl, ?_, Bt HB.out HB2.out⟩
        rw [decide_eq_true (by omega), eq_comm, List.any_eq_true]
        exact ⟨l[k], List.getElem_mem hlt, HY.out⟩
    · have hki : ¬ (k : Int) < (l.length : Int) := by omega
      go_wp2
      go_ret
      refine ⟨-1, rfl, ?_, HB.out⟩
      rw [decide_eq_false (by omega), eq_comm, List.any_eq_false]
      intro y hy
      obtain ⟨j, hj, rfl⟩ := List.getElem_of_mem hy
      rw [HA.out j hj (by omega)]; simp

theorem contains_is (q : Fil → Bool) (l : List Fil) (a : Option Addr) (cap : Nat) (p1 p2 p3 : Value) (w : World) (hlen : l.length ≤ maxLen) (hc : isList q l a p1 p2 p3 w) :
    Calls Tryd.prog 59 #[.slice a l.length cap, .func (.func 57) #[] #[p1, p2, p3]] w fun e w' => e = .returned (.bool (l.any q)) ∧ Below w.heap.size w w' := by
  have HI := Lib.hid (index_is q l a cap p1 p2 p3 w hlen hc)
  clear hc
  go_enter Tryd.func59, Tryd.ntmps59
  go_wp2_with (go_at_call 92; refine HI.out.mono ?_; rintro e w2 ⟨i, rfl, hi, hB⟩; have HH := Lib.hid hi; have HB := Lib.hid hB; clear hi hB)
  go_ret
  refine ⟨?_, HB.out⟩
  rw [← HH.out]; rfl

/-- A list of filters, at which a closure answers. -/
def isNotList (q : Fil → Bool) (l : List Fil) (a : Option Addr) (p1 : Value) (w : World) : Prop :=
  ∀ k (hk : k < l.length), ∃ b off, a = some ⟨b, off, none⟩ ∧ b < w.heap.size ∧ ∃ c0 c1 c2 c3 c4 c5, (w.cell? ⟨b, off + k * 6, none⟩ = some c0 ∧ w.cell? ⟨b, off + k * 6 + 1, none⟩ = some c1 ∧ w.cell? ⟨b, off + k * 6 + 2, none⟩ = some c2 ∧ w.cell? ⟨b, off + k * 6 + 3, none⟩ = some c3 ∧ w.cell? ⟨b, off + k * 6 + 4, none⟩ = some c4 ∧ w.cell? ⟨b, off + k * 6 + 5, none⟩ = some c5) ∧
    ∀ W, Below w.heap.size w W → Calls Tryd.prog 58 #[.agg #[c0, c1, c2, c3, c4, c5], p1] W fun e w' => e = .returned (.bool (q l[k])) ∧ Below W.heap.size W w'
set_option maxHeartbeats 1000000 in
theorem index_isNot (q : Fil → Bool) (l : List Fil) (a : Option Addr) (cap : Nat) (p1 : Value) (w : World) (hlen : l.length ≤ maxLen) (hc : isNotList q l a p1 w) :
    Calls Tryd.prog 92 #[.slice a l.length cap, .func (.func 58) #[] #[p1]] w fun e w' => ∃ i : Int, e = .returned (.int .i64 i) ∧ decide (0 ≤ i) = l.any q ∧ Below w.heap.size w w' := by
  have HC := Lib.hid hc
  have hmx : l.length ≤ 9223372036854775807 := by unfold maxLen at hlen; omega
  clear hc hlen
  go_enter Tryd.func92, Tryd.ntmps92
  go_wp2
  go_loopw [8] (fun i wr => ∃ k : Nat, k ≤ l.length ∧ i = .int .i64 k ∧ (∀ j (hj : j < l.length), j < k → q l[j] = false) ∧ Below w.heap.size w wr) (fun i _ => l.length - (intOf i).toNat)
  case atStart => exact ⟨0, Nat.zero_le _, rfl, fun j _ h => absurd h (Nat.not_lt_zero _), Below.refl _ _⟩
  case round =>
    obtain ⟨k, hk, rfl, hall, hB⟩ := hrel
    have HA := Lib.hid hall
    have HB := Lib.hid hB
    clear hall hB
    by_cases hlt : k < l.length
    · obtain ⟨b, off, rfl, hb, c0, c1, c2, c3, c4, c5, ⟨g0, g1, g2, g3, g4, g5⟩, hcall⟩ := HC.out k hlt
      have e0 : wr.cell? ⟨b, off + k * 6, none⟩ = some c0 := (HB.out.cell (p := ⟨b, off + k * 6, none⟩) hb).trans g0
      have e1 : wr.cell? ⟨b, off + k * 6 + 1, none⟩ = some c1 := (HB.out.cell (p := ⟨b, off + k * 6 + 1, none⟩) hb).trans g1
      have e2 : wr.cell? ⟨b, off + k * 6 + 2, none⟩ = some c2 := (HB.out.cell (p := ⟨b, off + k * 6 + 2, none⟩) hb).trans g2
      have e3 : wr.cell? ⟨b, off + k * 6 + 3, none⟩ = some c3 := (HB.out.cell (p := ⟨b, off + k * 6 + 3, none⟩) hb).trans g3
      have e4 : wr.cell? ⟨b, off + k * 6 + 4, none⟩ = some c4 := (HB.out.cell (p := ⟨b, off + k * 6 + 4, none⟩) hb).trans g4
      have e5 : wr.cell? ⟨b, off + k * 6 + 5, none⟩ = some c5 := (HB.out.cell (p := ⟨b, off + k * 6 + 5, none⟩) hb).trans g5
      have HX := Lib.hid hcall
      clear g0 g1 g2 g3 g4 g5 hcall
      have hki : (k : Int) < (l.length : Int) := by omega
      cases hyx : q l[k]
      · rw [hyx] at HX
        have HY := Lib.hid hyx
        clear hyx
        go_wp2_with (go_at_call 58; refine (HX.out _ HB.out).mono ?_; rintro e w2 ⟨rfl, hb2⟩; have HB2 := Lib.hid hb2; clear hb2)
        go_roundw
        case rel =>
          refine ⟨k + 1, by omega, by go_num, fun j hj hjk => ?_, Bt HB.out HB2.out⟩
          by_cases hjk' : j < k
          · exact HA.out j hj hjk'
          · obtain rfl : j = k := by omega
            exact HY.out
        case measure => simp [intOf]; omega
      · rw [hyx] at HX
        have HY := Lib.hid hyx
        clear hyx
        go_wp2_with (go_at_call 58; refine (HX.out _ HB.out).mono ?_; rintro e w2 ⟨rfl, hb2⟩; have HB2 := Lib.hid hb2; clear hb2)
        go_ret
        refine ⟨(k : Int), rfl, ?_, Bt HB.out HB2.out⟩
        rw [decide_eq_true (by omega), eq_comm, List.any_eq_true]
        exact ⟨l[k], List.getElem_mem hlt, HY.out⟩
    · have hki : ¬ (k : Int) < (l.length : Int) := by omega
      go_wp2
      go_ret
      refine ⟨-1, rfl, ?_, HB.out⟩
      rw [decide_eq_false (by omega), eq_comm, List.any_eq_false]
      intro y hy
      obtain ⟨j, hj, rfl⟩ := List.getElem_of_mem hy
      rw [HA.out j hj (by omega)]; simp

theorem contains_isNot (q : Fil → Bool) (l : List Fil) (a : Option Addr) (cap : Nat) (p1 : Value) (w : World) (hlen : l.length ≤ maxLen) (hc : isNotList q l a p1 w) :
    Calls Tryd.prog 59 #[.slice a l.length cap, .func (.func 58) #[] #[p1]] w fun e w' => e = .returned (.bool (l.any q)) ∧ Below w.heap.size w w' := by
  have HI := Lib.hid (index_isNot q l a cap p1 w hlen hc)
  clear hc
  go_enter Tryd.func59, Tryd.ntmps59
  go_wp2_with (go_at_call 92; refine HI.out.mono ?_; rintro e w2 ⟨i, rfl, hi, hB⟩; have HH := Lib.hid hi; have HB := Lib.hid hB; clear hi hB)
  go_ret
  refine ⟨?_, HB.out⟩
  rw [← HH.out]; rfl
end Go.Proofs.YtdfnolgcdododaaDoor
