/- Is a value right? The program's, walked. -/
import Derived.Test.YtdfnolgcdododaaDoorF32
import Derived.Test.YtdfnolgcdododaaDoorF31p
namespace Tess
open Go
/-- Is a value right? Is a row? -/
def valOk (v : Val) : Bool := (v.null && decide (v.s = ByteArray.empty)) || (!v.null && decide (v.s.size ≤ 100))
def rowFits (s : Sch) (t : Int) (l : List Val) (n : Nat) : Bool := schOk s && decide (0 ≤ t) && decide (t ≤ 1000000000000) && decide (l.length = s.dims.length) && decide (n = s.mets.length) && l.all valOk
end Tess
namespace Go.Proofs.YtdfnolgcdododaaDoor
open Go.RowKit Go.Sort
open Tess (Fil)

set_option maxRecDepth 100000 in
theorem isValue_any (x : ByteArray) (b : Bool) (w : World) : Calls Tryd.prog 70 #[.agg #[.string x, .bool b]] w fun e w' => e = .returned (.bool (Tess.valOk ⟨x, b⟩)) ∧ Below w.heap.size w w' := by
  obtain ⟨W0, hW0⟩ : ∃ W0, w.alloc (.cells #[.string x, .bool b] 44) = W0 := ⟨_, rfl⟩
  obtain ⟨h0, hS, hB⟩ := laid1 w (.cells #[.string x, .bool b] 44)
  rw [hW0] at h0 hS hB
  have c0 := cell_of_row W0 w.heap.size 0 _ _ _ h0
  have c1 := cell_of_row W0 w.heap.size 1 _ _ _ h0
  simp only [List.getElem?_toArray, List.getElem?_cons_succ, List.getElem?_cons_zero] at c0 c1
  have HB := Lib.hid hB
  clear h0 hB hS
  have e : decide ((x.size : Int) ≤ 100) = decide (x.size ≤ 100) := decide_eq_decide.2 (by omega)
  cases b
  · go_enter Tryd.func70, Tryd.ntmps70
    go_wp2
    go_ret
    exact ⟨by simp only [Tess.valOk]; rfl, HB.out⟩
  · clear e
    have hE : ByteArray.empty.toList = [] := by rw [ByteArray.toList_eq]; rfl
    by_cases hx : x.toList = []
    · have HX := Lib.hid (show x = ByteArray.empty from str_inj (hx.trans hE.symm))
      clear hE
      go_enter Tryd.func70, Tryd.ntmps70
      go_wp2
      go_ret
      exact ⟨by simp [Tess.valOk, HX.out], HB.out⟩
    · have HX := Lib.hid (show x ≠ ByteArray.empty from fun e => hx (by rw [e]; exact hE))
      clear hE
      go_enter Tryd.func70, Tryd.ntmps70
      go_wp2
      go_ret
      exact ⟨by simp [Tess.valOk, HX.out], HB.out⟩
theorem isOther_any (x : ByteArray) (b : Bool) (w : World) : Calls Tryd.prog 69 #[.agg #[.string x, .bool b]] w fun e w' => e = .returned (.bool (!Tess.valOk ⟨x, b⟩)) ∧ Below w.heap.size w w' := by
  obtain ⟨W0, hW0⟩ : ∃ W0, w.alloc (.cells #[.string x, .bool b] 44) = W0 := ⟨_, rfl⟩
  obtain ⟨h0, hS, hB⟩ := laid1 w (.cells #[.string x, .bool b] 44)
  rw [hW0] at h0 hS hB
  have c0 := cell_of_row W0 w.heap.size 0 _ _ _ h0
  have c1 := cell_of_row W0 w.heap.size 1 _ _ _ h0
  simp only [List.getElem?_toArray, List.getElem?_cons_succ, List.getElem?_cons_zero] at c0 c1
  have HB := Lib.hid hB
  have HI := Lib.hid (isValue_any x b W0)
  clear h0 hB hS
  generalize Tess.valOk ⟨x, b⟩ = r at *
  go_enter Tryd.func69, Tryd.ntmps69
  go_wp2_with (go_at_call 70; refine HI.out.mono ?_; rintro e w2 ⟨rfl, hB2⟩; have HB2 := Lib.hid (Bt HB.out hB2); clear hB2)
  go_ret
  exact ⟨rfl, HB2.out⟩
set_option maxHeartbeats 1000000 in
theorem index_other (p : Nat → Prop) (v : Value) (l : List Tess.Val) (w : World) (hv : ValsAt p w v l) :
    Calls Tryd.prog 101 #[v, .func (.func 69) #[] #[]] w fun e w' => ∃ i : Int, e = .returned (.int .i64 i) ∧ decide (0 ≤ i) = (l.any fun x => !Tess.valOk x) ∧ Below w.heap.size w w' := by
  obtain ⟨a, cap, rfl, hmx, _, _, hc⟩ := hv
  have HC := Lib.hid hc
  have hmx : l.length ≤ 9223372036854775807 := by unfold maxLen at hmx; omega
  clear hc
  go_enter Tryd.func101, Tryd.ntmps101
  go_wp2
  go_loopw [8] (fun i wr => ∃ k : Nat, k ≤ l.length ∧ i = .int .i64 k ∧ (∀ j (hj : j < l.length), j < k → (!Tess.valOk l[j]) = false) ∧ Below w.heap.size w wr) (fun i _ => l.length - (intOf i).toNat)
  case atStart => exact ⟨0, Nat.zero_le _, rfl, fun j _ h => absurd h (Nat.not_lt_zero _), Below.refl _ _⟩
  case round =>
    obtain ⟨k, hk, rfl, hall, hB⟩ := hrel
    have HA := Lib.hid hall
    have HB := Lib.hid hB
    clear hall hB
    by_cases hlt : k < l.length
    · obtain ⟨b, off, rfl, hb, _, hg⟩ := HC.out (by omega)
      have e0 : wr.cell? ⟨b, off + k * 2, none⟩ = some (.string l[k].s) := (HB.out.cell (p := ⟨b, off + k * 2, none⟩) hb).trans (hg k hlt).1
      have e1 : wr.cell? ⟨b, off + k * 2 + 1, none⟩ = some (.bool l[k].null) := (HB.out.cell (p := ⟨b, off + k * 2 + 1, none⟩) hb).trans (hg k hlt).2
      clear hg
      have HX := Lib.hid (fun W => isOther_any l[k].s l[k].null W)
      have hki : (k : Int) < (l.length : Int) := by omega
      cases hyx : !Tess.valOk l[k]
      · rw [show (!Tess.valOk ⟨l[k].s, l[k].null⟩) = _ from hyx] at HX
        have HY := Lib.hid hyx
        clear hyx
        go_wp2_with (go_at_call 69; refine (HX.out _).mono ?_; rintro e w2 ⟨rfl, hb2⟩; have HB2 := Lib.hid hb2; clear hb2)
        go_roundw
        case rel =>
          refine ⟨k + 1, by omega, by go_num, fun j hj hjk => ?_, Bt HB.out HB2.out⟩
          by_cases hjk' : j < k
          · exact HA.out j hj hjk'
          · obtain rfl : j = k := by omega
            exact HY.out
        case measure => simp [intOf]; omega
      · rw [show (!Tess.valOk ⟨l[k].s, l[k].null⟩) = _ from hyx] at HX
        have HY := Lib.hid hyx
        clear hyx
        go_wp2_with (go_at_call 69; refine (HX.out _).mono ?_; rintro e w2 ⟨rfl, hb2⟩; have HB2 := Lib.hid hb2; clear hb2)
        go_ret
        refine ⟨(k : Int), rfl, ?_, Bt HB.out HB2.out⟩
        rw [decide_eq_true (by omega), eq_comm, List.any_eq_true]
        exact ⟨l[k], List.getElem_mem hlt, HY.out⟩
    · have hki : ¬ (k : Int) < (l.length : Int) := by omega
      go_wp2
      go_ret
      refine ⟨-1, rfl, ?_, HB.out⟩
      rw [decide_eq_false (by omega), eq_comm, List.any_eq_false]
      intro y hy
      obtain ⟨j, hj, rfl⟩ := List.getElem_of_mem hy
      rw [HA.out j hj (by omega)]; simp
theorem contains_other (p : Nat → Prop) (v : Value) (l : List Tess.Val) (w : World) (hv : ValsAt p w v l) :
    Calls Tryd.prog 71 #[v, .func (.func 69) #[] #[]] w fun e w' => e = .returned (.bool (!l.all Tess.valOk)) ∧ Below w.heap.size w w' := by
  have HI := Lib.hid (index_other p v l w hv)
  obtain ⟨a, cap, rfl, _⟩ := hv
  go_enter Tryd.func71, Tryd.ntmps71
  go_wp2_with (go_at_call 101; refine HI.out.mono ?_; rintro e w2 ⟨i, rfl, hi, hB⟩; have HH := Lib.hid hi; have HB := Lib.hid hB; clear hi hB)
  go_ret
  refine ⟨?_, HB.out⟩
  rw [show (!l.all Tess.valOk) = l.any fun x => !Tess.valOk x by simp [List.all_eq_not_any_not], ← HH.out]; rfl
end Go.Proofs.YtdfnolgcdododaaDoor
