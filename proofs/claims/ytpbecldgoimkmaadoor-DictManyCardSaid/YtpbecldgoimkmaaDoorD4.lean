/- Which words are a dictionary: the reference's answer, walked. -/
import Derived.Test.YtpbecldgoimkmaaDoorD3
import Derived.WalkSmall
namespace Tess
def w0 : ByteArray := ⟨#[]⟩
/-- Word i is not too long, and behind the one ahead of it. -/
def fits (l : List ByteArray) (i : Nat) : Bool := decide ((l.getD i w0).size ≤ 100) && (i == 0 || bl (l.getD (i - 1) w0) (l.getD i w0))
def rightTo (l : List ByteArray) (k : Nat) : Bool := (List.range k).all (fits l)
def right (l : List ByteArray) : Bool := rightTo l l.length && decide (l.length ≤ 1000)
theorem rightTo_succ (l : List ByteArray) (k : Nat) (h : rightTo l k = true) (hf : fits l k = true) : rightTo l (k + 1) = true := by
  unfold rightTo at *
  rw [List.range_succ, List.all_append, h]; simp [hf]
theorem right_not (l : List ByteArray) (k : Nat) (hk : k < l.length) (hf : fits l k = false) : right l = false := by
  unfold right rightTo
  rw [Bool.and_eq_false_iff]; left
  rw [List.all_eq_false]
  exact ⟨k, List.mem_range.2 hk, by simp [hf]⟩
theorem right_end (l : List ByteArray) (h : rightTo l l.length = true) : right l = decide (l.length ≤ 1000) := by
  unfold right; rw [h]; simp
theorem getD_lt (l : List ByteArray) (k : Nat) (h : k < l.length) : l.getD k w0 = l[k] := by simp [List.getD, h]
end Tess
namespace Go.Proofs.YtpbecldgoimkmaaDoor
open Go.RowKit Go.Sort

set_option maxHeartbeats 1000000 in
theorem rright_any (v : Value) (l : List ByteArray) (w : World) (hv : SlOf w v (l.map .string)) (hl : ∀ y ∈ l, y.size ≤ maxLen) :
    Calls Tryd.prog 27 #[v] w fun e w' => e = .returned (.bool (Tess.right l)) ∧ Below w.heap.size w w' := by
  obtain ⟨a, cap, rfl, hlen, hc⟩ := sls_open hv
  have HC := Lib.hid hc
  have HL := Lib.hid hl
  clear hc hv hl
  go_enter Tryd.func27, Tryd.ntmps27
  go_wp2
  go_loopw [3] (fun i wr => ∃ k : Nat, k ≤ l.length ∧ i = .int .i64 k ∧ Tess.rightTo l k = true ∧ Below w.heap.size w wr) (fun i _ => l.length - (intOf i).toNat)
  case atStart => exact ⟨0, Nat.zero_le _, rfl, rfl, Below.refl _ _⟩
  case round =>
    obtain ⟨k, hk, rfl, hall, hB⟩ := hrel
    have HA := Lib.hid hall
    have HB := Lib.hid hB
    clear hall hB
    by_cases hlt : k < l.length
    · obtain ⟨b, off, rfl, hb, hcell⟩ := HC.out k hlt
      have hck : wr.cell? ⟨b, off + k, none⟩ = some (.string l[k]) := (HB.out.cell (p := ⟨b, off + k, none⟩) hb).trans hcell
      have hki : (k : Int) < (l.length : Int) := by omega
      have HY := Lib.hid (HL.out _ (List.getElem_mem hlt))
      have hg := Tess.getD_lt l k hlt
      obtain ⟨y, hy⟩ : ∃ y, y = l[k] := ⟨_, rfl⟩
      rw [← hy] at hck HY hg
      have HG := Lib.hid hg
      clear hcell hy hg
      by_cases hz : y.size ≤ 100
      · have hzi : ¬ (100 : Int) < (y.size : Int) := by omega
        have hzd : decide ((100 : Int) < (y.size : Int)) = false := decide_eq_false hzi
        by_cases h0 : k = 0
        · subst h0
          rw [Nat.add_zero] at hck
          have hf : Tess.fits l 0 = true := by unfold Tess.fits; rw [HG.out]; simpa using hz
          have HF := Lib.hid hf
          clear hf
          go_wp2
          go_quiet (fail)
          go_wp2
          go_roundw
          case rel => exact ⟨1, by omega, by go_num, Tess.rightTo_succ l 0 HA.out HF.out, below_drewN HB.out _⟩
          case measure => simp [intOf]; omega
        · have h0i : (0 : Int) < (k : Int) := by omega
          obtain ⟨j, rfl⟩ : ∃ j, k = j + 1 := ⟨k - 1, by omega⟩
          have hj : j < l.length := by omega
          obtain ⟨b', off', hbo, hb', hcell'⟩ := HC.out j hj
          obtain ⟨rfl, rfl⟩ : b' = b ∧ off' = off := by cases hbo; exact ⟨rfl, rfl⟩
          have hcj : wr.cell? ⟨b', off' + j, none⟩ = some (.string l[j]) := (HB.out.cell (p := ⟨b', off' + j, none⟩) hb').trans hcell'
          have hgj := Tess.getD_lt l j hj
          have hxz := HL.out _ (List.getElem_mem hj)
          have q1 := fun d os => cell_regrown hck d os
          have h0d : decide ((0 : Int) < (j : Int) + 1) = true := decide_eq_true (by omega)
          have hsub : ((j + 1 : Nat) : Int) - 1 = (j : Int) := by omega
          obtain ⟨x, hx⟩ : ∃ x, x = l[j] := ⟨_, rfl⟩
          rw [← hx] at hcj hgj hxz
          have q2 := fun d os => cell_regrown hcj d os
          have c1 := fun d os => ahead_any x y (grow (redrawn wr d) os) hxz
          have hfe : Tess.fits l (j + 1) = Tess.bl x y := by unfold Tess.fits; rw [HG.out, Nat.add_sub_cancel, hgj]; simp [hz]
          cases hxy : Tess.bl x y
          · rw [hxy] at c1 hfe
            have C1 := Lib.hid (fun d os => Calls.regrown_of (c1 d os))
            have HF := Lib.hid (Tess.right_not l (j + 1) hlt hfe)
            clear hcell' hx hgj hbo hck hcj c1 hfe hxy
            go_wp2
            refine wp_region_quiet_below (by kernel_rfl) (by kernel_rfl) ?_
            repeat (go_big_quiet_step (exact C1.out _ _))
            refine wpQuiet_nil ?_
            intro _ hw'
            obtain ⟨⟨dq, osq⟩, hw''⟩ := hw'
            subst hw''
            have HB := Lib.hid (Bt HB.out (below_regrown wr dq osq))
            generalize grow (redrawn wr dq) osq = w1 at *
            clear C1 q1 q2
            go_wp2
            go_ret
            exact ⟨by rw [HF.out]; rfl, HB.out⟩
          · rw [hxy] at c1 hfe
            have C1 := Lib.hid (fun d os => Calls.regrown_of (c1 d os))
            have HF := Lib.hid hfe
            clear hcell' hx hgj hbo hck hcj c1 hfe hxy
            go_wp2
            refine wp_region_quiet_below (by kernel_rfl) (by kernel_rfl) ?_
            repeat (go_big_quiet_step (exact C1.out _ _))
            refine wpQuiet_nil ?_
            intro _ hw'
            obtain ⟨⟨dq, osq⟩, hw''⟩ := hw'
            subst hw''
            have HB := Lib.hid (Bt HB.out (below_regrown wr dq osq))
            generalize grow (redrawn wr dq) osq = w1 at *
            clear C1 q1 q2
            go_wp2
            go_roundw
            case rel => exact ⟨j + 1 + 1, by omega, by go_num, Tess.rightTo_succ l (j + 1) HA.out HF.out, HB.out⟩
            case measure => simp [intOf]; omega
      · have hzi : (100 : Int) < (y.size : Int) := by omega
        have hzd : decide ((100 : Int) < (y.size : Int)) = true := decide_eq_true hzi
        have hf : Tess.fits l k = false := by unfold Tess.fits; rw [HG.out]; simp [hz]
        have HF := Lib.hid (Tess.right_not l k hlt hf)
        clear hf
        go_wp2
        go_quiet (fail)
        go_wp2
        go_ret
        exact ⟨by rw [HF.out]; rfl, below_drewN HB.out _⟩
    · have hki : ¬ (k : Int) < (l.length : Int) := by omega
      obtain rfl : k = l.length := by omega
      have HE := Lib.hid (Tess.right_end l HA.out)
      go_wp2
      go_ret
      refine ⟨?_, HB.out⟩
      rw [HE.out]
      exact congrArg (fun b => Ending.returned (Value.bool b)) (decide_eq_decide.2 (by omega))
end Go.Proofs.YtpbecldgoimkmaaDoor
