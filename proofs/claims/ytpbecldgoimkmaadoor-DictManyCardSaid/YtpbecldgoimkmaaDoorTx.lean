/- Two lists of texts held against each other. -/
import Derived.Test.YtpbecldgoimkmaaDoorRows
import Derived.Test.YtpbecldgoimkmaaDoorB
namespace Go.Proofs.YtpbecldgoimkmaaDoor
open Go.RowKit Go.Sort

theorem ret_bool {a b : Bool} (h : a = b) : Ending.returned (.bool a) = .returned (.bool b) := by rw [h]
theorem take_eq_succ {α : Type} {a b : List α} {k : Nat} (h : a.take k = b.take k) (ha : k < a.length) (hb : k < b.length) (e : a[k] = b[k]) : a.take (k + 1) = b.take (k + 1) := by
  rw [List.take_succ_eq_append_getElem ha, List.take_succ_eq_append_getElem hb, h, e]
set_option maxHeartbeats 1000000 in
theorem texts_any (va vb : Value) (la lb : List ByteArray) (w : World) (ha : SlOf w va (la.map .string)) (hb : SlOf w vb (lb.map .string)) :
    Calls Tryd.prog 17 #[va, vb] w fun e w' => e = .returned (.bool (decide (la = lb))) ∧ Below w.heap.size w w' := by
  obtain ⟨a, ca, rfl, hla, hca⟩ := sls_open ha
  obtain ⟨b, cb, rfl, hlb, hcb⟩ := sls_open hb
  have HA := Lib.hid hca
  have HBB := Lib.hid hcb
  clear hca hcb ha hb
  by_cases hlen : la.length = lb.length
  · have hneq : ((la.length : Int) != (lb.length : Int)) = false := by rw [bne_eq_false_iff_eq]; omega
    go_enter Tryd.func17, Tryd.ntmps17
    go_wp2
    go_loopw [5] (fun i wr => ∃ k : Nat, k ≤ la.length ∧ i = .int .i64 k ∧ la.take k = lb.take k ∧ Below w.heap.size w wr) (fun i _ => la.length - (intOf i).toNat)
    case atStart => exact ⟨0, Nat.zero_le _, rfl, rfl, Below.refl _ _⟩
    case round =>
      obtain ⟨k, hk, rfl, heq, hB⟩ := hrel
      have HE := Lib.hid heq
      clear heq
      by_cases hlt : k < la.length
      · obtain ⟨ba, oa, rfl, hba, hcka⟩ := HA.out k hlt
        obtain ⟨bb, ob, rfl, hbb, hckb⟩ := HBB.out k (by omega)
        have c1 := (hB.cell (p := ⟨ba, oa + k, none⟩) hba).trans hcka
        have c2 := (hB.cell (p := ⟨bb, ob + k, none⟩) hbb).trans hckb
        have hk1 : (k : Int) < (la.length : Int) := by omega
        have hk2 : (k : Int) < (lb.length : Int) := by omega
        have HB := Lib.hid hB
        clear hB hcka hckb
        obtain ⟨x, hx⟩ : ∃ x, x = la[k] := ⟨_, rfl⟩
        obtain ⟨y, hy⟩ : ∃ y, y = lb[k] := ⟨_, rfl⟩
        rw [← hx] at c1
        rw [← hy] at c2
        have HX := Lib.hid hx
        have HY := Lib.hid hy
        clear hx hy
        go_wp2
        go_quiet (fail)
        go_wp2
        · have hne : x ≠ y := str_ne (by assumption)
          go_ret
          refine ⟨ret_bool ?_, below_drewN HB.out _⟩
          refine (decide_eq_false fun e => hne ?_).symm
          rw [HX.out, HY.out]; subst e; rfl
        · have he : x = y := str_eq (by assumption)
          have HXY := Lib.hid he
          clear he
          go_roundw
          case rel => exact ⟨k + 1, by omega, by go_num, take_eq_succ HE.out hlt (by omega) (by rw [← HX.out, ← HY.out]; exact HXY.out), below_drewN HB.out _⟩
          case measure => simp [intOf]; omega
      · obtain rfl : k = la.length := by omega
        have he : la = lb := by
          have := HE.out
          rwa [List.take_of_length_le (Nat.le_refl _), List.take_of_length_le (by omega)] at this
        have HEQ := Lib.hid he
        have HB := Lib.hid hB
        clear he hB
        go_wp2
        go_ret
        exact ⟨ret_bool (decide_eq_true HEQ.out).symm, HB.out⟩
  · have hneq : ((la.length : Int) != (lb.length : Int)) = true := by rw [bne_iff_ne]; omega
    go_enter Tryd.func17, Tryd.ntmps17
    go_wp2
    go_ret
    exact ⟨ret_bool (decide_eq_false fun e => hlen (by rw [e])).symm, Below.refl _ _⟩

end Go.Proofs.YtpbecldgoimkmaaDoor
