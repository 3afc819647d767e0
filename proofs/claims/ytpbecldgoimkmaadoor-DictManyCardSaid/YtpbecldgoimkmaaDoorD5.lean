/- A word's number: the reference's, walked. -/
import Derived.Test.YtpbecldgoimkmaaDoorD4
namespace Tess
def findW (l : List ByteArray) (x : ByteArray) : Nat × Bool := if right l then (place l x, decide (place l x < l.length) && decide (l.getD (place l x) w0 = x)) else (0, false)
end Tess
namespace Go.Proofs.YtpbecldgoimkmaaDoor
open Go.RowKit Go.Sort

theorem str_beq (x y : ByteArray) : decide (x = y) = (x.toList == y.toList) := by
  by_cases h : x = y
  · subst h; simp
  · rw [decide_eq_false h]; cases hb : (x.toList == y.toList) with
    | false => rfl
    | true => exact absurd (str_eq' hb) h

def FindPost (l : List ByteArray) (x : ByteArray) (w : World) (e : Ending) (w' : World) : Prop :=
  e = .returned (.tuple #[.int .i64 ((Tess.findW l x).1 : Nat), .bool (Tess.findW l x).2]) ∧ Below w.heap.size w w'
set_option maxHeartbeats 1000000 in
theorem rfind_any (v : Value) (l : List ByteArray) (x : ByteArray) (w : World) (hv : SlOf w v (l.map .string)) (hl : ∀ y ∈ l, y.size ≤ maxLen) :
    Calls Tryd.prog 20 #[v, .string x] w (FindPost l x w) := by
  have hri := rright_any v l w hv hl
  have HV := Lib.hid hv
  have HL := Lib.hid hl
  cases hr : Tess.right l
  · rw [hr] at hri
    have HR := Lib.hid hri
    have HF : Hid (Tess.findW l x = (0, false)) := Lib.hid (by unfold Tess.findW; rw [hr]; rfl)
    clear hri hr hv hl
    go_enter Tryd.func20, Tryd.ntmps20
    go_wp2_with (go_at_call 27; refine HR.out.mono ?_; rintro e w1 ⟨rfl, hB1⟩; have HB := Lib.hid hB1; clear hB1)
    go_ret2
    exact ⟨by rw [HF.out]; rfl, HB.out⟩
  · rw [hr] at hri
    have HR := Lib.hid hri
    obtain ⟨n, hn⟩ : ∃ n, n = Tess.place l x := ⟨_, rfl⟩
    have hnl : n ≤ l.length := by rw [hn]; exact Tess.place_le l x
    have hF : Tess.findW l x = (n, decide (n < l.length) && decide (l.getD n Tess.w0 = x)) := by unfold Tess.findW; rw [hr, hn]; rfl
    have HP := Lib.hid (fun w1 (hB : Below w.heap.size w w1) => place_any v l x w1 (HV.out.below hB) HL.out)
    rw [← hn] at HP
    obtain ⟨a, cap, rfl, hlen, hc⟩ := sls_open hv
    by_cases hlt : n < l.length
    · obtain ⟨b, off, rfl, hb, hcell⟩ := hc n hlt
      rw [Tess.getD_lt l n hlt] at hF
      obtain ⟨y, hy⟩ : ∃ y, y = l[n] := ⟨_, rfl⟩
      rw [← hy, decide_eq_true hlt, Bool.true_and, str_beq] at hF
      rw [← hy] at hcell
      have HF := Lib.hid hF
      have hni : (n : Int) < (l.length : Int) := by omega
      have hnd : decide ((n : Int) < (l.length : Int)) = true := decide_eq_true hni
      clear hri hr hv hl hc hF hn hy
      go_enter Tryd.func20, Tryd.ntmps20
      go_wp2_with (first
        | (go_at_call 27; refine HR.out.mono ?_; rintro e w1 ⟨rfl, hB1⟩; have HB := Lib.hid hB1; clear hB1)
        | (go_at_call 40; refine (HP.out _ HB.out).mono ?_; rintro e w1 ⟨rfl, hB1⟩; have HB := Lib.hid (Bt HB.out hB1); clear hB1; have hck := (HB.out.cell (p := ⟨b, off + n, none⟩) hb).trans hcell))
      go_quiet (fail)
      go_wp2
      go_ret2
      exact ⟨by rw [HF.out]; rfl, below_drewN HB.out _⟩
    · rw [decide_eq_false hlt, Bool.false_and] at hF
      have HF := Lib.hid hF
      have hni : ¬ (n : Int) < (l.length : Int) := by omega
      have hnd : decide ((n : Int) < (l.length : Int)) = false := decide_eq_false hni
      clear hri hr hv hl hc hF hn
      go_enter Tryd.func20, Tryd.ntmps20
      go_wp2_with (first
        | (go_at_call 27; refine HR.out.mono ?_; rintro e w1 ⟨rfl, hB1⟩; have HB := Lib.hid hB1; clear hB1)
        | (go_at_call 40; refine (HP.out _ HB.out).mono ?_; rintro e w1 ⟨rfl, hB1⟩; have HB := Lib.hid (Bt HB.out hB1); clear hB1))
      go_quiet (fail)
      go_wp2
      go_ret2
      exact ⟨by rw [HF.out]; rfl, below_drewN HB.out _⟩
end Go.Proofs.YtpbecldgoimkmaaDoor
