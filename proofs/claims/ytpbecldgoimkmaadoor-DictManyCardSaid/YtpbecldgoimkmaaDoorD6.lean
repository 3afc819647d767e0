/- The words of a range, and those that begin with another one: the reference's, walked. -/
import Derived.Test.YtpbecldgoimkmaaDoorD5
namespace Tess
/-- From a on: as long as it holds. -/
def upTo (f : ByteArray → Bool) (l : List ByteArray) (a : Nat) : Nat := a + (l.drop a).findIdx fun y => !f y
theorem upTo_at (f : ByteArray → Bool) (l : List ByteArray) (a n : Nat) (ha : a ≤ n) (hn : n ≤ l.length) (h : ∀ j (hj : j < l.length), a ≤ j → j < n → f l[j] = true) (he : n = l.length ∨ ∃ hn : n < l.length, f l[n] = false) : upTo f l a = n := by
  unfold upTo
  have key : (l.drop a).findIdx (fun y => !f y) = n - a := by
    rcases he with rfl | ⟨hn, he⟩
    · rw [show l.length - a = (l.drop a).length by simp, List.findIdx_eq_length]; intro y hy
      obtain ⟨j, hj, rfl⟩ := List.getElem_of_mem hy
      rw [List.getElem_drop]
      simp at hj
      simp [h (a + j) (by omega) (by omega) (by omega)]
    · rw [List.findIdx_eq (by simp; omega)]
      refine ⟨?_, fun j hj => ?_⟩
      · rw [List.getElem_drop]
        have e : a + (n - a) = n := by omega
        simp only [e, he]; rfl
      · rw [List.getElem_drop]
        simp [h (a + j) (by omega) (by omega) (by omega)]
  omega
def nb (y z : ByteArray) : Bool := !bl y z
def betweenW (l : List ByteArray) (x y : ByteArray) : Nat × Nat := if right l then (place l x, upTo (nb y) l (place l x)) else (0, 0)
def pre (p y : ByteArray) : Bool := decide (p.size ≤ y.size) && decide (y.extract 0 p.size = p)
def prefixW (l : List ByteArray) (p : ByteArray) : Nat × Nat := if right l then (place l p, upTo (pre p) l (place l p)) else (0, 0)
end Tess
namespace Go.Proofs.YtpbecldgoimkmaaDoor
open Go.RowKit Go.Sort

def TwoPost (r : Nat × Nat) (w : World) (e : Ending) (w' : World) : Prop := e = .returned (.tuple #[.int .i64 (r.1 : Nat), .int .i64 (r.2 : Nat)]) ∧ Below w.heap.size w w'
set_option maxHeartbeats 1000000 in
theorem rbetween_any (v : Value) (l : List ByteArray) (x y : ByteArray) (w : World) (hv : SlOf w v (l.map .string)) (hl : ∀ z ∈ l, z.size ≤ maxLen) (hy : y.size ≤ maxLen) :
    Calls Tryd.prog 24 #[v, .string x, .string y] w (TwoPost (Tess.betweenW l x y) w) := by
  have hri := rright_any v l w hv hl
  have HV := Lib.hid hv
  have HL := Lib.hid hl
  cases hr : Tess.right l
  · rw [hr] at hri
    have HR := Lib.hid hri
    have hF : Tess.betweenW l x y = (0, 0) := by unfold Tess.betweenW; rw [hr]; rfl
    rw [hF]
    clear hri hr hv hl hF
    go_enter Tryd.func24, Tryd.ntmps24
    go_wp2_with (go_at_call 27; refine HR.out.mono ?_; rintro e w1 ⟨rfl, hB1⟩; have HB := Lib.hid hB1; clear hB1)
    go_ret2
    exact ⟨rfl, HB.out⟩
  · rw [hr] at hri
    have HR := Lib.hid hri
    obtain ⟨n, hn⟩ : ∃ n, n = Tess.place l x := ⟨_, rfl⟩
    have hnl : n ≤ l.length := by rw [hn]; exact Tess.place_le l x
    have hF : Tess.betweenW l x y = (n, Tess.upTo (Tess.nb y) l n) := by unfold Tess.betweenW; rw [hr, hn]; rfl
    have HP := Lib.hid (fun w1 (hB : Below w.heap.size w w1) => place_any v l x w1 (HV.out.below hB) HL.out)
    rw [← hn] at HP
    obtain ⟨a, cap, rfl, hlen, hc⟩ := sls_open hv
    have HC := Lib.hid hc
    have HF := Lib.hid hF
    clear hri hr hv hl hc hF hn
    go_enter Tryd.func24, Tryd.ntmps24
    go_wp2_with (first
      | (go_at_call 27; refine HR.out.mono ?_; rintro e w1 ⟨rfl, hB1⟩; have HB := Lib.hid hB1; clear hB1)
      | (go_at_call 40; refine (HP.out _ HB.out).mono ?_; rintro e w1 ⟨rfl, hB1⟩; have HB := Lib.hid (Bt HB.out hB1); clear hB1))
    clear HR HP
    go_loopw [9] (fun i wr => ∃ k : Nat, n ≤ k ∧ k ≤ l.length ∧ i = .int .i64 k ∧ (∀ j (hj : j < l.length), n ≤ j → j < k → Tess.nb y l[j] = true) ∧ Below w.heap.size w wr) (fun i _ => l.length - (intOf i).toNat)
    case atStart => exact ⟨n, Nat.le_refl _, hnl, rfl, fun j _ h h' => absurd h' (by omega), HB.out⟩
    case round =>
      obtain ⟨k, hnk, hk, rfl, hall, hB⟩ := hrel
      have HA := Lib.hid hall
      have HB := Lib.hid hB
      clear hall hB
      by_cases hlt : k < l.length
      · obtain ⟨b, off, rfl, hb, hcell⟩ := HC.out k hlt
        have hck : wr.cell? ⟨b, off + k, none⟩ = some (.string l[k]) := (HB.out.cell (p := ⟨b, off + k, none⟩) hb).trans hcell
        have hki : (k : Int) < (l.length : Int) := by omega
        have hkd : decide ((k : Int) < (l.length : Int)) = true := decide_eq_true hki
        obtain ⟨z, hz⟩ : ∃ z, z = l[k] := ⟨_, rfl⟩
        rw [← hz] at hck
        have HE := Lib.hid hz
        clear hcell hz
        go_wp2_with (go_at_call 28; refine (ahead_any y z _ hy).mono ?_; rintro e w2 ⟨rfl, hB2⟩; have HB := Lib.hid (Bt HB.out hB2); clear hB2; cases hyx : Tess.bl y z)
        · have hnb : Tess.nb y z = true := by unfold Tess.nb; rw [hyx]; rfl
          go_roundw
          case rel =>
            refine ⟨k + 1, by omega, by omega, by go_num, fun j hj hnj hjk => ?_, HB.out⟩
            by_cases hjk' : j < k
            · exact HA.out j hj hnj hjk'
            · obtain rfl : j = k := by omega
              rw [← HE.out]; exact hnb
          case measure => simp [intOf]; omega
        · have hnb : Tess.nb y z = false := by unfold Tess.nb; rw [hyx]; rfl
          have HN := Lib.hid (Tess.upTo_at (Tess.nb y) l n k hnk hk HA.out (.inr ⟨hlt, by rw [← HE.out]; exact hnb⟩))
          go_ret2
          exact ⟨by rw [HF.out, HN.out]; rfl, HB.out⟩
      · have hki : ¬ (k : Int) < (l.length : Int) := by omega
        have hkd : decide ((k : Int) < (l.length : Int)) = false := decide_eq_false hki
        have HE := Lib.hid (Tess.upTo_at (Tess.nb y) l n k hnk hk HA.out (.inl (by omega)))
        go_wp2
        go_ret2
        exact ⟨by rw [HF.out, HE.out]; rfl, HB.out⟩
end Go.Proofs.YtpbecldgoimkmaaDoor
