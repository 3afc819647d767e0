/- How many bytes two words share: the program's and the document's. -/
import Derived.Test.YtpbecldgoimkmaaDoorD17
namespace Tess
def shr : List UInt8 → List UInt8 → Nat
  | x :: xs, y :: ys => if x = y then shr xs ys + 1 else 0
  | _, _ => 0
def shared (a b : ByteArray) : Nat := shr a.data.toList b.data.toList
theorem shr_at : ∀ (k : Nat) (x y : List UInt8), k ≤ x.length → k ≤ y.length → x.take k = y.take k → (k = x.length ∨ k = y.length ∨ ∃ (h1 : k < x.length) (h2 : k < y.length), x[k] ≠ y[k]) → shr x y = k := by
  intro k
  induction k with
  | zero =>
    intro x y _ _ _ h
    cases x with
    | nil => rfl
    | cons a x =>
      cases y with
      | nil => rfl
      | cons b y =>
        rcases h with h | h | ⟨h1, h2, h⟩
        · simp at h
        · simp at h
        · simp only [List.getElem_cons_zero] at h
          simp [shr, h]
  | succ k ih =>
    intro x y h1 h2 ht h
    cases x with
    | nil => simp at h1
    | cons a x =>
      cases y with
      | nil => simp at h2
      | cons b y =>
        rw [List.take_succ_cons, List.take_succ_cons] at ht
        obtain ⟨rfl, ht'⟩ := List.cons.inj ht
        have := ih x y (by simpa using h1) (by simpa using h2) ht' (by
          rcases h with h | h | ⟨g1, g2, h⟩
          · left; simpa using h
          · right; left; simpa using h
          · right; right; exact ⟨by simpa using g1, by simpa using g2, by simpa using h⟩)
        simp [shr, this]
theorem shared_at (a b : ByteArray) (k : Nat) (h1 : k ≤ a.size) (h2 : k ≤ b.size) (ht : a.data.toList.take k = b.data.toList.take k) (h : k = a.size ∨ k = b.size ∨ ∃ (h1 : k < a.size) (h2 : k < b.size), a[k] ≠ b[k]) : shared a b = k := by
  refine shr_at k _ _ (by simpa using h1) (by simpa using h2) ht ?_
  rcases h with h | h | ⟨g1, g2, h⟩
  · left; simpa using h
  · right; left; simpa using h
  · right; right; exact ⟨by simpa using g1, by simpa using g2, fun e => h (show a.data[k] = b.data[k] by simpa using e)⟩
theorem shr_le : ∀ (x y : List UInt8), shr x y ≤ x.length ∧ shr x y ≤ y.length
  | [], _ => ⟨Nat.zero_le _, Nat.zero_le _⟩
  | _ :: _, [] => ⟨Nat.zero_le _, Nat.zero_le _⟩
  | a :: x, b :: y => by
    unfold shr
    have := shr_le x y
    split <;> simp only [List.length_cons] <;> omega
theorem shared_le (a b : ByteArray) : shared a b ≤ a.size ∧ shared a b ≤ b.size := by
  have := shr_le a.data.toList b.data.toList
  simpa [shared] using this
end Tess
namespace Go.Proofs.YtpbecldgoimkmaaDoor
open Go.RowKit Go.Sort Go.Shelf

set_option maxHeartbeats 1000000 in
theorem shared_any (a b : ByteArray) (w : World) (ha : a.size ≤ maxLen) :
    Calls Tryd.prog 31 #[.string a, .string b] w fun e w' => e = .returned (.int .i64 (Tess.shared a b : Nat)) ∧ Below w.heap.size w w' := by
  unfold maxLen at ha
  go_enter Tryd.func31, Tryd.ntmps31
  go_wp2
  go_loopw [5] (fun i wr => ∃ k : Nat, k ≤ a.size ∧ k ≤ b.size ∧ i = .int .i64 k ∧ a.data.toList.take k = b.data.toList.take k ∧ Below w.heap.size w wr) (fun i _ => a.size - (intOf i).toNat)
  case atStart => exact ⟨0, Nat.zero_le _, Nat.zero_le _, rfl, rfl, Below.refl _ _⟩
  case round =>
    obtain ⟨k, hka, hkb, rfl, heq, hB⟩ := hrel
    have HB := Lib.hid hB
    clear hB
    have HE := Lib.hid heq
    clear heq
    by_cases h1 : k < a.size
    · have h1i : (k : Int) < (a.size : Int) := by omega
      have h1d : decide ((k : Int) < (a.size : Int)) = true := decide_eq_true h1i
      by_cases h2 : k < b.size
      · have h2i : (k : Int) < (b.size : Int) := by omega
        have h2d : decide ((k : Int) < (b.size : Int)) = true := decide_eq_true h2i
        have hmi : (k : Int) < min (a.size : Int) (b.size : Int) := by omega
        have hmd : decide ((k : Int) < min (a.size : Int) (b.size : Int)) = true := decide_eq_true hmi
        by_cases he : a[k] = b[k]
        · have hen : ((a[k].toNat : Int) == (b[k].toNat : Int)) = true := by rw [he]; simp
          have HX := Lib.hid he
          clear he
          go_wp2
          go_quiet (fail)
          go_wp2
          go_roundw
          case rel => exact ⟨k + 1, by omega, by omega, by go_num, Tess.take_more a b k h1 h2 HE.out HX.out, below_drewN HB.out _⟩
          case measure => simp [intOf]; omega
        · have hne : a[k].toNat ≠ b[k].toNat := fun e => he (UInt8.toNat_inj.1 e)
          have hen : ((a[k].toNat : Int) == (b[k].toNat : Int)) = false := by rw [beq_eq_false_iff_ne]; omega
          have HX := Lib.hid (Tess.shared_at a b k hka hkb HE.out (.inr (.inr ⟨h1, h2, he⟩)))
          clear he
          go_wp2
          go_quiet (fail)
          go_wp2
          go_ret
          exact ⟨by rw [HX.out]; rfl, below_drewN HB.out _⟩
      · have h2i : ¬ (k : Int) < (b.size : Int) := by omega
        have h2d : decide ((k : Int) < (b.size : Int)) = false := decide_eq_false h2i
        have hmi : ¬ (k : Int) < min (a.size : Int) (b.size : Int) := by omega
        have hmd : decide ((k : Int) < min (a.size : Int) (b.size : Int)) = false := decide_eq_false hmi
        have HX := Lib.hid (Tess.shared_at a b k hka hkb HE.out (.inr (.inl (by omega))))
        go_wp2
        go_quiet (fail)
        go_wp2
        go_ret
        exact ⟨by rw [HX.out]; rfl, below_drewN HB.out _⟩
    · have h1i : ¬ (k : Int) < (a.size : Int) := by omega
      have h1d : decide ((k : Int) < (a.size : Int)) = false := decide_eq_false h1i
      have hmi : ¬ (k : Int) < min (a.size : Int) (b.size : Int) := by omega
      have hmd : decide ((k : Int) < min (a.size : Int) (b.size : Int)) = false := decide_eq_false hmi
      have HX := Lib.hid (Tess.shared_at a b k hka hkb HE.out (.inl (by omega)))
      go_wp2
      go_quiet (fail)
      go_wp2
      go_ret
      exact ⟨by rw [HX.out]; rfl, below_drewN HB.out _⟩

set_option maxHeartbeats 1000000 in
theorem rshared_any (a b : ByteArray) (w : World) (ha : a.size ≤ maxLen) :
    Calls Tryd.prog 34 #[.string a, .string b] w fun e w' => e = .returned (.int .i64 (Tess.shared a b : Nat)) ∧ Below w.heap.size w w' := by
  unfold maxLen at ha
  go_enter Tryd.func34, Tryd.ntmps34
  go_wp2
  go_loopw [5] (fun i wr => ∃ k : Nat, k ≤ a.size ∧ k ≤ b.size ∧ i = .int .i64 k ∧ a.data.toList.take k = b.data.toList.take k ∧ Below w.heap.size w wr) (fun i _ => a.size - (intOf i).toNat)
  case atStart => exact ⟨0, Nat.zero_le _, Nat.zero_le _, rfl, rfl, Below.refl _ _⟩
  case round =>
    obtain ⟨k, hka, hkb, rfl, heq, hB⟩ := hrel
    have HB := Lib.hid hB
    clear hB
    have HE := Lib.hid heq
    clear heq
    by_cases h1 : k < a.size
    · have h1i : (k : Int) < (a.size : Int) := by omega
      have h1d : decide ((k : Int) < (a.size : Int)) = true := decide_eq_true h1i
      by_cases h2 : k < b.size
      · have h2i : (k : Int) < (b.size : Int) := by omega
        have h2d : decide ((k : Int) < (b.size : Int)) = true := decide_eq_true h2i
        have hmi : (k : Int) < min (a.size : Int) (b.size : Int) := by omega
        have hmd : decide ((k : Int) < min (a.size : Int) (b.size : Int)) = true := decide_eq_true hmi
        by_cases he : a[k] = b[k]
        · have hen : ((a[k].toNat : Int) == (b[k].toNat : Int)) = true := by rw [he]; simp
          have HX := Lib.hid he
          clear he
          go_wp2
          go_quiet (fail)
          go_wp2
          go_roundw
          case rel => exact ⟨k + 1, by omega, by omega, by go_num, Tess.take_more a b k h1 h2 HE.out HX.out, below_drewN HB.out _⟩
          case measure => simp [intOf]; omega
        · have hne : a[k].toNat ≠ b[k].toNat := fun e => he (UInt8.toNat_inj.1 e)
          have hen : ((a[k].toNat : Int) == (b[k].toNat : Int)) = false := by rw [beq_eq_false_iff_ne]; omega
          have HX := Lib.hid (Tess.shared_at a b k hka hkb HE.out (.inr (.inr ⟨h1, h2, he⟩)))
          clear he
          go_wp2
          go_quiet (fail)
          go_wp2
          go_ret
          exact ⟨by rw [HX.out]; rfl, below_drewN HB.out _⟩
      · have h2i : ¬ (k : Int) < (b.size : Int) := by omega
        have h2d : decide ((k : Int) < (b.size : Int)) = false := decide_eq_false h2i
        have hmi : ¬ (k : Int) < min (a.size : Int) (b.size : Int) := by omega
        have hmd : decide ((k : Int) < min (a.size : Int) (b.size : Int)) = false := decide_eq_false hmi
        have HX := Lib.hid (Tess.shared_at a b k hka hkb HE.out (.inr (.inl (by omega))))
        go_wp2
        go_quiet (fail)
        go_wp2
        go_ret
        exact ⟨by rw [HX.out]; rfl, below_drewN HB.out _⟩
    · have h1i : ¬ (k : Int) < (a.size : Int) := by omega
      have h1d : decide ((k : Int) < (a.size : Int)) = false := decide_eq_false h1i
      have hmi : ¬ (k : Int) < min (a.size : Int) (b.size : Int) := by omega
      have hmd : decide ((k : Int) < min (a.size : Int) (b.size : Int)) = false := decide_eq_false hmi
      have HX := Lib.hid (Tess.shared_at a b k hka hkb HE.out (.inl (by omega)))
      go_wp2
      go_quiet (fail)
      go_wp2
      go_ret
      exact ⟨by rw [HX.out]; rfl, below_drewN HB.out _⟩

end Go.Proofs.YtpbecldgoimkmaaDoor
