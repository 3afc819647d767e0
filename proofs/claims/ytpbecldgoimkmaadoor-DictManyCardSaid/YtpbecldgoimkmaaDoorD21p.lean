/- Numbers read: plain. -/
import Derived.Test.YtpbecldgoimkmaaDoorD20
namespace Tess
def dec : List UInt8 → Nat
  | [] => 0
  | c :: cs => c.toNat % 128 + 128 * dec cs
theorem dec_append (L : List UInt8) (c : UInt8) : dec (L ++ [c]) = dec L + 128 ^ L.length * (c.toNat % 128) := by
  induction L with
  | nil => simp [dec]
  | cons a L ih =>
    simp only [List.cons_append, dec, ih, List.length_cons, Nat.pow_succ]
    rw [Nat.mul_add, Nat.add_assoc]
    congr 2
    rw [← Nat.mul_assoc, Nat.mul_comm 128]
theorem dec_lt (L : List UInt8) : dec L < 128 ^ L.length := by
  induction L with
  | nil => simp [dec]
  | cons a L ih =>
    simp only [dec, List.length_cons, Nat.pow_succ]
    have := Nat.mod_lt a.toNat (show 0 < 128 by omega)
    omega
theorem pow_128 (k : Nat) : 128 ^ k = 2 ^ (7 * k) := by rw [Nat.pow_mul]
theorem acc_step (L : List UInt8) (c : UInt8) (k : Nat) (hL : L.length = k) (hk : k ≤ 9) :
    (dec L % 18446744073709551616) ||| (((c.toNat % 128) * 2 ^ (7 * k)) % 18446744073709551616) = dec (L ++ [c]) % 18446744073709551616 := by
  rw [dec_append, hL, pow_128]
  have hb : dec L < 2 ^ (7 * k) := by have := dec_lt L; rw [hL, pow_128] at this; exact this
  generalize dec L = x at hb
  generalize c.toNat % 128 = d
  obtain ⟨m, hm⟩ : ∃ m, 64 = 7 * k + m := ⟨64 - 7 * k, by omega⟩
  rw [show (18446744073709551616 : Nat) = 2 ^ (7 * k) * 2 ^ m by rw [← Nat.pow_add, ← hm]]
  have hp : 0 < 2 ^ (7 * k) := Nat.pow_pos (by omega)
  have hpm : 0 < 2 ^ m := Nat.pow_pos (by omega)
  have e1 : x % (2 ^ (7 * k) * 2 ^ m) = x := Nat.mod_eq_of_lt (Nat.lt_of_lt_of_le hb (Nat.le_mul_of_pos_right _ hpm))
  rw [e1, Nat.mul_comm d, Nat.mul_mod_mul_left, Nat.or_comm, ← Nat.two_pow_add_eq_or_of_lt hb, Nat.add_comm x, Nat.mod_mul, Nat.mul_add_mod, Nat.mod_eq_of_lt hb]
  rw [Nat.mul_add_div hp, Nat.div_eq_of_lt hb, Nat.add_zero, Nat.add_comm]
/-- All go on but the last. -/
def goesOn (L : List UInt8) : Prop := ∀ j (h : j < L.length), 128 ≤ L[j].toNat
theorem putL_dec (L : List UInt8) : ∀ (c : UInt8), goesOn L → c.toNat < 128 → (L = [] ∨ c ≠ 0) → putL (dec (L ++ [c])) = L ++ [c] := by
  induction L with
  | nil =>
    intro c _ hc _
    rw [show dec ([] ++ [c]) = c.toNat by simp [dec]; omega, putL_lt _ hc]
    simp
  | cons a L ih =>
    intro c hg hc h0
    have ha : 128 ≤ a.toNat := hg 0 (by simp)
    have ha2 := a.toNat_lt
    have hc0 : c ≠ 0 := by rcases h0 with h | h; cases h; exact h
    have hr := ih c (fun j hj => hg (j + 1) (by simpa using hj)) hc (.inr hc0)
    have hpos : 0 < dec (L ++ [c]) := by
      rw [dec_append]
      have : 0 < c.toNat % 128 := by
        rw [Nat.mod_eq_of_lt hc]
        exact Nat.pos_of_ne_zero fun e => hc0 (UInt8.toNat_inj.1 (by simpa using e))
      have := Nat.mul_pos (Nat.pow_pos (n := L.length) (show 0 < 128 by omega)) this
      omega
    rw [List.cons_append, show dec (a :: (L ++ [c])) = a.toNat % 128 + 128 * dec (L ++ [c]) from rfl, putL_ge _ (by omega)]
    rw [show (a.toNat % 128 + 128 * dec (L ++ [c])) / 128 = dec (L ++ [c]) by omega, hr]
    congr 1
    apply UInt8.toNat_inj.1
    rw [UInt8.toNat_ofNat']
    omega
theorem dec_putL (k : Nat) : ∀ n, n < 128 ^ (k + 1) → dec (putL n) = n := by
  induction k with
  | zero =>
    intro n hn
    rw [putL_lt n (by simpa using hn)]
    simp only [dec, UInt8.toNat_ofNat']
    omega
  | succ k ih =>
    intro n hn
    by_cases h : n < 128
    · rw [putL_lt n h]; simp only [dec, UInt8.toNat_ofNat']; omega
    · rw [putL_ge n h]
      simp only [dec, UInt8.toNat_ofNat']
      rw [ih (n / 128) (by rw [Nat.pow_succ] at hn; omega)]
      omega
theorem putL_last (k : Nat) : ∀ n, n < 128 ^ (k + 1) → ∀ (L : List UInt8) (c : UInt8), putL n = L ++ [c] → L = [] ∨ c ≠ 0 := by
  induction k with
  | zero =>
    intro n hn L c h
    rw [putL_lt n (by simpa using hn)] at h
    left
    cases L with
    | nil => rfl
    | cons a L => simp at h
  | succ k ih =>
    intro n hn L c h
    by_cases h1 : n < 128
    · rw [putL_lt n h1] at h
      left
      cases L with
      | nil => rfl
      | cons a L => simp at h
    · rw [putL_ge n h1] at h
      cases L with
      | nil => left; rfl
      | cons a L =>
        rw [List.cons_append] at h
        obtain ⟨_, h2⟩ := List.cons.inj h
        rcases ih (n / 128) (by rw [Nat.pow_succ] at hn; omega) L c h2 with h3 | h3
        · right
          subst h3
          intro hc
          subst hc
          have := congrArg dec h2
          rw [dec_putL k _ (by rw [Nat.pow_succ] at hn; omega)] at this
          simp [dec] at this
          omega
        · right; exact h3
def stop (L : List UInt8) : Nat := (L.take 10).findIdx fun c => decide (c.toNat < 128)
def goodV (L : List UInt8) (k : Nat) : Bool := (decide (k = 0) || decide (L.getD k 0 ≠ 0)) && (decide (k < 9) || decide ((L.getD k 0).toNat ≤ 1))
def getW (s : ByteArray) : Nat × ByteArray × Nat :=
  if stop s.data.toList < min s.size 10 then
    (if goodV s.data.toList (stop s.data.toList) then (dec (s.data.toList.take (stop s.data.toList + 1)), s.extract (stop s.data.toList + 1) s.size, 0) else (0, s, 20))
  else (0, s, if s.size < 10 then 21 else 20)
/-- Where reading stops. -/
theorem stop_at (L : List UInt8) (k : Nat) (_hk : k ≤ min L.length 10) (h : ∀ j (hj : j < L.length), j < k → 128 ≤ L[j].toNat) (he : k = min L.length 10 ∨ ∃ hk : k < L.length, k < 10 ∧ L[k].toNat < 128) : stop L = k := by
  unfold stop
  rcases he with he | ⟨hk2, hk3, he⟩
  · rw [show k = (L.take 10).length by simp; omega, List.findIdx_eq_length]
    intro c hc
    obtain ⟨j, hj, rfl⟩ := List.getElem_of_mem hc
    simp only [List.length_take] at hj
    have := h j (by omega) (by omega)
    rw [List.getElem_take]
    simpa using this
  · rw [List.findIdx_eq (by simp; omega)]
    refine ⟨by rw [List.getElem_take]; simpa using he, fun j hj => ?_⟩
    have := h j (by omega) hj
    rw [List.getElem_take]
    simpa using this
theorem take_split (L : List UInt8) (k : Nat) (hk : k < L.length) : L.take (k + 1) = L.take k ++ [L[k]] := List.take_succ_eq_append_getElem hk
/-- What is written again is what was read, just if it was right. -/
theorem again (L : List UInt8) (k : Nat) (hk : k < L.length) (hk9 : k < 10) (h : ∀ j (hj : j < L.length), j < k → 128 ≤ L[j].toNat) (hc : L[k].toNat < 128) :
    (putL (dec (L.take (k + 1)) % 18446744073709551616) = L.take (k + 1) ↔ goodV L k = true) ∧ (goodV L k = true → dec (L.take (k + 1)) < 18446744073709551616) := by
  have hlt : (L.take k).length = k := by simp; omega
  have hg : L.getD k 0 = L[k] := by simp [hk]
  have hon : goesOn (L.take k) := fun j hj => by rw [List.getElem_take]; exact h j (by simp at hj; omega) (by simp at hj; omega)
  have hd : dec (L.take k ++ [L[k]]) = dec (L.take k) + 128 ^ k * (L[k].toNat % 128) := by rw [dec_append, hlt]
  have hdl : dec (L.take k) < 128 ^ k := by have := dec_lt (L.take k); rwa [hlt] at this
  rw [take_split L k hk]
  have hsmall : (k < 9 ∨ L[k].toNat ≤ 1) → dec (L.take k ++ [L[k]]) < 18446744073709551616 := by
    intro hcase
    rcases hcase with hlt9 | h1
    · have := dec_lt (L.take k ++ [L[k]])
      rw [List.length_append, hlt, List.length_singleton] at this
      have h2 : 128 ^ (k + 1) ≤ 128 ^ 9 := Nat.pow_le_pow_right (by omega) (by omega)
      have h3 : (128 : Nat) ^ 9 = 9223372036854775808 := by decide
      omega
    · rw [hd]
      have h2 : 128 ^ k ≤ 128 ^ 9 := Nat.pow_le_pow_right (by omega) (by omega)
      have h3 : (128 : Nat) ^ 9 = 9223372036854775808 := by decide
      have h4 : 128 ^ k * (L[k].toNat % 128) ≤ 128 ^ k * 1 := Nat.mul_le_mul_left _ (by omega)
      omega
  have hgood : goodV L k = true ↔ (k = 0 ∨ L[k] ≠ 0) ∧ (k < 9 ∨ L[k].toNat ≤ 1) := by
    unfold goodV
    rw [hg]
    simp only [Bool.and_eq_true, Bool.or_eq_true, decide_eq_true_eq]
  refine ⟨⟨fun heq => ?_, fun hgv => ?_⟩, fun hgv => hsmall (hgood.1 hgv).2⟩
  · rw [hgood]
    constructor
    · rcases putL_last 9 _ (Nat.lt_of_lt_of_le (Nat.mod_lt _ (by omega)) (by decide)) _ _ heq with h1 | h1
      · left
        have := congrArg List.length h1
        rw [hlt] at this; simpa using this
      · exact .inr h1
    · have h1 := congrArg dec heq
      rw [dec_putL 9 _ (Nat.lt_of_lt_of_le (Nat.mod_lt _ (by omega)) (by decide))] at h1
      have h2 : dec (L.take k ++ [L[k]]) < 18446744073709551616 := by rw [← h1]; exact Nat.mod_lt _ (by omega)
      by_cases h9 : k < 9
      · exact .inl h9
      · right
        obtain rfl : k = 9 := by omega
        rw [hd] at h2
        have h3 : (128 : Nat) ^ 9 = 9223372036854775808 := by decide
        rw [h3] at h2
        omega
  · obtain ⟨h1, h2⟩ := hgood.1 hgv
    rw [Nat.mod_eq_of_lt (hsmall h2)]
    refine putL_dec _ _ hon hc ?_
    rcases h1 with h1 | h1
    · left; subst h1; rfl
    · exact .inr h1
end Tess
