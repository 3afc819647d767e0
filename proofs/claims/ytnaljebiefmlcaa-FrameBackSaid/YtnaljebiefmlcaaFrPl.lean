/- Plain facts on the sum of bytes; no program in sight. -/
namespace Tess

/-- One of the eight steps of a sum. -/
def cstep (n : Nat) : Nat := if n % 2 = 1 then (n / 2) ^^^ 3988292384 else n / 2
def cstepN : Nat → Nat → Nat
  | 0, n => n
  | k + 1, n => cstep (cstepN k n)
def crc1 (n : Nat) (c : UInt8) : Nat := cstepN 8 (n ^^^ c.toNat)
def crcs (l : List UInt8) : Nat := l.foldl crc1 4294967295
def csum (l : List UInt8) : Nat := crcs l ^^^ 4294967295

theorem cstepN_succ (k : Nat) (n : Nat) : cstepN (k + 1) n = cstep (cstepN k n) := rfl
theorem xor_lt (a b : Nat) (ha : a < 4294967296) (hb : b < 4294967296) : a ^^^ b < 4294967296 := Nat.xor_lt_two_pow (n := 32) ha hb
theorem cstep_lt (n : Nat) (h : n < 4294967296) : cstep n < 4294967296 := by
  unfold cstep; split
  · exact xor_lt _ _ (by omega) (by omega)
  · omega
theorem cstepN_lt (k n : Nat) (h : n < 4294967296) : cstepN k n < 4294967296 := by
  induction k with
  | zero => exact h
  | succ k ih => exact cstep_lt _ ih
theorem crc1_lt (n : Nat) (c : UInt8) (h : n < 4294967296) : crc1 n c < 4294967296 :=
  cstepN_lt _ _ (xor_lt _ _ h (by have := c.toNat_lt; omega))
theorem crcs_snoc (l : List UInt8) (c : UInt8) : crcs (l ++ [c]) = crc1 (crcs l) c := by
  simp [crcs]
theorem foldl_lt (l : List UInt8) : ∀ n, n < 4294967296 → l.foldl crc1 n < 4294967296 := by
  induction l with
  | nil => exact fun n h => h
  | cons c l ih => exact fun n h => ih _ (crc1_lt n c h)
theorem crcs_lt (l : List UInt8) : crcs l < 4294967296 := foldl_lt l _ (by omega)
theorem csum_lt (l : List UInt8) : csum l < 4294967296 := xor_lt _ _ (crcs_lt l) (by omega)
theorem take_snoc (s : ByteArray) (k : Nat) (h : k < s.size) : s.data.toList.take (k + 1) = s.data.toList.take k ++ [s[k]] := by
  rw [List.take_succ_eq_append_getElem (by simpa using h)]; rfl
theorem crcs_take (s : ByteArray) (k : Nat) (h : k < s.size) : crcs (s.data.toList.take (k + 1)) = cstepN 8 (crcs (s.data.toList.take k) ^^^ s[k].toNat) := by
  rw [take_snoc s k h, crcs_snoc]; rfl

theorem xor_half (a b : Nat) : (a ^^^ b) / 2 = a / 2 ^^^ b / 2 := Nat.xor_div_two ..
theorem xor_odd (a b : Nat) : (a ^^^ b) % 2 = (a % 2 + b % 2) % 2 := by
  have h := Nat.xor_mod_two_pow (a := a) (b := b) (n := 1)
  rw [Nat.pow_one] at h
  rw [h]
  rcases Nat.mod_two_eq_zero_or_one a with ha | ha <;> rcases Nat.mod_two_eq_zero_or_one b with hb | hb <;> rw [ha, hb] <;> rfl
theorem xor_4 (a b p : Nat) : a ^^^ b = (a ^^^ p) ^^^ (b ^^^ p) := by
  rw [Nat.xor_assoc, ← Nat.xor_assoc p b p, Nat.xor_comm p b, Nat.xor_assoc b p p, Nat.xor_self, Nat.xor_zero]
theorem cstep_xor (a b : Nat) : cstep (a ^^^ b) = cstep a ^^^ cstep b := by
  unfold cstep
  rw [xor_half, xor_odd]
  rcases Nat.mod_two_eq_zero_or_one a with ha | ha <;> rcases Nat.mod_two_eq_zero_or_one b with hb | hb <;> simp [ha, hb]
  · rw [Nat.xor_assoc]
  · rw [Nat.xor_assoc, Nat.xor_assoc, Nat.xor_comm (b / 2)]
  · exact xor_4 _ _ _
theorem cstepN_xor (k a b : Nat) : cstepN k (a ^^^ b) = cstepN k a ^^^ cstepN k b := by
  induction k with
  | zero => rfl
  | succ k ih => rw [cstepN, ih, cstep_xor]; rfl
theorem cstep_even (q : Nat) : cstep (2 * q) = q := by
  unfold cstep; rw [if_neg (by omega)]; omega
theorem cstepN_256 (q : Nat) : cstepN 8 (256 * q) = q := by
  rw [show 256 * q = 2 * (2 * (2 * (2 * (2 * (2 * (2 * (2 * q))))))) from by omega]
  simp only [cstepN, cstep_even]
theorem split_256 (n : Nat) : n = (256 * (n / 256)) ^^^ (n % 256) := by
  apply Nat.eq_of_testBit_eq
  intro i
  rw [Nat.testBit_xor, show (256 : Nat) = 2 ^ 8 from rfl, Nat.testBit_two_pow_mul, Nat.testBit_mod_two_pow, Nat.testBit_div_two_pow]
  by_cases h : i < 8
  · have : ¬ 8 ≤ i := by omega
    simp [h, this]
  · have h8 : 8 ≤ i := by omega
    simp [h, h8, show i - 8 + 8 = i from by omega]
theorem crc_tab (n c : Nat) : (n / 256) ^^^ cstepN 8 ((n % 256) ^^^ c) = cstepN 8 (n ^^^ c) := by
  conv => rhs; rw [split_256 n]
  rw [Nat.xor_assoc, cstepN_xor 8 (256 * (n / 256)), cstepN_256]

/-- The number that bytes are, the greatest one first. -/
def num4 (l : List UInt8) : Nat := l.foldl (fun n c => n * 256 + c.toNat) 0
/-- A number in four bytes. -/
def be4 (n : Nat) : ByteArray := ⟨#[UInt8.ofNat (n / 16777216 % 256), UInt8.ofNat (n / 65536 % 256), UInt8.ofNat (n / 256 % 256), UInt8.ofNat (n % 256)]⟩
theorem num4_snoc (l : List UInt8) (c : UInt8) : num4 (l ++ [c]) = num4 l * 256 + c.toNat := by simp [num4]
theorem num4_take (s : ByteArray) (k : Nat) (h : k < s.size) : num4 (s.data.toList.take (k + 1)) = num4 (s.data.toList.take k) * 256 + s[k].toNat := by
  rw [take_snoc s k h, num4_snoc]
theorem num4_lt (l : List UInt8) : num4 l < 256 ^ l.length := by
  suffices h : ∀ (l : List UInt8) (n : Nat), l.foldl (fun n c => n * 256 + c.toNat) n < (n + 1) * 256 ^ l.length by
    have := h l 0; simpa [num4] using this
  intro l
  induction l with
  | nil => intro n; simp
  | cons c l ih =>
    intro n
    have h1 := ih (n * 256 + c.toNat)
    have h2 := c.toNat_lt
    simp only [List.foldl_cons, List.length_cons, Nat.pow_succ]
    refine Nat.lt_of_lt_of_le h1 ?_
    rw [Nat.mul_comm (256 ^ l.length) 256, ← Nat.mul_assoc]
    exact Nat.mul_le_mul_right _ (by omega)
theorem num4_lt3 (l : List UInt8) (h : l.length ≤ 3) : num4 l < 16777216 := by
  have h1 := num4_lt l
  have h2 : 256 ^ l.length ≤ 256 ^ 3 := Nat.pow_le_pow_right (by omega) h
  omega
theorem num4_lt4 (l : List UInt8) (h : l.length ≤ 4) : num4 l < 4294967296 := by
  have h1 := num4_lt l
  have h2 : 256 ^ l.length ≤ 256 ^ 4 := Nat.pow_le_pow_right (by omega) h
  omega

theorem num4_take4 (s : ByteArray) (h : 4 ≤ s.size) : num4 (s.data.toList.take 4) = ((s[0].toNat * 256 + s[1].toNat) * 256 + s[2].toNat) * 256 + s[3].toNat := by
  rw [num4_take s 3 (by omega), num4_take s 2 (by omega), num4_take s 1 (by omega), num4_take s 0 (by omega)]
  simp [num4]

/-- A frame. -/
def mkf (s : ByteArray) : ByteArray := be4 s.size ++ be4 (csum s.data.toList) ++ s

/-- The bytes from a place on. -/
def frm (s : ByteArray) (k : Nat) : ByteArray := s.extract k s.size
/-- What is read: the bytes, what is behind them, an error's number. -/
def rd (s : ByteArray) : ByteArray × ByteArray × Nat :=
  if s.size < 8 then (⟨#[]⟩, s, 21)
  else if 60000 < num4 (s.data.toList.take 4) then (⟨#[]⟩, s, 30)
  else if s.size < 8 + num4 (s.data.toList.take 4) then (⟨#[]⟩, s, 21)
  else if csum (s.extract 8 (8 + num4 (s.data.toList.take 4))).data.toList = num4 ((frm s 4).data.toList.take 4) then (s.extract 8 (8 + num4 (s.data.toList.take 4)), frm s (8 + num4 (s.data.toList.take 4)), 0)
  else (⟨#[]⟩, s, 31)
end Tess
