/- Is a text a name? The program's: a range over a text. -/
import Derived.Test.YtdfnolgcdododaaDoorF3
import Derived.Laws.RangeAny
namespace Tess
open Go
/-- As far as looked. -/
def nameTo (s : ByteArray) (k : Nat) : Prop := ∀ j (h : j < s.size), j < k → (if j = 0 then isLow s[j] else isRest s[j]) = true
theorem isLow_rest {c : UInt8} (h : isLow c = true) : isRest c = true := by unfold isRest; simp [h]
theorem nameTo_succ {s : ByteArray} {k : Nat} (hk : k < s.size) (h : nameTo s k) (hc : (if k = 0 then isLow s[k] else isRest s[k]) = true) : nameTo s (k + 1) := by
  intro j hj hjk
  by_cases e : j < k
  · exact h j hj e
  · obtain rfl : j = k := by omega
    exact hc
theorem nameL_iff (l : List UInt8) : nameL l = true ↔ 0 < l.length ∧ ∀ j (h : j < l.length), (if j = 0 then isLow l[j] else isRest l[j]) = true := by
  cases l with
  | nil => simp [nameL]
  | cons c r =>
    simp only [nameL, Bool.and_eq_true, List.all_eq_true, List.length_cons]
    constructor
    · rintro ⟨h1, h2⟩
      refine ⟨by omega, fun j hj => ?_⟩
      cases j with
      | zero => simpa using h1
      | succ j => simpa using h2 _ (List.getElem_mem (by omega))
    · rintro ⟨_, h⟩
      refine ⟨by simpa using h 0 (by omega), fun x hx => ?_⟩
      obtain ⟨j, hj, rfl⟩ := List.getElem_of_mem hx
      have := h (j + 1) (by omega)
      rwa [if_neg (by omega), List.getElem_cons_succ] at this
theorem bget (s : ByteArray) (j : Nat) (h : j < s.size) : s.data.toList[j]'(by simpa using h) = s[j] := by simp; rfl
theorem okc_iff (s : ByteArray) (k : Nat) (hk : k < s.size) (c : Nat) (hc : c = s[k].toNat) :
    (if k = 0 then isLow s[k] else isRest s[k]) = true ↔ (97 ≤ c ∧ c ≤ 122) ∨ (0 < k ∧ (c = 95 ∨ (48 ≤ c ∧ c ≤ 57))) := by
  unfold isRest isLow
  rw [← hc]
  by_cases h : k = 0
  · simp [h]
  · rw [if_neg h]
    simp only [Bool.or_eq_true, Bool.and_eq_true, decide_eq_true_eq, beq_iff_eq]
    omega
theorem okc_not (s : ByteArray) (k : Nat) (hk : k < s.size) (c : Nat) (hc : c = s[k].toNat) (h : ¬ ((97 ≤ c ∧ c ≤ 122) ∨ (0 < k ∧ (c = 95 ∨ (48 ≤ c ∧ c ≤ 57))))) :
    (if k = 0 then isLow s[k] else isRest s[k]) = false := Bool.eq_false_iff.2 fun e => h ((okc_iff s k hk c hc).1 e)
theorem nameOk_end (s : ByteArray) (h : nameTo s s.size) : nameOk s = (decide (0 < s.size) && decide (s.size ≤ 20)) := by
  have hl : s.data.toList.length = s.size := by simp
  have e : nameL s.data.toList = decide (0 < s.size) := by
    rw [Bool.eq_iff_iff, nameL_iff, decide_eq_true_iff]
    constructor
    · exact fun h => by omega
    · exact fun h0 => ⟨by omega, fun j hj => by rw [bget s j (by omega)]; exact h j (by omega) (by omega)⟩
  unfold nameOk
  rw [e, Bool.and_comm]
theorem nameOk_not (s : ByteArray) (k : Nat) (hk : k < s.size) (h : (if k = 0 then isLow s[k] else isRest s[k]) = false) : nameOk s = false := by
  unfold nameOk
  have e : nameL s.data.toList = false := by
    rw [Bool.eq_false_iff]
    intro hn
    have := (nameL_iff _).1 hn |>.2 k (by simpa using hk)
    rw [bget s k hk, h] at this
    cases this
  rw [e, Bool.and_false]
end Tess
namespace Go.Proofs.YtdfnolgcdododaaDoor
open Go.RowKit Go.Sort

theorem iter_below (w : World) (s : ByteArray) (k : Nat) : Below w.heap.size w (w.iter s k) := (Below.refl _ _).alloc (Nat.le_refl _) _
theorem ret_bool' {a b : Bool} (h : a = b) : Ending.returned (.bool a) = .returned (.bool b) := by rw [h]
set_option maxRecDepth 100000 in
theorem isName_zero (w : World) :
    Calls Tryd.prog 81 #[.string ByteArray.empty] w fun e w' => e = .returned (.bool false) ∧ Below w.heap.size w w' := by
  have hrs := @run_range_string Tryd.prog w 9 ByteArray.empty Tryd.underlying9
  have hnx := fun ty => run_next_end (P := Tryd.prog) w ByteArray.empty 0 ty (by decide)
  go_enter Tryd.func81, Tryd.ntmps81
  go_wp2
  refine wp_scope_straight ?_
  go_wp2
  refine wp_label ?_
  go_wp2
  refine wp_loop_rounds 1 ?_
  rw [rounds_succ]
  go_wp2
  try rw [Exit.noGoto_ret]
  go_ret
  exact ⟨rfl, iter_below _ _ _⟩
set_option maxRecDepth 100000 in
set_option maxHeartbeats 2000000 in
theorem isName_some (s : ByteArray) (w : World) (hs : s.size ≤ maxLen) (hpos : 0 < s.size) :
    Calls Tryd.prog 81 #[.string s] w fun e w' => e = .returned (.bool (Tess.nameOk s)) ∧ Below w.heap.size w w' := by
  unfold maxLen at hs
  have hrs := @run_range_string Tryd.prog w 9 s Tryd.underlying9
  have he : s.toList.isEmpty = false := by
    rw [Tess.tl, List.isEmpty_eq_false_iff]
    intro h
    have : s.data.toList.length = 0 := by rw [h]; rfl
    have h2 : s.data.toList.length = s.size := by simp
    omega
  have he2 : s.toList.isEmpty = false := he
  obtain ⟨b0', hb0⟩ : ∃ b0', decide ((s.size : Int) ≤ 20) = b0' := ⟨_, rfl⟩
  have HX : RowKit.Hid (b0' = (decide (0 < s.size) && decide (s.size ≤ 20))) := Lib.hid (by
    rw [← hb0, decide_eq_true hpos, Bool.true_and]; exact decide_eq_decide.2 (by omega))
  go_enter Tryd.func81, Tryd.ntmps81
  go_wp2
  all_goals
    refine wp_scope_straight ?_
    go_wp2
    refine wp_label ?_
    go_wp2
    clear hb0
    go_loopw [3] (fun b wr => ∃ k : Nat, k ≤ s.size ∧ b = .bool b0' ∧ wr = w.iter s k ∧ Tess.nameTo s k) (fun _ wr => s.size - wr.iterPos w.heap.size)
    case atStart => exact ⟨0, Nat.zero_le _, rfl, rfl, fun j _ h => absurd h (by omega)⟩
    case round =>
      obtain ⟨k, hk, rfl, rfl, hN⟩ := hrel
      have HN := Lib.hid hN
      clear hN
      by_cases hlt : k < s.size
      · obtain ⟨c, hc⟩ : ∃ c : Nat, c = s[k].toNat := ⟨_, rfl⟩
        have hc256 : c < 256 := by rw [hc]; exact UInt8.toNat_lt _
        have HGO : RowKit.Hid (∀ (_ : (97 ≤ c ∧ c ≤ 122) ∨ (0 < k ∧ (c = 95 ∨ (48 ≤ c ∧ c ≤ 57)))), Tess.nameTo s (k + 1)) := Lib.hid fun h => Tess.nameTo_succ hlt HN.out ((Tess.okc_iff s k hlt c hc).2 h)
        have HNO : RowKit.Hid (∀ (_ : ¬ ((97 ≤ c ∧ c ≤ 122) ∨ (0 < k ∧ (c = 95 ∨ (48 ≤ c ∧ c ≤ 57))))), Tess.nameOk s = false) := Lib.hid fun h => Tess.nameOk_not s k hlt (Tess.okc_not s k hlt c hc h)
        by_cases h128 : c < 128
        · have hnx := fun ty => run_next_ascii (P := Tryd.prog) w s k ty hlt (by omega)
          rw [← hc] at hnx
          clear hc
          rcases (show ((97 : Int) ≤ c ∧ (c : Int) ≤ 122) ∨ ((k : Int) < 1 ∧ (c : Int) < 97) ∨ ((k : Int) < 1 ∧ (122 : Int) < c) ∨ ((0 : Int) < k ∧ (c : Int) ≤ 95 ∧ (95 : Int) ≤ c) ∨ ((0 : Int) < k ∧ (48 : Int) ≤ c ∧ (c : Int) ≤ 57) ∨ ((0 : Int) < k ∧ (c : Int) < 48) ∨ ((0 : Int) < k ∧ (57 : Int) < c ∧ (c : Int) < 95) ∨ ((0 : Int) < k ∧ (95 : Int) < c ∧ (c : Int) < 97) ∨ ((0 : Int) < k ∧ (122 : Int) < c) by omega) with ⟨h1, h2⟩ | ⟨h1, h2⟩ | ⟨h1, h2⟩ | ⟨h1, h2, h3⟩ | ⟨h1, h2, h3⟩ | ⟨h1, h2⟩ | ⟨h1, h2, h3⟩ | ⟨h1, h2, h3⟩ | ⟨h1, h2⟩
          all_goals
            clear hrs h128 hc256
            first | have h97 : decide ((97 : Int) ≤ c) = true := decide_eq_true (by omega) | have h97 : decide ((97 : Int) ≤ c) = false := decide_eq_false (by omega) | skip
            first | have h122 : decide ((c : Int) ≤ 122) = true := decide_eq_true (by omega) | have h122 : decide ((c : Int) ≤ 122) = false := decide_eq_false (by omega) | skip
            first | have h48 : decide ((c : Int) < 48) = true := decide_eq_true (by omega) | have h48 : decide ((c : Int) < 48) = false := decide_eq_false (by omega) | skip
            first | have h57 : decide ((57 : Int) < c) = true := decide_eq_true (by omega) | have h57 : decide ((57 : Int) < c) = false := decide_eq_false (by omega) | skip
            first | have h95 : ((c : Int) != 95) = true := bne_iff_ne.2 (by omega) | have h95 : ((c : Int) != 95) = false := bne_eq_false_iff_eq.2 (by omega) | skip
            first | have h0 : ((k : Int) == 0) = true := beq_iff_eq.2 (by omega) | have h0 : ((k : Int) == 0) = false := beq_eq_false_iff_ne.2 (by omega) | skip
            go_wp2
            first
              | exact ⟨⟨k + 1, by omega, rfl, rfl, HGO.out (by omega)⟩, by simp only [World.iterPos_iter]; omega⟩
              | (try rw [Exit.noGoto_ret]
                 go_ret
                 exact ⟨ret_bool' (HNO.out (by omega)).symm, iter_below _ _ _⟩)
        · have hnx := fun ty => run_next_any (P := Tryd.prog) w s k ty hlt
          have hhi := decode_high s k hlt (by omega)
          have hle := decode_le s k
          have HNO := Lib.hid (HNO.out (by omega))
          generalize Utf8.decode s k = dc at *
          obtain ⟨r, n⟩ := dc
          simp only at hhi hle
          obtain ⟨r1, r2⟩ := hhi
          have r3 : (122 : Int) < r := by omega
          have r4 : ((r : Int) != 95) = true := by rw [bne_iff_ne]; omega
          clear hc HGO
          rcases (show (k : Int) < 1 ∨ (0 : Int) < k by omega) with h1 | h1
          all_goals
            clear hrs h128 hc256
            first | have h97 : decide ((97 : Int) ≤ r) = true := decide_eq_true (by omega) | have h97 : decide ((97 : Int) ≤ r) = false := decide_eq_false (by omega) | skip
            first | have h122 : decide ((r : Int) ≤ 122) = true := decide_eq_true (by omega) | have h122 : decide ((r : Int) ≤ 122) = false := decide_eq_false (by omega) | skip
            first | have h48 : decide ((r : Int) < 48) = true := decide_eq_true (by omega) | have h48 : decide ((r : Int) < 48) = false := decide_eq_false (by omega) | skip
            first | have h57 : decide ((57 : Int) < r) = true := decide_eq_true (by omega) | have h57 : decide ((57 : Int) < r) = false := decide_eq_false (by omega) | skip
            first | have h95 : ((r : Int) != 95) = true := bne_iff_ne.2 (by omega) | have h95 : ((r : Int) != 95) = false := bne_eq_false_iff_eq.2 (by omega) | skip
            first | have h0 : ((k : Int) == 0) = true := beq_iff_eq.2 (by omega) | have h0 : ((k : Int) == 0) = false := beq_eq_false_iff_ne.2 (by omega) | skip
            go_wp2
            try rw [Exit.noGoto_ret]
            go_ret
            exact ⟨ret_bool' HNO.out.symm, iter_below _ _ _⟩
      · have hnx := fun ty => run_next_end (P := Tryd.prog) w s k ty hlt
        obtain rfl : k = s.size := by omega
        have HE := Lib.hid (Tess.nameOk_end s HN.out)
        go_wp2
        try rw [Exit.noGoto_ret]
        go_ret
        exact ⟨ret_bool' (by rw [HE.out, HX.out]), iter_below _ _ _⟩
theorem isName_any (s : ByteArray) (w : World) (hs : s.size ≤ maxLen) :
    Calls Tryd.prog 81 #[.string s] w fun e w' => e = .returned (.bool (Tess.nameOk s)) ∧ Below w.heap.size w w' := by
  rcases Nat.eq_zero_or_pos s.size with h | h
  · have e : s = ByteArray.empty := ByteArray.ext (Array.eq_empty_of_size_eq_zero h)
    subst e
    exact isName_zero w
  · exact isName_some s w hs h
end Go.Proofs.YtdfnolgcdododaaDoor
