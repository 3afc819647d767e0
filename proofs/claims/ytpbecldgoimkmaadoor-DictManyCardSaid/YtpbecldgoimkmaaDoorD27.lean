/- dict's reader: word. -/
import Derived.Test.YtpbecldgoimkmaaDoorD26
namespace Tess
theorem numW_le (rest : ByteArray) (most : Nat) : (numW rest most).1 ≤ most := by
  unfold numW
  split
  · split
    · exact Nat.zero_le _
    · rename_i h; exact Nat.le_of_not_lt h
  · exact Nat.zero_le _
/-- What is left, the word, what is wrong. -/
def wordW (rest last : ByteArray) : ByteArray × ByteArray × Nat :=
  if (numW rest last.size).2.2 = 0 then
    (if (numW (numW rest last.size).2.1 (100 - (numW rest last.size).1)).2.2 = 0 then
      (if (numW (numW rest last.size).2.1 (100 - (numW rest last.size).1)).2.1.size < (numW (numW rest last.size).2.1 (100 - (numW rest last.size).1)).1 then ((numW (numW rest last.size).2.1 (100 - (numW rest last.size).1)).2.1, last, 21)
       else ((numW (numW rest last.size).2.1 (100 - (numW rest last.size).1)).2.1.extract (numW (numW rest last.size).2.1 (100 - (numW rest last.size).1)).1 (numW (numW rest last.size).2.1 (100 - (numW rest last.size).1)).2.1.size,
         last.extract 0 (numW rest last.size).1 ++ (numW (numW rest last.size).2.1 (100 - (numW rest last.size).1)).2.1.extract 0 (numW (numW rest last.size).2.1 (100 - (numW rest last.size).1)).1, 0))
     else ((numW (numW rest last.size).2.1 (100 - (numW rest last.size).1)).2.1, last, (numW (numW rest last.size).2.1 (100 - (numW rest last.size).1)).2.2))
  else ((numW rest last.size).2.1, last, (numW rest last.size).2.2)
theorem wordW_of (rest last : ByteArray) (n k : Nat) (r1 r2 : ByteArray) (c1 c2 : Nat) (h1 : numW rest last.size = (n, r1, c1)) (h2 : numW r1 (100 - n) = (k, r2, c2)) :
    wordW rest last = if c1 = 0 then (if c2 = 0 then (if r2.size < k then (r2, last, 21) else (r2.extract k r2.size, last.extract 0 n ++ r2.extract 0 k, 0)) else (r2, last, c2)) else (r1, last, c1) := by
  unfold wordW
  simp only [h1, h2]
theorem wordW_size (rest last : ByteArray) (hl : last.size ≤ 100) : (wordW rest last).2.1.size ≤ 100 := by
  obtain ⟨⟨n, r1, c1⟩, h1⟩ : ∃ g, g = numW rest last.size := ⟨_, rfl⟩
  obtain ⟨⟨k, r2, c2⟩, h2⟩ : ∃ g, g = numW r1 (100 - n) := ⟨_, rfl⟩
  rw [wordW_of rest last n k r1 r2 c1 c2 h1.symm h2.symm]
  have hn := numW_le rest last.size
  have hk := numW_le r1 (100 - n)
  rw [← h1] at hn
  rw [← h2] at hk
  simp only at hn hk
  split
  · split
    · split
      · exact hl
      · simp; omega
    · exact hl
  · exact hl
end Tess
namespace Go.Proofs.YtpbecldgoimkmaaDoor
open Go.RowKit Go.Sort Go.Shelf

set_option maxRecDepth 100000 in
set_option maxHeartbeats 2000000 in
theorem word_any (a0 a1 : Addr) (wb : World) (p : Nat) (rest last : ByteArray) (w : World) (hv : Vars a0 a1 wb) (hpb : wb.heap.size ≤ p) (hB : Below wb.heap.size wb w) (hr : Rd p rest last w) (hl : last.size ≤ 100) :
    Calls Tryd.prog 36 #[.pointer (some ⟨p, 0, none⟩)] w fun e w' => e = .returned (dErr (Tess.wordW rest last).2.2) ∧ Rd p (Tess.wordW rest last).1 (Tess.wordW rest last).2.1 w' ∧ Kept w.heap.size p w w' := by
  have hn1 := number_any a0 a1 wb p last.size rest last w hv hB hr (by omega)
  have hle := Tess.numW_le rest last.size
  obtain ⟨⟨n, r1, x1⟩, h1⟩ : ∃ g, g = Tess.numW rest last.size := ⟨_, rfl⟩
  obtain ⟨⟨k, r2, x2⟩, h2⟩ : ∃ g, g = Tess.numW r1 (100 - n) := ⟨_, rfl⟩
  have hW := Tess.wordW_of rest last n k r1 r2 x1 x2 h1.symm h2.symm
  have hkle := Tess.numW_le r1 (100 - n)
  rw [← h1] at hn1 hle
  rw [← h2] at hkle
  simp only at hn1 hle hkle
  have hn2 : ∀ W, Below wb.heap.size wb W → Rd p r1 last W → Calls Tryd.prog 35 #[.pointer (some ⟨p, 0, none⟩), .int .i64 ((100 - n : Nat) : Int)] W fun e w' => e = .returned (.tuple #[.int .i64 (k : Nat), dErr x2]) ∧ Rd p r2 last w' ∧ Kept W.heap.size p W w' := fun W hBW hRW => by
    have := number_any a0 a1 wb p (100 - n) r1 last W hv hBW hRW (by omega)
    rw [← h2] at this
    exact this
  have d1 := hr.c1
  have HN1 := Lib.hid hn1
  have HN2 := Lib.hid hn2
  have HBB := Lib.hid hB
  clear hn1 hn2 hv hB hr h1 h2
  rw [hW]
  have h100 : (100 : Int) - (n : Int) = ((100 - n : Nat) : Int) := by omega
  obtain ⟨m, hm⟩ : ∃ m, m = 100 - n := ⟨_, rfl⟩
  rw [← hm] at HN2 h100 hkle
  have hm100 : m ≤ 100 := by omega
  have hwm : IntKind.i64.wrap (m : Int) = (m : Int) := by go_bits; first | trivial | omega
  have hnl : n ≤ last.size := hle
  clear hm hW
  by_cases hx1 : x1 = 0
  · subst hx1
    rw [if_pos rfl]
    by_cases hx2 : x2 = 0
    · subst hx2
      rw [if_pos rfl]
      have hd0 : dErr 0 = .nilIface := rfl
      rw [hd0] at HN1 HN2
      by_cases hk : r2.size < k
      · rw [if_pos hk]
        have hki : (r2.size : Int) < (k : Int) := by omega
        go_enter Tryd.func36, Tryd.ntmps36
        go_wp2_with (first
          | (go_at_call 35; with_reducible refine HN1.out.mono ?_; rintro e w1 ⟨rfl, hr1, hb1⟩; have HR1 := Lib.hid hr1; have HB1 := Lib.hid hb1; clear hr1 hb1)
          | (go_at_call 35; refine (HN2.out _ (HB1.out.from HBB.out hpb) HR1.out).mono ?_; rintro e w2 ⟨rfl, hr2, hb2⟩; have e0 := hr2.c0; have HR2 := Lib.hid hr2; have HB2 := Lib.hid (HB1.out.on hb2); clear hr2 hb2)
          | (go_at_call 56; refine (dfirst_any _ 21 _ (cell_new_sl _ _ _)).mono ?_; rintro e w3 ⟨rfl, rfl⟩))
        go_ret
        exact ⟨rfl, HR2.out.below ((Below.refl _ _).alloc (Nat.le_refl _) _), HB2.out.on (Kept.of_below ((Below.refl _ _).alloc (Nat.le_refl _) _))⟩
      · rw [if_neg hk]
        have hki : ¬ (r2.size : Int) < (k : Int) := by omega
        have hki2 : (k : Int) ≤ (r2.size : Int) := by omega
        have hni : (n : Int) ≤ (last.size : Int) := by omega
        have hcat : ¬ 9223372036854775807 < (last.extract 0 n).size + (r2.extract 0 k).size := by simp; omega
        go_enter Tryd.func36, Tryd.ntmps36
        go_wp2_with (first
          | (go_at_call 35; with_reducible refine HN1.out.mono ?_; rintro e w1 ⟨rfl, hr1, hb1⟩; have HR1 := Lib.hid hr1; have HB1 := Lib.hid hb1; clear hr1 hb1)
          | (go_at_call 35; refine (HN2.out _ (HB1.out.from HBB.out hpb) HR1.out).mono ?_; rintro e w2 ⟨rfl, hr2, hb2⟩; have e0 := hr2.c0; have e1 := hr2.c1; have z0 := hr2.z 0; have z1 := hr2.z 1; have HR2 := Lib.hid hr2; have HB2 := Lib.hid (HB1.out.on hb2); clear hr2 hb2))
        go_region
        all_goals go_wp2
        all_goals go_ret
        all_goals exact ⟨rfl, (HR2.out.set1 _).set0 _, HB2.out.trans (((Kept.setCell _ _ _ 1 _).trans (Kept.setCell _ _ _ 0 _)).trans ⟨rfl, rfl, rfl, Nat.le_refl _, fun _ _ _ => rfl⟩)⟩
    · rw [if_neg hx2]
      have hd0 : dErr 0 = .nilIface := rfl
      have hd2 : dErr x2 = .iface 82 (.agg #[.int .i64 x2]) := if_neg hx2
      rw [hd0] at HN1
      rw [hd2] at HN2 ⊢
      go_enter Tryd.func36, Tryd.ntmps36
      go_wp2_with (first
        | (go_at_call 35; with_reducible refine HN1.out.mono ?_; rintro e w1 ⟨rfl, hr1, hb1⟩; have HR1 := Lib.hid hr1; have HB1 := Lib.hid hb1; clear hr1 hb1)
        | (go_at_call 35; refine (HN2.out _ (HB1.out.from HBB.out hpb) HR1.out).mono ?_; rintro e w2 ⟨rfl, hr2, hb2⟩; have HR2 := Lib.hid hr2; have HB2 := Lib.hid (HB1.out.on hb2); clear hr2 hb2))
      go_ret
      exact ⟨rfl, HR2.out, HB2.out⟩
  · rw [if_neg hx1]
    have hd1 : dErr x1 = .iface 82 (.agg #[.int .i64 x1]) := if_neg hx1
    rw [hd1] at HN1 ⊢
    go_enter Tryd.func36, Tryd.ntmps36
    go_wp2_with (go_at_call 35; with_reducible refine HN1.out.mono ?_; rintro e w1 ⟨rfl, hr1, hb1⟩; have HR1 := Lib.hid hr1; have HB1 := Lib.hid hb1; clear hr1 hb1)
    go_ret
    exact ⟨rfl, HR1.out, HB1.out⟩
end Go.Proofs.YtpbecldgoimkmaaDoor
