/- dict.Decode. -/
import Derived.Test.YtpbecldgoimkmaaDoorD27
import Derived.Test.YtpbecldgoimkmaaDoorD1
namespace Tess
def wordsW : Nat → ByteArray → ByteArray → List ByteArray × ByteArray × Nat
  | 0, rest, _ => ([], rest, 0)
  | n + 1, rest, last => if (wordW rest last).2.2 = 0 then ((wordW rest last).2.1 :: (wordsW n (wordW rest last).1 (wordW rest last).2.1).1, (wordsW n (wordW rest last).1 (wordW rest last).2.1).2.1, (wordsW n (wordW rest last).1 (wordW rest last).2.1).2.2)
    else ([], (wordW rest last).1, (wordW rest last).2.2)
def decW (s : ByteArray) : List ByteArray × ByteArray × Nat :=
  if (numW s 1000).2.2 = 0 then
    (if (wordsW (numW s 1000).1 (numW s 1000).2.1 w0).2.2 = 0 then
      (if (encW (wordsW (numW s 1000).1 (numW s 1000).2.1 w0).1).2 = 0 ∧ (encW (wordsW (numW s 1000).1 (numW s 1000).2.1 w0).1).1 ++ (wordsW (numW s 1000).1 (numW s 1000).2.1 w0).2.1 = s then ((wordsW (numW s 1000).1 (numW s 1000).2.1 w0).1, (wordsW (numW s 1000).1 (numW s 1000).2.1 w0).2.1, 0)
       else ([], s, 50))
     else ([], s, (wordsW (numW s 1000).1 (numW s 1000).2.1 w0).2.2))
  else ([], s, (numW s 1000).2.2)
/-- What comes of some words, so many that are to come, what is left, the last one, what is wrong. -/
def fin (o : List ByteArray) (m : Nat) (r l : ByteArray) (c : Nat) : List ByteArray × ByteArray × Nat := if c = 0 then (o ++ (wordsW m r l).1, (wordsW m r l).2.1, (wordsW m r l).2.2) else (o, r, c)
theorem fin_word (o : List ByteArray) (m : Nat) (r l : ByteArray) (h : (wordW r l).2.2 = 0) : fin o (m + 1) r l 0 = fin (o ++ [(wordW r l).2.1]) m (wordW r l).1 (wordW r l).2.1 0 := by
  unfold fin
  rw [if_pos rfl, if_pos rfl]
  simp only [wordsW, h, if_true, List.append_assoc, List.singleton_append]
theorem fin_bad (o : List ByteArray) (m : Nat) (r l : ByteArray) (h : (wordW r l).2.2 ≠ 0) : fin o (m + 1) r l 0 = fin o m (wordW r l).1 (wordW r l).2.1 (wordW r l).2.2 := by
  unfold fin
  rw [if_pos rfl, if_neg h]
  simp only [wordsW, if_neg h, List.append_nil]
theorem fin_end (o : List ByteArray) (m : Nat) (r l : ByteArray) (c : Nat) (h : c ≠ 0 ∨ m = 0) : fin o m r l c = (o, r, c) := by
  unfold fin
  by_cases hc : c = 0
  · rcases h with h | h
    · exact absurd hc h
    · subst h; subst hc; simp [wordsW]
  · rw [if_neg hc]
theorem fin_nil (m : Nat) (r l : ByteArray) : fin [] m r l 0 = wordsW m r l := by unfold fin; simp
theorem getW_size (s : ByteArray) : (getW s).2.1.size ≤ s.size := by
  unfold getW
  split
  · split
    · simp
    · exact Nat.le_refl _
  · exact Nat.le_refl _
theorem numW_size (s : ByteArray) (m : Nat) : (numW s m).2.1.size ≤ s.size := by
  unfold numW
  split
  · split
    · exact Nat.le_refl _
    · exact getW_size s
  · exact Nat.le_refl _
theorem wordW_rest (r l : ByteArray) : (wordW r l).1.size ≤ r.size := by
  have h1 := numW_size r l.size
  have h2 := numW_size (numW r l.size).2.1 (100 - (numW r l.size).1)
  unfold wordW
  split
  · split
    · split
      · exact Nat.le_trans h2 h1
      · simp; omega
    · exact Nat.le_trans h2 h1
  · exact h1
theorem encW_size (l : List ByteArray) : (encW l).1.size ≤ 120010 := by
  by_cases h : right l = true
  · rw [sW_end l h]
    have := sW_size l h l.length (Nat.le_refl _)
    have := right_len l h
    show (sW l l.length).size ≤ _
    omega
  · unfold encW
    rw [if_neg h]
    exact Nat.zero_le _
theorem decW_of (s : ByteArray) (n c : Nat) (r : ByteArray) (h : numW s 1000 = (n, r, c)) : decW s = if c = 0 then
    (if (wordsW n r w0).2.2 = 0 then (if (encW (wordsW n r w0).1).2 = 0 ∧ (encW (wordsW n r w0).1).1 ++ (wordsW n r w0).2.1 = s then ((wordsW n r w0).1, (wordsW n r w0).2.1, 0) else ([], s, 50)) else ([], s, (wordsW n r w0).2.2)) else ([], s, c) := by
  unfold decW; simp only [h]
theorem dec_ok (s : ByteArray) (n c : Nat) (r r' : ByteArray) (o : List ByteArray) (hD : decW s = if c = 0 then
    (if (wordsW n r w0).2.2 = 0 then (if (encW (wordsW n r w0).1).2 = 0 ∧ (encW (wordsW n r w0).1).1 ++ (wordsW n r w0).2.1 = s then ((wordsW n r w0).1, (wordsW n r w0).2.1, 0) else ([], s, 50)) else ([], s, (wordsW n r w0).2.2)) else ([], s, c))
    (hE : fin [] n r w0 c = (o, r', 0)) : decW s = if (encW o).2 = 0 ∧ (encW o).1 ++ r' = s then (o, r', 0) else ([], s, 50) := by
  by_cases hc : c = 0
  · subst hc
    rw [fin_nil] at hE
    rw [hD, if_pos rfl, hE]
    simp only [if_true]
  · unfold fin at hE
    rw [if_neg hc] at hE
    exact absurd (congrArg (fun t => t.2.2) hE) hc
theorem dec_bad (s : ByteArray) (n c c' : Nat) (r r' : ByteArray) (o : List ByteArray) (hD : decW s = if c = 0 then
    (if (wordsW n r w0).2.2 = 0 then (if (encW (wordsW n r w0).1).2 = 0 ∧ (encW (wordsW n r w0).1).1 ++ (wordsW n r w0).2.1 = s then ((wordsW n r w0).1, (wordsW n r w0).2.1, 0) else ([], s, 50)) else ([], s, (wordsW n r w0).2.2)) else ([], s, c))
    (hE : fin [] n r w0 c = (o, r', c')) (hc' : c' ≠ 0) : decW s = ([], s, c') := by
  by_cases hc : c = 0
  · subst hc
    rw [fin_nil] at hE
    rw [hD, if_pos rfl, hE]
    simp only [if_neg hc']
  · unfold fin at hE
    rw [if_neg hc] at hE
    rw [hD, if_neg hc]
    have : c = c' := congrArg (fun t => t.2.2) hE
    rw [this]
end Tess
namespace Go.Proofs.YtpbecldgoimkmaaDoor
open Go.RowKit Go.Sort Go.Shelf

def DecPost (s : ByteArray) (w : World) (e : Ending) (w' : World) : Prop := ∃ v, e = .returned (.tuple #[v, .string (Tess.decW s).2.1, .int .i64 ((Tess.decW s).2.2 : Nat)]) ∧ SlOf w' v ((Tess.decW s).1.map .string) ∧ Below w.heap.size w w'

set_option maxRecDepth 100000 in
set_option maxHeartbeats 4000000 in
theorem decode_any (a0 a1 : Addr) (s : ByteArray) (w : World) (hv : Vars a0 a1 w) (hs : s.size ≤ 1000000) : Calls Tryd.prog 14 #[.string s] w (DecPost s w) := by
  obtain ⟨w0, hw0⟩ : ∃ w0, w0 = w.alloc (.cells #[.string s, .string Tess.w0] 61) := ⟨_, rfl⟩
  have hB0 : Below w.heap.size w w0 := by rw [hw0]; exact (Below.refl _ _).alloc (Nat.le_refl _) _
  have hr0 : Rd w.heap.size s Tess.w0 w0 := by rw [hw0]; exact World.alloc_heap_new w _
  have hn1 := number_any a0 a1 w w.heap.size 1000 s Tess.w0 w0 hv hB0 hr0 (by omega)
  have hnle := Tess.numW_le s 1000
  have hnsz := Tess.numW_size s 1000
  obtain ⟨⟨n, r, c⟩, h1⟩ : ∃ g, g = Tess.numW s 1000 := ⟨_, rfl⟩
  have hD := Tess.decW_of s n c r h1.symm
  rw [← h1] at hn1 hnle hnsz
  simp only at hn1 hnle hnsz
  obtain ⟨i0, hi, hz0, hz1, hz2⟩ := info_parts infoStr
  have HV := Lib.hid hv
  have HW := Lib.hid hw0
  have HB0 := Lib.hid hB0
  have HN1 := Lib.hid hn1
  have HD := Lib.hid hD
  have htw : ∀ W, Below w.heap.size w W → ∀ code, Calls Tryd.prog 37 #[dErr code] W fun e w' => e = .returned (.int .i64 (code : Nat)) ∧ Below W.heap.size W w' := fun W hB code => dtold_any a0 a1 code W (hv.below hB)
  have HT := Lib.hid htw
  clear hv hw0 hB0 hn1 hD htw hr0 h1
  unfold DecPost
  have hs0 : w0.heap.size = w.heap.size + 1 := by rw [HW.out]; simp
  go_enter Tryd.func14, Tryd.ntmps14
  go_wp2_with (go_at_call 35; rw [show (ByteArray.mk #[] : ByteArray) = Tess.w0 from rfl, ← HW.out]; refine HN1.out.mono ?_; rintro e w1 ⟨rfl, hr1, hb1⟩; have HR1 := Lib.hid hr1; have HB1 := Lib.hid (hb1.from HB0.out (Nat.le_refl _)); have hs1 := hb1.size; clear hr1 hb1)
  go_loopw [6, 7, 8] (fun s6 s7 s8 wr => ∃ (m : Nat) (o : List ByteArray) (r' l : ByteArray) (c' : Nat), s6 = .int .i64 m ∧ s7 = dErr c' ∧ wr.ownsRow (w.heap.size + 1) 9 1 s8 o.length (o.map .string) ∧ Rd w.heap.size r' l wr ∧ l.size ≤ 100 ∧ o.length + m ≤ 1000 ∧ r'.size ≤ s.size ∧ Tess.fin o m r' l c' = Tess.fin [] n r Tess.w0 c ∧ Below w.heap.size w wr) (fun s6 _ _ _ => (intOf s6).toNat)
  case atStart => exact ⟨n, [], r, Tess.w0, c, rfl, rfl, World.ownsRow_nil _ _ _ _, HR1.out, Nat.zero_le _, by simpa using hnle, hnsz, rfl, HB1.out⟩
  case round =>
    clear HR1 HB1 HN1
    obtain ⟨m, o, r', l, c', rfl, rfl, hown, hR, hl, hom, hrs, hfin, hB⟩ := hrel
    have HO := Lib.hid hown
    have HR := Lib.hid hR
    have HF := Lib.hid hfin
    have HB := Lib.hid hB
    clear hown hR hfin hB
    have hd0 : dErr 0 = .nilIface := rfl
    by_cases hc : c' = 0
    · subst hc
      rw [hd0]
      by_cases hm : m = 0
      · subst hm
        have HE := Lib.hid ((Tess.fin_end o 0 r' l 0 (.inr rfl)).symm.trans HF.out)
        clear HF
        have hdec := Tess.dec_ok s n c r r' o HD.out HE.out.symm
        have hsl := SlOf.owned HO.out
        have henc := encode_any _ o wr hsl
        unfold EncPost at henc
        have hesz := Tess.encW_size o
        obtain ⟨⟨E, x⟩, hg⟩ : ∃ g, g = Tess.encW o := ⟨_, rfl⟩
        rw [← hg] at henc hdec hesz
        simp only at henc hdec hesz
        have HS := Lib.hid hsl
        have HENC := Lib.hid henc
        clear hsl henc hg HE
        by_cases hx : x = 0
        · subst hx
          have hcat : ¬ 9223372036854775807 < E.size + r'.size := by omega
          by_cases heq : E ++ r' = s
          · have HDEC := Lib.hid (show Tess.decW s = (o, r', 0) by rw [hdec, if_pos ⟨rfl, heq⟩])
            have hne : ((E ++ r').toList == s.toList) = true := by rw [heq]; simp
            clear heq hdec
            go_wp2_with (go_at_call 12; refine HENC.out.mono ?_; rintro e w2 ⟨rfl, hb2⟩; have q0 := (HR.out.below hb2).c0; have HB2 := Lib.hid hb2; clear hb2)
            go_quiet (fail)
            go_wp2
            go_ret3
            rw [HDEC.out]
            exact ⟨_, rfl, (HS.out.below HB2.out).below (below_drewN (Below.refl _ _) _), below_drewN (Bt HB.out HB2.out) _⟩
          · have HDEC := Lib.hid (show Tess.decW s = ([], s, 50) by rw [hdec, if_neg (fun h => heq h.2)])
            have hne : ((E ++ r').toList == s.toList) = false := by
              rw [beq_eq_false_iff_ne]; intro h; exact heq (Tess.toList_inj h)
            clear heq hdec
            go_wp2_with (go_at_call 12; refine HENC.out.mono ?_; rintro e w2 ⟨rfl, hb2⟩; have q0 := (HR.out.below hb2).c0; have HB2 := Lib.hid hb2; clear hb2)
            go_ret3
            rw [HDEC.out]
            exact ⟨_, rfl, SlOf.nil _, Bt HB.out HB2.out⟩
        · have HDEC := Lib.hid (show Tess.decW s = ([], s, 50) by rw [hdec, if_neg (fun h => hx h.1)])
          have hxi : ((x : Int) == 0) = false := by rw [beq_eq_false_iff_ne]; omega
          have hxi2 : ¬ (x : Int) = 0 := by omega
          clear hdec
          go_wp2_with (go_at_call 12; refine HENC.out.mono ?_; rintro e w2 ⟨rfl, hb2⟩; have q0 := (HR.out.below hb2).c0; have HB2 := Lib.hid hb2; clear hb2)
          go_ret3
          rw [HDEC.out]
          exact ⟨_, rfl, SlOf.nil _, Bt HB.out HB2.out⟩
      · obtain ⟨j, rfl⟩ : ∃ j, m = j + 1 := ⟨m - 1, by omega⟩
        have hj0 : (0 : Int) < (j : Int) + 1 := by omega
        have hj0d : decide ((0 : Int) < (j : Int) + 1) = true := decide_eq_true hj0
        have hj1 : (j : Int) + 1 - 1 = (j : Int) := by omega
        have hwj : IntKind.i64.wrap (j : Int) = (j : Int) := by go_bits; first | trivial | omega
        have hword := word_any a0 a1 w w.heap.size r' l wr HV.out (Nat.le_refl _) HB.out HR.out hl
        have hl2 := Tess.wordW_size r' l hl
        have hr2 := Tess.wordW_rest r' l
        have hfw := Tess.fin_word o j r' l
        have hfb := Tess.fin_bad o j r' l
        obtain ⟨⟨r2, l2, x⟩, hg⟩ : ∃ g, g = Tess.wordW r' l := ⟨_, rfl⟩
        rw [← hg] at hword hl2 hr2 hfw hfb
        simp only at hword hl2 hr2 hfw hfb
        by_cases hx : x = 0
        · subst hx
          rw [hd0] at hword
          have HF2 := Lib.hid ((hfw rfl).symm.trans HF.out)
          have HWD := Lib.hid hword
          clear hword hfw hfb hg HF
          go_wp2_with (first
            | (go_at_call 36; refine HWD.out.mono ?_; rintro e w2 ⟨rfl, hrd, hkp⟩; have e1 := hrd.c1; have HRD := Lib.hid hrd; have HKP := Lib.hid hkp; have hs2 := hkp.size; have hlt2 := hrd.lt; have HB2 := Lib.hid (hkp.from HB.out (Nat.le_refl _)); have HO2 := Lib.hid (hkp.owns HO.out (Nat.lt_succ_self _)); clear hrd hkp)
            | (at_builtin; refine wpList_append_own _ rfl _ _ 22 rfl (w.heap.size + 1) 9 i0 (.string ByteArray.empty) 1 16 Tryd.underlying22 hi hz0 hz1 hz2 rfl (by decide) _ _ _ rfl (HO2.out.alloc _) ⟨w2.heap.size, 0, none⟩ 1 1 [.string l2] rfl rfl (cell_one_new _ _ _) (by simp [Value.oneCell']) (by unfold maxLen; omega) (by omega) (by simp; omega) ?_; intro v' w3 hown3 hgrow _))
          go_roundw
          case rel =>
            have hlw : w.heap.size < (w2.alloc (.cells #[.string l2] 9)).heap.size := by simp; omega
            have hrd3 : Rd w.heap.size r2 l2 w3 := (hgrow.block _ hlw (fun e => by have := (HO2.out.lt _ e.symm).1; omega)).trans ((Below.heap_alloc _ _ _ hlt2).trans HRD.out)
            have hb3 : Below w.heap.size w w3 := (HB2.out.alloc HB2.out.size _).grown hgrow (by simp; omega) (fun k e => by have := (HO2.out.lt k e).1; omega)
            exact ⟨j, o ++ [l2], r2, l2, 0, by go_num, rfl, by simpa using hown3, hrd3, hl2, by simp; omega, by omega, HF2.out, hb3⟩
          case measure => simp [intOf]
        · have hdx : dErr x = .iface 82 (.agg #[.int .i64 x]) := if_neg hx
          rw [hdx] at hword
          have HF2 := Lib.hid ((hfb hx).symm.trans HF.out)
          have HWD := Lib.hid hword
          clear hword hfw hfb hg HF
          go_wp2_with (go_at_call 36; refine HWD.out.mono ?_; rintro e w2 ⟨rfl, hrd, hkp⟩; have HRD := Lib.hid hrd; have HKP := Lib.hid hkp; have HB2 := Lib.hid (hkp.from HB.out (Nat.le_refl _)); have HO2 := Lib.hid (hkp.owns HO.out (Nat.lt_succ_self _)); clear hrd hkp)
          go_roundw
          case rel => exact ⟨j, o, r2, l2, x, by go_num, by rw [hdx], HO2.out, HRD.out, hl2, by omega, by omega, HF2.out, HB2.out⟩
          case measure => simp [intOf]
    · have hdx : dErr c' = .iface 82 (.agg #[.int .i64 c']) := if_neg hc
      have HE := Lib.hid ((Tess.fin_end o m r' l c' (.inl hc)).symm.trans HF.out)
      rw [hdx]
      clear HF
      have HDEC := Lib.hid (Tess.dec_bad s n c c' r r' o HD.out HE.out.symm hc)
      have htl := HT.out wr HB.out c'
      rw [hdx] at htl
      have HTL := Lib.hid htl
      clear htl
      go_wp2_with (go_at_call 37; refine HTL.out.mono ?_; rintro e w2 ⟨rfl, hb2⟩; have HB2 := Lib.hid hb2; clear hb2)
      go_ret3
      rw [HDEC.out]
      exact ⟨_, rfl, SlOf.nil _, Bt HB.out HB2.out⟩
end Go.Proofs.YtpbecldgoimkmaaDoor
