/- The document's Decode. -/
import Derived.Test.YtpbecldgoimkmaaDoorD30p
namespace Tess
theorem rword_ok (r l : ByteArray) (h : (wordW r l).2.2 = 0) : rwordW r l = ((wordW r l).2.1, (wordW r l).1, 0) := by unfold rwordW; rw [if_pos h]
theorem rword_no (r l : ByteArray) (h : (wordW r l).2.2 ≠ 0) : rwordW r l = (w0, r, (wordW r l).2.2) := by unfold rwordW; rw [if_neg h]
end Tess
namespace Go.Proofs.YtpbecldgoimkmaaDoor
open Go.RowKit Go.Sort Go.Shelf

set_option maxRecDepth 100000 in
set_option maxHeartbeats 4000000 in
theorem rdecode_any (s : ByteArray) (w : World) (hs : s.size ≤ 1000000) : Calls Tryd.prog 16 #[.string s] w (DecPost s w) := by
  have hg1 := rget_any s w (by unfold maxLen; omega)
  have hsz := Tess.getW_size s
  have hlt := Tess.getW_lt s
  have hsuf := Tess.getW_suf (Tess.Suf.refl s)
  unfold GetPost at hg1
  have hnum : Tess.numW s 1000 = if (Tess.getW s).2.2 = 0 then (if 1000 < (Tess.getW s).1 then (0, s, 50) else ((Tess.getW s).1, (Tess.getW s).2.1, 0)) else (0, s, (Tess.getW s).2.2) := rfl
  obtain ⟨⟨n, r, c⟩, hg⟩ : ∃ g, g = Tess.getW s := ⟨_, rfl⟩
  rw [← hg] at hg1 hsz hlt hsuf hnum
  simp only at hg1 hsz hlt hsuf hnum
  obtain ⟨i0, hi, hz0, hz1, hz2⟩ := info_parts infoStr
  have HG1 := Lib.hid hg1
  have HSUF := Lib.hid hsuf
  clear hg1 hg hsuf
  unfold DecPost
  by_cases hc : c = 0
  · subst hc
    rw [if_pos rfl] at hnum
    by_cases hn : 1000 < n
    · rw [if_pos hn] at hnum
      have HD := Lib.hid (show Tess.decW s = ([], s, 50) by rw [Tess.decW_of s _ _ _ hnum, if_neg (by decide)])
      have hni : (1000 : Int) < (n : Int) := by omega
      have hnd : decide ((1000 : Int) < (n : Int)) = true := decide_eq_true hni
      clear hnum
      go_enter Tryd.func16, Tryd.ntmps16
      go_wp2_with (go_at_call 38; refine HG1.out.mono ?_; rintro e w1 ⟨rfl, hB1⟩; have HB := Lib.hid hB1; clear hB1)
      go_ret3
      rw [HD.out]
      exact ⟨_, rfl, SlOf.nil _, HB.out⟩
    · rw [if_neg hn] at hnum
      have HD := Lib.hid (Tess.decW_of s _ _ _ hnum)
      have hni : ¬ (1000 : Int) < (n : Int) := by omega
      have hnd : decide ((1000 : Int) < (n : Int)) = false := decide_eq_false hni
      clear hnum
      go_enter Tryd.func16, Tryd.ntmps16
      go_wp2_with (go_at_call 38; refine HG1.out.mono ?_; rintro e w1 ⟨rfl, hB1⟩; have HB := Lib.hid hB1; clear hB1)
      go_loopw [6, 8, 9, 10] (fun s6 s8 s9 i wr => ∃ (k m : Nat) (o : List ByteArray) (r' l : ByteArray), k + m = n ∧ i = .int .u64 k ∧ s6 = .string r' ∧ s9 = .string l ∧ wr.ownsRow w.heap.size 9 1 s8 o.length (o.map .string) ∧ l.size ≤ 100 ∧ o.length = k ∧ r'.size ≤ s.size ∧ (∀ y ∈ o, y.size ≤ 100) ∧ Tess.Suf r' s ∧ Tess.fin o m r' l 0 = Tess.fin [] n r Tess.w0 0 ∧ Below w.heap.size w wr) (fun _ _ _ i _ => n - (intOf i).toNat)
      case atStart => exact ⟨0, n, [], r, Tess.w0, by omega, rfl, rfl, rfl, World.ownsRow_nil _ _ _ _, Nat.zero_le _, rfl, hsz, fun y hy => by simp at hy, HSUF.out, rfl, HB.out⟩
      case round =>
        clear HB HG1
        obtain ⟨k, m, o, r', l, hkm, rfl, rfl, rfl, hown, hl, hok, hrs, hall, hsu, hfin, hB⟩ := hrel
        have HO := Lib.hid hown
        have HALL := Lib.hid hall
        have HS := Lib.hid hsu
        have HF := Lib.hid hfin
        have HB := Lib.hid hB
        clear hown hsu hfin hB hall
        by_cases hm : m = 0
        · subst hm
          have hkn : ¬ (k : Int) < (n : Int) := by omega
          have HE := Lib.hid ((Tess.fin_end o 0 r' l 0 (.inr rfl)).symm.trans HF.out)
          clear HF
          have hdec := Tess.dec_ok s n 0 r r' o HD.out HE.out.symm
          have hsl := SlOf.owned HO.out
          have henc := rencode_any _ o wr hsl (fun y hy => by have := HALL.out y hy; unfold maxLen; omega)
          unfold EncPost at henc
          obtain ⟨⟨E, x⟩, hg⟩ : ∃ g, g = Tess.encW o := ⟨_, rfl⟩
          rw [← hg] at henc hdec
          simp only at henc hdec
          have hcmp := Tess.suf_cmp HS.out E
          have HSL := Lib.hid hsl
          have HENC := Lib.hid henc
          clear hsl henc hg HE
          obtain ⟨Y, hY⟩ : ∃ Y, Y = s.extract 0 (s.size - r'.size) := ⟨_, rfl⟩
          rw [← hY] at hcmp
          obtain ⟨d, hd⟩ : ∃ d, d = s.size - r'.size := ⟨_, rfl⟩
          rw [← hd] at hY
          have hY' := hY.symm
          have hdi : (s.size : Int) - (r'.size : Int) = (d : Int) := by omega
          have hwd : IntKind.i64.wrap (d : Int) = (d : Int) := by go_bits; first | trivial | omega
          have hds : (d : Int) ≤ (s.size : Int) := by omega
          clear hY hd
          by_cases hx : x = 0
          · subst hx
            by_cases heq : E = Y
            · have HDEC := Lib.hid (show Tess.decW s = (o, r', 0) by rw [hdec, if_pos ⟨rfl, hcmp.2 heq⟩])
              have hne : (E.toList == Y.toList) = true := by rw [heq]; simp
              clear heq hdec hcmp
              go_wp2_with (go_at_call 13; refine HENC.out.mono ?_; rintro e w2 ⟨rfl, hb2⟩; have HB2 := Lib.hid hb2; clear hb2)
              go_ret3
              rw [HDEC.out]
              exact ⟨_, rfl, HSL.out.below HB2.out, Bt HB.out HB2.out⟩
            · have HDEC := Lib.hid (show Tess.decW s = ([], s, 50) by rw [hdec, if_neg (fun h => heq (hcmp.1 h.2))])
              have hne : (E.toList == Y.toList) = false := by
                rw [beq_eq_false_iff_ne]; intro h; exact heq (Tess.toList_inj h)
              clear heq hdec hcmp
              go_wp2_with (go_at_call 13; refine HENC.out.mono ?_; rintro e w2 ⟨rfl, hb2⟩; have HB2 := Lib.hid hb2; clear hb2)
              go_ret3
              rw [HDEC.out]
              exact ⟨_, rfl, SlOf.nil _, Bt HB.out HB2.out⟩
          · have HDEC := Lib.hid (show Tess.decW s = ([], s, 50) by rw [hdec, if_neg (fun h => hx h.1)])
            have hxi : ((x : Int) == 0) = false := by rw [beq_eq_false_iff_ne]; omega
            have hxi2 : ¬ (x : Int) = 0 := by omega
            clear hdec hcmp
            go_wp2_with (go_at_call 13; refine HENC.out.mono ?_; rintro e w2 ⟨rfl, hb2⟩; have HB2 := Lib.hid hb2; clear hb2)
            go_ret3
            rw [HDEC.out]
            exact ⟨_, rfl, SlOf.nil _, Bt HB.out HB2.out⟩
        · obtain ⟨j, rfl⟩ : ∃ j, m = j + 1 := ⟨m - 1, by omega⟩
          have hkn : (k : Int) < (n : Int) := by omega
          have hw1 : IntKind.u64.wrap ((k : Int) + 1) = (k : Int) + 1 := by rw [wrap_u64_mod]; exact Int.emod_eq_of_lt (by omega) (by omega)
          have hword := rword_any r' l wr (by unfold maxLen; omega) hl
          unfold RwPost at hword
          have hl2 := Tess.wordW_size r' l hl
          have hr2 := Tess.wordW_rest r' l
          have hsu2 := Tess.wordW_suf HS.out l
          have hfw := Tess.fin_word o j r' l
          have hfb := Tess.fin_bad o j r' l
          have hok2 := Tess.rword_ok r' l
          have hno2 := Tess.rword_no r' l
          obtain ⟨⟨r2, l2, x⟩, hg⟩ : ∃ g, g = Tess.wordW r' l := ⟨_, rfl⟩
          rw [← hg] at hl2 hr2 hsu2 hfw hfb hok2 hno2
          simp only at hl2 hr2 hsu2 hfw hfb hok2 hno2
          by_cases hx : x = 0
          · rw [hok2 hx] at hword
            subst hx
            have HF2 := Lib.hid ((hfw rfl).symm.trans HF.out)
            have HWD := Lib.hid hword
            have HSU2 := Lib.hid hsu2
            clear hword hfw hfb hok2 hno2 hg HF hsu2
            go_wp2_with (first
              | (go_at_call 39; refine HWD.out.mono ?_; rintro e w2 ⟨rfl, hb2⟩; have HB2 := Lib.hid (Bt HB.out hb2); have hs2 := (Bt HB.out hb2).size; have HO2 := Lib.hid (owns_below HO.out hb2); clear hb2)
              | (at_builtin; refine wpList_append_own _ rfl _ _ 22 rfl w.heap.size 9 i0 (.string ByteArray.empty) 1 16 Tryd.underlying22 hi hz0 hz1 hz2 rfl (by decide) _ _ _ rfl (HO2.out.alloc _) ⟨w2.heap.size, 0, none⟩ 1 1 [.string l2] rfl rfl (cell_one_new _ _ _) (by simp [Value.oneCell']) (by unfold maxLen; omega) (by omega) (by simp; omega) ?_; intro v' w3 hown3 hgrow _))
            go_roundw
            case rel =>
              have hb3 : Below w.heap.size w w3 := (HB2.out.alloc HB2.out.size _).grown hgrow (by simp; omega) (fun k e => by have := (HO2.out.lt k e).1; omega)
              exact ⟨k + 1, j, o ++ [l2], r2, l2, by omega, by go_num, rfl, rfl, by simpa using hown3, hl2, by simp; omega, by omega, fun y hy => by rcases List.mem_append.1 hy with h | h; exact HALL.out y h; rw [List.mem_singleton.1 h]; exact hl2, HSU2.out, HF2.out, hb3⟩
            case measure => simp [intOf]; omega
          · rw [hno2 hx] at hword
            have HF2 := Lib.hid ((hfb hx).symm.trans HF.out)
            have hfe := (Tess.fin_end o j r2 l2 x (.inl hx)).symm.trans HF2.out
            have HD2 := Lib.hid (Tess.dec_bad s n 0 x r r2 o HD.out hfe.symm hx)
            have hxi : ((x : Int) == 0) = false := by rw [beq_eq_false_iff_ne]; omega
            have hxi2 : ¬ (x : Int) = 0 := by omega
            have HWD := Lib.hid hword
            clear hword hfw hfb hok2 hno2 hg HF hsu2 hfe HF2
            go_wp2_with (go_at_call 39; refine HWD.out.mono ?_; rintro e w2 ⟨rfl, hb2⟩; have HB2 := Lib.hid (Bt HB.out hb2); clear hb2)
            go_ret3
            rw [HD2.out]
            exact ⟨_, rfl, SlOf.nil _, HB2.out⟩
  · rw [if_neg hc] at hnum
    have HD := Lib.hid (show Tess.decW s = ([], s, c) by rw [Tess.decW_of s _ _ _ hnum, if_neg hc])
    have hci : ((c : Int) == 0) = false := by rw [beq_eq_false_iff_ne]; omega
    have hci2 : ¬ (c : Int) = 0 := by omega
    clear hnum
    go_enter Tryd.func16, Tryd.ntmps16
    go_wp2_with (go_at_call 38; refine HG1.out.mono ?_; rintro e w1 ⟨rfl, hB1⟩; have HB := Lib.hid hB1; clear hB1)
    go_ret3
    rw [HD.out]
    exact ⟨_, rfl, SlOf.nil _, HB.out⟩
end Go.Proofs.YtpbecldgoimkmaaDoor
