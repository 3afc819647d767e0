/- The document's word. -/
import Derived.Test.YtpbecldgoimkmaaDoorD28
namespace Tess
def rwordW (s last : ByteArray) : ByteArray × ByteArray × Nat := if (wordW s last).2.2 = 0 then ((wordW s last).2.1, (wordW s last).1, 0) else (w0, s, (wordW s last).2.2)
theorem word_bad1 (s last gr : ByteArray) (gn gc : Nat) (h : getW s = (gn, gr, gc)) (hc : gc ≠ 0) : rwordW s last = (w0, s, gc) := by
  have h1 : numW s last.size = (0, s, gc) := by unfold numW; simp only [h, if_neg hc]
  have := wordW_of s last 0 _ s _ gc _ h1 rfl
  rw [if_neg hc] at this
  unfold rwordW
  rw [this]
  simp only [if_neg hc]
theorem word_bad2 (s last gr : ByteArray) (gn : Nat) (h : getW s = (gn, gr, 0)) (hn : last.size < gn) : rwordW s last = (w0, s, 50) := by
  have h1 : numW s last.size = (0, s, 50) := by unfold numW; simp only [h, if_true, if_pos hn]
  have := wordW_of s last 0 _ s _ 50 _ h1 rfl
  rw [if_neg (by decide)] at this
  unfold rwordW
  rw [this]
  rfl
theorem word_bad3 (s last gr hr : ByteArray) (gn hk hc : Nat) (h : getW s = (gn, gr, 0)) (hn : ¬ last.size < gn) (h' : getW gr = (hk, hr, hc)) (hc' : hc ≠ 0) : rwordW s last = (w0, s, hc) := by
  have h1 : numW s last.size = (gn, gr, 0) := by unfold numW; simp only [h, if_true, if_neg hn]
  have h2 : numW gr (100 - gn) = (0, gr, hc) := by unfold numW; simp only [h', if_neg hc']
  have := wordW_of s last gn 0 gr gr 0 hc h1 h2
  rw [if_pos rfl, if_neg hc'] at this
  unfold rwordW
  rw [this]
  simp only [if_neg hc']
theorem word_bad4 (s last gr hr : ByteArray) (gn hk : Nat) (h : getW s = (gn, gr, 0)) (hn : ¬ last.size < gn) (h' : getW gr = (hk, hr, 0)) (hk' : 100 - gn < hk) : rwordW s last = (w0, s, 50) := by
  have h1 : numW s last.size = (gn, gr, 0) := by unfold numW; simp only [h, if_true, if_neg hn]
  have h2 : numW gr (100 - gn) = (0, gr, 50) := by unfold numW; simp only [h', if_true, if_pos hk']
  have := wordW_of s last gn 0 gr gr 0 50 h1 h2
  rw [if_pos rfl, if_neg (by decide)] at this
  unfold rwordW
  rw [this]
  rfl
theorem word_bad5 (s last gr hr : ByteArray) (gn hk : Nat) (h : getW s = (gn, gr, 0)) (hn : ¬ last.size < gn) (h' : getW gr = (hk, hr, 0)) (hk' : ¬ 100 - gn < hk) (hs : hr.size < hk) : rwordW s last = (w0, s, 21) := by
  have h1 : numW s last.size = (gn, gr, 0) := by unfold numW; simp only [h, if_true, if_neg hn]
  have h2 : numW gr (100 - gn) = (hk, hr, 0) := by unfold numW; simp only [h', if_true, if_neg hk']
  have := wordW_of s last gn hk gr hr 0 0 h1 h2
  rw [if_pos rfl, if_pos rfl, if_pos hs] at this
  unfold rwordW
  rw [this]
  rfl
theorem word_good (s last gr hr : ByteArray) (gn hk : Nat) (h : getW s = (gn, gr, 0)) (hn : ¬ last.size < gn) (h' : getW gr = (hk, hr, 0)) (hk' : ¬ 100 - gn < hk) (hs : ¬ hr.size < hk) : rwordW s last = (last.extract 0 gn ++ hr.extract 0 hk, hr.extract hk hr.size, 0) := by
  have h1 : numW s last.size = (gn, gr, 0) := by unfold numW; simp only [h, if_true, if_neg hn]
  have h2 : numW gr (100 - gn) = (hk, hr, 0) := by unfold numW; simp only [h', if_true, if_neg hk']
  have := wordW_of s last gn hk gr hr 0 0 h1 h2
  rw [if_pos rfl, if_pos rfl, if_neg hs] at this
  unfold rwordW
  rw [this]
  rfl
end Tess
namespace Go.Proofs.YtpbecldgoimkmaaDoor
open Go.RowKit Go.Sort Go.Shelf
def RwPost (s last : ByteArray) (w : World) (e : Ending) (w' : World) : Prop := e = .returned (.tuple #[.string (Tess.rwordW s last).1, .string (Tess.rwordW s last).2.1, .int .i64 ((Tess.rwordW s last).2.2 : Nat)]) ∧ Below w.heap.size w w'

set_option maxRecDepth 100000 in
set_option maxHeartbeats 4000000 in
theorem rword_any (s last : ByteArray) (w : World) (hs : s.size ≤ maxLen) (hl : last.size ≤ 100) : Calls Tryd.prog 39 #[.string s, .string last] w (RwPost s last w) := by
  have hg1 := rget_any s w hs
  have hlt1 := Tess.getW_lt s
  have hsz1 := Tess.getW_size s
  unfold GetPost at hg1
  unfold RwPost
  obtain ⟨⟨gn, gr, gc⟩, hg⟩ : ∃ g, g = Tess.getW s := ⟨_, rfl⟩
  rw [← hg] at hg1 hlt1 hsz1
  simp only at hg1 hlt1 hsz1
  have HG1 := Lib.hid hg1
  have hlw : IntKind.u64.wrap (last.size : Int) = (last.size : Int) := by go_bits; first | trivial | omega
  clear hg1
  by_cases hgc : gc = 0
  · subst hgc
    by_cases hn : last.size < gn
    · have HE := Lib.hid (Tess.word_bad2 s last gr gn hg.symm hn)
      have hni : (last.size : Int) < (gn : Int) := by omega
      have hnd : decide ((last.size : Int) < (gn : Int)) = true := decide_eq_true hni
      clear hg
      rw [HE.out]
      go_enter Tryd.func39, Tryd.ntmps39
      go_wp2_with (go_at_call 38; refine HG1.out.mono ?_; rintro e w1 ⟨rfl, hB1⟩; have HB := Lib.hid hB1; clear hB1)
      go_ret3
      exact ⟨rfl, HB.out⟩
    · have hni : ¬ (last.size : Int) < (gn : Int) := by omega
      have hnd : decide ((last.size : Int) < (gn : Int)) = false := decide_eq_false hni
      have hg2 := fun W => rget_any gr W (by omega)
      have hlt2 := Tess.getW_lt gr
      have hsz2 := Tess.getW_size gr
      unfold GetPost at hg2
      obtain ⟨⟨hk, hr, hc⟩, hh⟩ : ∃ g, g = Tess.getW gr := ⟨_, rfl⟩
      rw [← hh] at hg2 hlt2 hsz2
      simp only at hg2 hlt2 hsz2
      have HG2 := Lib.hid hg2
      clear hg2
      by_cases hhc : hc = 0
      · subst hhc
        by_cases hk1 : 100 < hk
        · have hk1i : (100 : Int) < (hk : Int) := by omega
          have hk1d : decide ((100 : Int) < (hk : Int)) = true := decide_eq_true hk1i
          have HE := Lib.hid (Tess.word_bad4 s last gr hr gn hk hg.symm hn hh.symm (by omega))
          clear hg hh
          rw [HE.out]
          go_enter Tryd.func39, Tryd.ntmps39
          go_wp2_with (first
            | (go_at_call 38; with_reducible refine HG1.out.mono ?_; rintro e w1 ⟨rfl, hB1⟩; have HB := Lib.hid hB1; clear hB1)
            | (go_at_call 38; refine (HG2.out _).mono ?_; rintro e w1 ⟨rfl, hB1⟩; have HB := Lib.hid (Bt HB.out hB1); clear hB1))
          go_ret3
          exact ⟨rfl, HB.out⟩
        · have hk1i : ¬ (100 : Int) < (hk : Int) := by omega
          have hk1d : decide ((100 : Int) < (hk : Int)) = false := decide_eq_false hk1i
          have hwa : IntKind.u64.wrap ((gn : Int) + (hk : Int)) = (gn : Int) + (hk : Int) := by rw [wrap_u64_mod]; exact Int.emod_eq_of_lt (by omega) (by omega)
          by_cases hk2 : 100 - gn < hk
          · have hk2i : (100 : Int) < (gn : Int) + (hk : Int) := by omega
            have hk2d : decide ((100 : Int) < (gn : Int) + (hk : Int)) = true := decide_eq_true hk2i
            have HE := Lib.hid (Tess.word_bad4 s last gr hr gn hk hg.symm hn hh.symm hk2)
            clear hg hh
            rw [HE.out]
            go_enter Tryd.func39, Tryd.ntmps39
            go_wp2_with (first
              | (go_at_call 38; with_reducible refine HG1.out.mono ?_; rintro e w1 ⟨rfl, hB1⟩; have HB := Lib.hid hB1; clear hB1)
              | (go_at_call 38; refine (HG2.out _).mono ?_; rintro e w1 ⟨rfl, hB1⟩; have HB := Lib.hid (Bt HB.out hB1); clear hB1))
            go_ret3
            exact ⟨rfl, HB.out⟩
          · have hk2i : ¬ (100 : Int) < (gn : Int) + (hk : Int) := by omega
            have hk2d : decide ((100 : Int) < (gn : Int) + (hk : Int)) = false := decide_eq_false hk2i
            have hrw : IntKind.u64.wrap (hr.size : Int) = (hr.size : Int) := by rw [wrap_u64_mod]; unfold maxLen at hs; exact Int.emod_eq_of_lt (by omega) (by omega)
            by_cases hk3 : hr.size < hk
            · have hk3i : (hr.size : Int) < (hk : Int) := by omega
              have hk3d : decide ((hr.size : Int) < (hk : Int)) = true := decide_eq_true hk3i
              have HE := Lib.hid (Tess.word_bad5 s last gr hr gn hk hg.symm hn hh.symm hk2 hk3)
              clear hg hh
              rw [HE.out]
              go_enter Tryd.func39, Tryd.ntmps39
              go_wp2_with (first
                | (go_at_call 38; with_reducible refine HG1.out.mono ?_; rintro e w1 ⟨rfl, hB1⟩; have HB := Lib.hid hB1; clear hB1)
                | (go_at_call 38; refine (HG2.out _).mono ?_; rintro e w1 ⟨rfl, hB1⟩; have HB := Lib.hid (Bt HB.out hB1); clear hB1))
              go_ret3
              exact ⟨rfl, HB.out⟩
            · have hk3i : ¬ (hr.size : Int) < (hk : Int) := by omega
              have hk3d : decide ((hr.size : Int) < (hk : Int)) = false := decide_eq_false hk3i
              have hk4 : (hk : Int) ≤ (hr.size : Int) := by omega
              have hn4 : (gn : Int) ≤ (last.size : Int) := by omega
              have hcat : ¬ 9223372036854775807 < (last.extract 0 gn).size + (hr.extract 0 hk).size := by simp; omega
              have HE := Lib.hid (Tess.word_good s last gr hr gn hk hg.symm hn hh.symm hk2 hk3)
              clear hg hh
              rw [HE.out]
              go_enter Tryd.func39, Tryd.ntmps39
              go_wp2_with (first
                | (go_at_call 38; with_reducible refine HG1.out.mono ?_; rintro e w1 ⟨rfl, hB1⟩; have HB := Lib.hid hB1; clear hB1)
                | (go_at_call 38; refine (HG2.out _).mono ?_; rintro e w1 ⟨rfl, hB1⟩; have HB := Lib.hid (Bt HB.out hB1); clear hB1))
              go_quiet (fail)
              go_wp2
              go_ret3
              exact ⟨rfl, below_drewN HB.out _⟩
      · have hhi : ((hc : Int) == 0) = false := by rw [beq_eq_false_iff_ne]; omega
        have hhi2 : ¬ (hc : Int) = 0 := by omega
        have HE := Lib.hid (Tess.word_bad3 s last gr hr gn hk hc hg.symm hn hh.symm hhc)
        clear hg hh
        rw [HE.out]
        go_enter Tryd.func39, Tryd.ntmps39
        go_wp2_with (first
          | (go_at_call 38; with_reducible refine HG1.out.mono ?_; rintro e w1 ⟨rfl, hB1⟩; have HB := Lib.hid hB1; clear hB1)
          | (go_at_call 38; refine (HG2.out _).mono ?_; rintro e w1 ⟨rfl, hB1⟩; have HB := Lib.hid (Bt HB.out hB1); clear hB1))
        go_ret3
        exact ⟨rfl, HB.out⟩
  · have HE := Lib.hid (Tess.word_bad1 s last gr gn gc hg.symm hgc)
    have hci : ((gc : Int) == 0) = false := by rw [beq_eq_false_iff_ne]; omega
    have hci2 : ¬ (gc : Int) = 0 := by omega
    clear hg
    rw [HE.out]
    go_enter Tryd.func39, Tryd.ntmps39
    go_wp2_with (go_at_call 38; refine HG1.out.mono ?_; rintro e w1 ⟨rfl, hB1⟩; have HB := Lib.hid hB1; clear hB1)
    go_ret3
    exact ⟨rfl, HB.out⟩
end Go.Proofs.YtpbecldgoimkmaaDoor
