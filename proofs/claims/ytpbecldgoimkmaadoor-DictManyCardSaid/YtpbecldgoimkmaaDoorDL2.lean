/- The law DictFinds, walked: whatever the words, it returns true. -/
import Derived.Test.YtpbecldgoimkmaaDoorD33
import Derived.Test.YtpbecldgoimkmaaDoorDV
namespace Tess
theorem builtTo_size (l : List ByteArray) (n : Nat) (h : ∀ y ∈ l, y.size ≤ n) : ∀ k, k ≤ l.length → ∀ y ∈ builtTo l k, y.size ≤ n := by
  intro k
  induction k with
  | zero => intro _ y hy; simp [builtTo] at hy
  | succ k ih =>
    intro hk y hy
    rw [builtTo_succ l k (by omega)] at hy
    rcases insW_mem _ _ _ hy with h1 | h1
    · exact ih (by omega) y h1
    · rw [h1]; exact h _ (List.getElem_mem _)
theorem buildW_size (l : List ByteArray) (n : Nat) (h : ∀ y ∈ l, y.size ≤ n) : ∀ y ∈ (buildW l).1, y.size ≤ n := by
  intro y hy
  unfold buildW at hy
  split at hy
  · simp at hy
  · split at hy
    · simp at hy
    · exact builtTo_size l n h _ (Nat.le_refl _) y hy
end Tess
namespace Go.Proofs.YtpbecldgoimkmaaDoor
open Go.RowKit Go.Sort Go.Shelf
theorem few_len (n : Nat) (l : List ByteArray) : (fewN n l).length ≤ n := by
  unfold fewN
  simp; omega

set_option maxRecDepth 100000 in
set_option maxHeartbeats 4000000 in
theorem DictFinds_any (a0 a1 : Addr) (v : Value) (l : List ByteArray) (a b : ByteArray) (built : Bool) (w : World) (hV : Vars a0 a1 w) (hv : SlOf w v (l.map .string) ∧ ∀ x ∈ l, x.size ≤ maxLen) (_ : a.size ≤ maxLen) (hb : b.size ≤ maxLen) :
    Calls Tryd.prog 4 #[v, .string a, .string b, .bool built] w fun e w' => e = .returned (.bool true) ∧ Below w.heap.size w w' := by
  obtain ⟨hv, hl⟩ := hv
  have HV := Lib.hid hv
  have HL := Lib.hid hl
  have HVA := Lib.hid hV
  have hfs := few_size 100 l
  have hfl := few_len 100 l
  have HFEW := Lib.hid (fun w (hb : Below _ _ w) => few_any v 100 l w (by omega) (HV.out.below hb) HL.out)
  have HSH := Lib.hid (shown_any a0 a1 w hV)
  generalize fewN 100 l = fl at *
  have hrb : ∀ v W, SlOf W v (fl.map .string) → Calls Tryd.prog 18 #[v] W (BuildPost fl W) := fun v W h => rbuild_any v fl W h (fun y hy => by have := hfs y hy; unfold maxLen; omega) (by omega)
  have hbs := Tess.buildW_size fl 110 hfs
  unfold BuildPost at hrb
  obtain ⟨⟨gl, gc⟩, hg⟩ : ∃ g, g = Tess.buildW fl := ⟨_, rfl⟩
  rw [← hg] at hrb hbs
  simp only at hrb hbs
  obtain ⟨xl, hxl, hxs⟩ : ∃ xl, xl = (if built then gl else fl) ∧ ∀ y ∈ xl, y.size ≤ maxLen := ⟨_, rfl, by
    intro y hy
    have : y.size ≤ 110 := by
      split at hy
      · exact hbs y hy
      · exact hfs y hy
    unfold maxLen; omega⟩
  have hf : ∀ v W, SlOf W v (xl.map .string) → _ := fun v W h => find_any v xl a W h
  have hrf : ∀ v W, SlOf W v (xl.map .string) → _ := fun v W h => rfind_any v xl a W h hxs
  have hp : ∀ v W, SlOf W v (xl.map .string) → _ := fun v W h => prefix_any v xl a W h
  have hrp : ∀ v W, SlOf W v (xl.map .string) → _ := fun v W h => rprefix_any v xl a W h hxs
  have hbt : ∀ v W, SlOf W v (xl.map .string) → _ := fun v W h => between_any v xl a b W h
  have hrbt : ∀ v W, SlOf W v (xl.map .string) → _ := fun v W h => rbetween_any v xl a b W h hxs hb
  unfold FindPost at hf hrf
  unfold TwoPost at hp hrp hbt hrbt
  obtain ⟨⟨fn, fb⟩, hfe⟩ : ∃ g, g = Tess.findW xl a := ⟨_, rfl⟩
  obtain ⟨⟨p1, p2⟩, hpe⟩ : ∃ g, g = Tess.prefixW xl a := ⟨_, rfl⟩
  obtain ⟨⟨b1, b2⟩, hbe⟩ : ∃ g, g = Tess.betweenW xl a b := ⟨_, rfl⟩
  rw [← hfe] at hf hrf
  rw [← hpe] at hp hrp
  rw [← hbe] at hbt hrbt
  simp only at hf hrf hp hrp hbt hrbt
  have HF := Lib.hid hf
  have HRF := Lib.hid hrf
  have HP := Lib.hid hp
  have HRP := Lib.hid hrp
  have HBT := Lib.hid hbt
  have HRBT := Lib.hid hrbt
  have HRB := Lib.hid hrb
  have HXL := Lib.hid hxl
  clear hv hl hV hf hrf hp hrp hbt hrbt hrb hfe hpe hbe hg hfs hbs hxs hxl
  go_enter Tryd.func4, Tryd.ntmps4
  rcases built with _ | _
  all_goals (
    have hx := HXL.out
    simp only [if_true, if_false, Bool.false_eq_true] at hx
    subst hx
    go_wp2_with (first
      | (go_at_call 10; refine HSH.out.mono ?_; rintro e w1 ⟨rfl, hB'⟩; have HB := Lib.hid hB'; clear hB')
      | (go_at_call 11; refine (HFEW.out _ HB.out).mono ?_; rintro e w2 ⟨vf, rfl, hvf, hB'⟩; have HVF := Lib.hid hvf; have HB := Lib.hid (Bt HB.out hB'); clear hB' hvf)
      | (go_at_call 18; refine (HRB.out _ _ HVF.out).mono ?_; rintro e w3 ⟨vb, rfl, hvb, hB'⟩; have HVF := Lib.hid hvb; have HB := Lib.hid (Bt HB.out hB'); clear hB' hvb)
      | (go_at_call 19; refine (HF.out _ _ HVF.out).mono ?_; rintro e w3 ⟨rfl, hB'⟩; have HVF := Lib.hid (HVF.out.below hB'); have HB := Lib.hid (Bt HB.out hB'); clear hB')
      | (go_at_call 20; refine (HRF.out _ _ HVF.out).mono ?_; rintro e w3 ⟨rfl, hB'⟩; have HVF := Lib.hid (HVF.out.below hB'); have HB := Lib.hid (Bt HB.out hB'); clear hB')
      | (go_at_call 21; refine (HP.out _ _ HVF.out).mono ?_; rintro e w3 ⟨rfl, hB'⟩; have HVF := Lib.hid (HVF.out.below hB'); have HB := Lib.hid (Bt HB.out hB'); clear hB')
      | (go_at_call 22; refine (HRP.out _ _ HVF.out).mono ?_; rintro e w3 ⟨rfl, hB'⟩; have HVF := Lib.hid (HVF.out.below hB'); have HB := Lib.hid (Bt HB.out hB'); clear hB')
      | (go_at_call 23; refine (HBT.out _ _ HVF.out).mono ?_; rintro e w3 ⟨rfl, hB'⟩; have HVF := Lib.hid (HVF.out.below hB'); have HB := Lib.hid (Bt HB.out hB'); clear hB')
      | (go_at_call 24; refine (HRBT.out _ _ HVF.out).mono ?_; rintro e w3 ⟨rfl, hB'⟩; have HB := Lib.hid (Bt HB.out hB'); clear hB'))
    go_ret
    exact ⟨by first | rfl | simp, HB.out⟩)
end Go.Proofs.YtpbecldgoimkmaaDoor
