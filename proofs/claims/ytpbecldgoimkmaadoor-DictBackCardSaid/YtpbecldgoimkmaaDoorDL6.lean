/- The law DictBack, walked: whatever the words and the bytes, it returns true. -/
import Derived.Test.YtpbecldgoimkmaaDoorD34
import Derived.Test.YtpbecldgoimkmaaDoorD37p
import Derived.Test.YtpbecldgoimkmaaDoorDL2
namespace Go.Proofs.YtpbecldgoimkmaaDoor
open Go.RowKit Go.Sort Go.Shelf

set_option maxRecDepth 100000 in
set_option maxHeartbeats 4000000 in
theorem DictBack_any (a0 a1 : Addr) (v : Value) (l : List ByteArray) (s : ByteArray) (w : World) (hV : Vars a0 a1 w) (hv : SlOf w v (l.map .string) ∧ ∀ x ∈ l, x.size ≤ maxLen) (hs : s.size ≤ maxLen) :
    Calls Tryd.prog 6 #[v, .string s] w fun e w' => e = .returned (.bool true) ∧ Below w.heap.size w w' := by
  have hc := cutS_size s
  obtain ⟨hv, hl⟩ := hv
  have HV := Lib.hid hv
  have HL := Lib.hid hl
  have hfl := few_len 100 l
  have HCUT := Lib.hid (fun w => cut_any s w hs)
  have HFEW := Lib.hid (fun w (hb : Below _ _ w) => few_any v 100 l w (by omega) (HV.out.below hb) HL.out)
  have HSH := Lib.hid (shown_any a0 a1 w hV)
  generalize cutS s = c at *
  generalize fewN 100 l = fl at *
  have hb : ∀ v W, SlOf W v (fl.map .string) → Calls Tryd.prog 25 #[v] W (BuildPost fl W) := fun v W h => build_any v fl W h (by omega)
  unfold BuildPost at hb
  have hri : Tess.right (Tess.buildW fl).1 = true := by
    rcases Tess.buildW_two fl with ⟨h, _⟩ | ⟨_, h⟩
    · exact Tess.buildW_right fl h
    · rw [h]; exact Tess.right_nil
  have htwo : (Tess.buildW fl).2 = 0 ∨ (Tess.buildW fl).2 = 50 := by
    rcases Tess.buildW_two fl with ⟨h, _⟩ | ⟨h, _⟩
    · exact .inl h
    · exact .inr h
  obtain ⟨⟨d, e⟩, hg⟩ : ∃ g, g = Tess.buildW fl := ⟨_, rfl⟩
  rw [← hg] at hb hri htwo
  simp only at hb hri htwo
  obtain ⟨h1, h2⟩ := Tess.dec_enc d hri c
  have hes := Tess.encW_size d
  have henc : ∀ v w, SlOf w v (d.map .string) → _ := fun v w hv => encode_any v d w hv
  obtain ⟨⟨E, x⟩, he⟩ : ∃ g, g = Tess.encW d := ⟨_, rfl⟩
  unfold EncPost at henc
  rw [← he] at henc h1 h2 hes
  simp only at henc h1 h2 hes
  subst h1
  have hEs : (E ++ c).size ≤ 1000000 := by rw [ByteArray.size_append]; omega
  have hov : ¬ 9223372036854775807 < E.size + c.size := by omega
  have hdec : ∀ W, Below w.heap.size w W → Calls Tryd.prog 14 #[.string (E ++ c)] W (DecPost (E ++ c) W) := fun W hB => decode_any a0 a1 (E ++ c) W (hV.below hB) hEs
  have hdec2 : ∀ W, Below w.heap.size w W → Calls Tryd.prog 14 #[.string c] W (DecPost c W) := fun W hB => decode_any a0 a1 c W (hV.below hB) (by omega)
  unfold DecPost at hdec hdec2
  rw [h2] at hdec
  have hf := Tess.dec_facts c
  obtain ⟨⟨dl, dr, dc⟩, hd⟩ : ∃ g, g = Tess.decW c := ⟨_, rfl⟩
  rw [← hd] at hdec2 hf
  simp only at hdec hdec2 hf
  have henc2 : ∀ v w, SlOf w v (dl.map .string) → _ := fun v w hv => encode_any v dl w hv
  unfold EncPost at henc2
  have hrt : ∀ v w, SlOf w v (dl.map .string) → _ := fun v w hv => right_any v dl w hv
  obtain ⟨⟨E2, x2⟩, he2⟩ : ∃ g, g = Tess.encW dl := ⟨_, rfl⟩
  rw [← he2] at henc2 hf
  simp only at henc2 hf
  generalize Tess.right dl = rt at *
  have HE := Lib.hid henc
  have HE2 := Lib.hid henc2
  have HD := Lib.hid hdec
  have HD2 := Lib.hid hdec2
  have HRT := Lib.hid hrt
  have HBD := Lib.hid hb
  have hl1 : ∀ W, Below w.heap.size w W → W.heap.size = W.heap.size := fun _ _ => rfl
  clear hl1 hv hl hV henc henc2 hdec hdec2 hrt he he2 hd hb hg h2 hes hEs hri
  have hcode : dc = 0 ∧ x2 = 0 ∧ E2 ++ dr = c ∧ rt = true ∧ ¬ 9223372036854775807 < E2.size + dr.size ∨ ¬ (dc : Int) = 0 := by
    by_cases h0 : dc = 0
    · obtain ⟨h1, h2, h3⟩ := hf h0
      exact .inl ⟨h0, h1, h2, h3, by have := congrArg ByteArray.size h2; rw [ByteArray.size_append] at this; omega⟩
    · exact .inr (by omega)
  clear hf hc
  rcases htwo with rfl | rfl <;> rcases hcode with ⟨rfl, rfl, hcat, rfl, hov2⟩ | hne
  all_goals (
    go_enter Tryd.func6, Tryd.ntmps6
    go_wp2_with (first
      | (go_at_call 10; refine HSH.out.mono ?_; rintro e w1 ⟨rfl, hB'⟩; have HB := Lib.hid hB'; clear hB')
      | (go_at_call 11; refine (HFEW.out _ HB.out).mono ?_; rintro e w2 ⟨vf, rfl, hvf, hB'⟩; have HVF := Lib.hid hvf; have HB := Lib.hid (Bt HB.out hB'); clear hB' hvf)
      | (go_at_call 25; refine (HBD.out _ _ HVF.out).mono ?_; rintro e w3 ⟨va, rfl, hva, hB'⟩; have HVA := Lib.hid hva; have HB := Lib.hid (Bt HB.out hB'); clear hB' hva)
      | (go_at_call 12; with_reducible refine (HE.out _ _ HVA.out).mono ?_; rintro e w3 ⟨rfl, hB'⟩; have HVA := Lib.hid (HVA.out.below hB'); have HB := Lib.hid (Bt HB.out hB'); clear hB')
      | (go_at_call 15; refine (HCUT.out _).mono ?_; rintro e w' ⟨rfl, rfl⟩)
      | (go_at_call 14; with_reducible refine (HD.out _ HB.out).mono ?_; rintro e w4 ⟨vc, rfl, hvc, hB'⟩; have HVA := Lib.hid (HVA.out.below hB'); have HVC := Lib.hid hvc; have HB := Lib.hid (Bt HB.out hB'); clear hB' hvc)
      | (go_at_call 17; refine (texts_any _ _ d d _ HVC.out HVA.out).mono ?_; rintro e w6 ⟨rfl, hB'⟩; have HB := Lib.hid (Bt HB.out hB'); clear hB'; rw [decide_eq_true rfl])
      | (go_at_call 14; with_reducible refine (HD2.out _ HB.out).mono ?_; rintro e w7 ⟨vd, rfl, hvd, hB'⟩; have HVD := Lib.hid hvd; have HB := Lib.hid (Bt HB.out hB'); clear hB' hvd)
      | (go_at_call 12; with_reducible refine (HE2.out _ _ HVD.out).mono ?_; rintro e w8 ⟨rfl, hB'⟩; have HVD := Lib.hid (HVD.out.below hB'); have HB := Lib.hid (Bt HB.out hB'); clear hB')
      | (go_at_call 26; refine (HRT.out _ _ HVD.out).mono ?_; rintro e w9 ⟨rfl, hB'⟩; have HB := Lib.hid (Bt HB.out hB'); clear hB'))
    go_ret
    exact ⟨by first | rfl | simp, HB.out⟩)
end Go.Proofs.YtpbecldgoimkmaaDoor
