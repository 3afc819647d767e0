/- The law DictMakes, walked: whatever the words, it returns true. -/
import Derived.Test.YtpbecldgoimkmaaDoorD34
import Derived.Test.YtpbecldgoimkmaaDoorDL2
namespace Go.Proofs.YtpbecldgoimkmaaDoor
open Go.RowKit Go.Sort Go.Shelf

set_option maxRecDepth 100000 in
set_option maxHeartbeats 4000000 in
theorem DictMakes_any (a0 a1 : Addr) (v : Value) (l : List ByteArray) (w : World) (hV : Vars a0 a1 w) (hv : SlOf w v (l.map .string) ∧ ∀ x ∈ l, x.size ≤ maxLen) :
    Calls Tryd.prog 5 #[v] w fun e w' => e = .returned (.bool true) ∧ Below w.heap.size w w' := by
  obtain ⟨hv, hl⟩ := hv
  have HV := Lib.hid hv
  have HL := Lib.hid hl
  have hfs := few_size 100 l
  have hfl := few_len 100 l
  have HFEW := Lib.hid (fun w (hb : Below _ _ w) => few_any v 100 l w (by omega) (HV.out.below hb) HL.out)
  have HSH := Lib.hid (shown_any a0 a1 w hV)
  generalize fewN 100 l = fl at *
  have hfm : ∀ y ∈ fl, y.size ≤ maxLen := fun y hy => by have := hfs y hy; unfold maxLen; omega
  have hb : ∀ v W, SlOf W v (fl.map .string) → Calls Tryd.prog 25 #[v] W (BuildPost fl W) := fun v W h => build_any v fl W h (by omega)
  have hrb : ∀ v W, SlOf W v (fl.map .string) → Calls Tryd.prog 18 #[v] W (BuildPost fl W) := fun v W h => rbuild_any v fl W h hfm (by omega)
  have hr : ∀ v W, SlOf W v (fl.map .string) → _ := fun v W h => right_any v fl W h
  have hrr : ∀ v W, SlOf W v (fl.map .string) → _ := fun v W h => rright_any v fl W h hfm
  unfold BuildPost at hb hrb
  obtain ⟨⟨gl, gc⟩, hg⟩ : ∃ g, g = Tess.buildW fl := ⟨_, rfl⟩
  rw [← hg] at hrb hb
  simp only at hrb hb
  generalize Tess.right fl = rt at *
  have HBD := Lib.hid hb
  have HRB := Lib.hid hrb
  have HR := Lib.hid hr
  have HRR := Lib.hid hrr
  clear hv hl hV hr hrr hb hrb hg hfs hfm
  go_enter Tryd.func5, Tryd.ntmps5
  go_wp2_with (first
    | (go_at_call 10; refine HSH.out.mono ?_; rintro e w1 ⟨rfl, hB'⟩; have HB := Lib.hid hB'; clear hB')
    | (go_at_call 11; refine (HFEW.out _ HB.out).mono ?_; rintro e w2 ⟨vf, rfl, hvf, hB'⟩; have HVF := Lib.hid hvf; have HB := Lib.hid (Bt HB.out hB'); clear hB' hvf)
    | (go_at_call 25; refine (HBD.out _ _ HVF.out).mono ?_; rintro e w3 ⟨va, rfl, hva, hB'⟩; have HVF := Lib.hid (HVF.out.below hB'); have HVA := Lib.hid hva; have HB := Lib.hid (Bt HB.out hB'); clear hB' hva)
    | (go_at_call 18; refine (HRB.out _ _ HVF.out).mono ?_; rintro e w3 ⟨vb, rfl, hvb, hB'⟩; have HVF := Lib.hid (HVF.out.below hB'); have HVA := Lib.hid (HVA.out.below hB'); have HVB := Lib.hid hvb; have HB := Lib.hid (Bt HB.out hB'); clear hB' hvb)
    | (go_at_call 26; refine (HR.out _ _ HVF.out).mono ?_; rintro e w3 ⟨rfl, hB'⟩; have HVF := Lib.hid (HVF.out.below hB'); have HVA := Lib.hid (HVA.out.below hB'); have HVB := Lib.hid (HVB.out.below hB'); have HB := Lib.hid (Bt HB.out hB'); clear hB')
    | (go_at_call 27; refine (HRR.out _ _ HVF.out).mono ?_; rintro e w3 ⟨rfl, hB'⟩; have HVF := Lib.hid (HVF.out.below hB'); have HVA := Lib.hid (HVA.out.below hB'); have HVB := Lib.hid (HVB.out.below hB'); have HB := Lib.hid (Bt HB.out hB'); clear hB')
    | (go_at_call 17; refine (texts_any _ _ gl gl _ HVA.out HVB.out).mono ?_; rintro e w6 ⟨rfl, hB'⟩; have HB := Lib.hid (Bt HB.out hB'); clear hB'; rw [decide_eq_true rfl]))
  go_ret
  exact ⟨by first | rfl | simp, HB.out⟩
end Go.Proofs.YtpbecldgoimkmaaDoor
