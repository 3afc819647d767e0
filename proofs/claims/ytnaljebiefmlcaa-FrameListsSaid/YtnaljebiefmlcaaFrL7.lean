/- The law FrameLists, walked: whatever the texts and the bytes, it returns true. -/
import Derived.Test.YtnaljebiefmlcaaFr13
import Derived.Test.YtnaljebiefmlcaaFrP5
namespace Go.Proofs.Ytnaljebiefmlcaa
open Go.RowKit Go.Sort

set_option maxHeartbeats 1000000 in
theorem FrameLists_any (v : Value) (l : List ByteArray) (s : ByteArray) (w : World) (hv : SlOf w v (l.map .string) ∧ ∀ x ∈ l, x.size ≤ maxLen) (hs : s.size ≤ maxLen) :
    Calls Try.prog 8 #[v, .string s] w fun e w' => e = .returned (.bool true) ∧ Below w.heap.size w w' := by
  have hc := cutS_size s
  obtain ⟨hv, hl⟩ := hv
  have HV := Lib.hid hv
  have HL := Lib.hid hl
  have hf1 := Lib.hid (Tess.fewL_size l)
  have hf2 := Tess.fewL_len l
  have HSP := Lib.hid (fun w => split_any (cutS s) w (by omega))
  have HRS := Lib.hid (fun w => rsplit_any (cutS s) w (by omega))
  unfold SplitPost at HSP HRS
  have HCUT := Lib.hid (fun w => cut_any s w hs)
  have HFEW := Lib.hid (fun w (hb : Below _ _ w) => few_any v l w (HV.out.below hb) HL.out)
  generalize cutS s = c at *
  generalize Tess.fewL l = fl at *
  generalize Tess.splitF c.size [] c = X at *
  obtain ⟨la, g⟩ := X
  have HJ := Lib.hid (fun v w hv => join_any v fl w hv hf1.out hf2)
  have HRJ := Lib.hid (fun v w hv => rjoin_any v fl w hv hf1.out hf2)
  unfold JoinPost at HJ HRJ
  generalize Tess.joinL fl = j at *
  clear hv hl
  go_enter Try.func8, Try.ntmps8
  go_wp2_with (first
    | (go_at_call 10; refine (shown_any _).mono ?_; rintro e w1 ⟨rfl, hB'⟩; have HB := Lib.hid hB'; clear hB')
    | (go_at_call 19; refine (HFEW.out _ HB.out).mono ?_; rintro e w2 ⟨vf, rfl, hvf, hB'⟩; have HB := Lib.hid (Bt HB.out hB'); clear hB')
    | (go_at_call 18; refine (HJ.out _ _ hvf).mono ?_; rintro e w3 ⟨rfl, hB'⟩; have HB := Lib.hid (Bt HB.out hB'); clear hB' hvf)
    | (go_at_call 20; refine (HRJ.out _ _ hvf).mono ?_; rintro e w3 ⟨rfl, hB'⟩; have HB := Lib.hid (Bt HB.out hB'); clear hB' hvf)
    | (go_at_call 11; refine (HCUT.out _).mono ?_; rintro e w' ⟨rfl, rfl⟩)
    | (go_at_call 21; refine (HSP.out _).mono ?_; rintro e w4 ⟨vc, rfl, hvc, hB'⟩; have HVC := Lib.hid hvc; have HB := Lib.hid (Bt HB.out hB'); clear hB' hvc)
    | (go_at_call 22; refine (HRS.out _).mono ?_; rintro e w5 ⟨vd, rfl, hvd, hB'⟩; have HVD := Lib.hid hvd; have HVC := Lib.hid (HVC.out.below hB'); have HB := Lib.hid (Bt HB.out hB'); clear hB' hvd)
    | (go_at_call 23; refine (texts_any _ _ la la _ HVC.out HVD.out).mono ?_; rintro e w6 ⟨rfl, hB'⟩; have HB := Lib.hid (Bt HB.out hB'); clear hB'; rw [decide_eq_true rfl]))
  go_ret
  exact ⟨rfl, HB.out⟩
end Go.Proofs.Ytnaljebiefmlcaa
