/- The law FrameBack, walked: what is made is read again, what is joined is parted again. -/
import Derived.Test.YtnaljebiefmlcaaFr13
import Derived.Test.YtnaljebiefmlcaaFrP5
namespace Go.Proofs.Ytnaljebiefmlcaa
open Go.RowKit Go.Sort

set_option maxHeartbeats 1000000 in
theorem FrameBack_any (s : ByteArray) (m : ByteArray) (v : Value) (l : List ByteArray) (w : World) (hs : s.size ≤ maxLen) (hm : m.size ≤ maxLen) (hv : SlOf w v (l.map .string) ∧ ∀ x ∈ l, x.size ≤ maxLen) :
    Calls Try.prog 9 #[.string s, .string m, v] w fun e w' => e = .returned (.bool true) ∧ Below w.heap.size w w' := by
  have hc := cutS_size s
  have hd := cutS_size m
  obtain ⟨hv, hl⟩ := hv
  have HV := Lib.hid hv
  have HL := Lib.hid hl
  have hf1 := Lib.hid (Tess.fewL_size l)
  have hf2 := Tess.fewL_len l
  have HCUT := Lib.hid (fun w => cut_any s w hs)
  have HCUM := Lib.hid (fun w => cut_any m w hm)
  have HFEW := Lib.hid (fun w (hb : Below _ _ w) => few_any v l w (HV.out.below hb) HL.out)
  generalize cutS s = c at *
  generalize cutS m = d at *
  generalize Tess.fewL l = fl at *
  have HM := Lib.hid (fun w => make_yes c w (by omega))
  have hrd := fun w => read_any (Tess.mkf c ++ d) w (by unfold maxLen; rw [ByteArray.size_append, Tess.mkf_size]; omega)
  unfold RdPost at hrd
  rw [Tess.rd_mkf c d (by omega)] at hrd
  have HR := Lib.hid hrd
  clear hrd
  have hmz := Tess.mkf_size c
  generalize Tess.mkf c = mc at *
  have HJ := Lib.hid (fun v w hv => join_any v fl w hv hf1.out hf2)
  have hjz := Tess.joinL_size_all fl hf1.out hf2
  have hsp := fun w => split_any (Tess.joinL fl) w (by omega)
  unfold SplitPost at hsp
  rw [Tess.splitF_joinL fl _ [] hf1.out (Nat.le_refl _), List.nil_append] at hsp
  have HSP := Lib.hid hsp
  clear hsp
  unfold JoinPost at HJ
  generalize Tess.joinL fl = j at *
  clear hv hl
  have hcat : mc.size + d.size ≤ 9223372036854775807 := by omega
  go_enter Try.func9, Try.ntmps9
  go_wp2_with (first
    | (go_at_call 10; refine (shown_any _).mono ?_; rintro e w1 ⟨rfl, hB'⟩; have HB := Lib.hid hB'; clear hB')
    | (go_at_call 19; refine (HFEW.out _ HB.out).mono ?_; rintro e w2 ⟨vf, rfl, hvf, hB'⟩; have HVF := Lib.hid hvf; have HB := Lib.hid (Bt HB.out hB'); clear hvf)
    | (go_at_call 12; refine (HM.out _).mono ?_; rintro e w3 ⟨rfl, hB'⟩; have HB := Lib.hid (Bt HB.out hB'); clear hB')
    | (go_at_call 14; refine (HR.out _).mono ?_; rintro e w3 ⟨rfl, hB'⟩; have HB := Lib.hid (Bt HB.out hB'); clear hB')
    | (go_at_call 18; refine (HJ.out _ _ HVF.out).mono ?_; rintro e w3 ⟨rfl, hB'⟩; have HB := Lib.hid (Bt HB.out hB'); clear hB')
    | (go_at_call 11; first | (refine (HCUT.out _).mono ?_; rintro e w' ⟨rfl, rfl⟩) | (refine (HCUM.out _).mono ?_; rintro e w' ⟨rfl, rfl⟩))
    | (go_at_call 21; refine (HSP.out _).mono ?_; rintro e w4 ⟨vc, rfl, hvc, hB'⟩; have HVC := Lib.hid hvc; have HB := Lib.hid (Bt HB.out hB'); clear hvc)
    | (go_at_call 23; refine (texts_any _ _ fl fl _ (HVC.out.below hB') HVF.out).mono ?_; rintro e w6 ⟨rfl, hB'⟩; have HB := Lib.hid (Bt HB.out hB'); clear hB'; rw [decide_eq_true rfl]))
  go_ret
  exact ⟨rfl, HB.out⟩
end Go.Proofs.Ytnaljebiefmlcaa
