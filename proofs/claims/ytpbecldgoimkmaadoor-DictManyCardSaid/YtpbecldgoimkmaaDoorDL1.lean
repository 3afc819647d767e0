/- The law DictCodes, walked: whatever the words and the bytes, it returns true. -/
import Derived.Test.YtpbecldgoimkmaaDoorD31
import Derived.Test.YtpbecldgoimkmaaDoorTx
namespace Go.Proofs.YtpbecldgoimkmaaDoor
open Go.RowKit Go.Sort Go.Shelf
theorem few_size (n : Nat) (l : List ByteArray) : ∀ y ∈ fewN n l, y.size ≤ 110 := by
  intro y hy
  unfold fewN at hy
  obtain ⟨x, _, rfl⟩ := List.mem_map.1 hy
  unfold cut110
  simp; omega

set_option maxRecDepth 100000 in
set_option maxHeartbeats 2000000 in
theorem DictCodes_any (a0 a1 : Addr) (v : Value) (l : List ByteArray) (s : ByteArray) (w : World) (hV : Vars a0 a1 w) (hv : SlOf w v (l.map .string) ∧ ∀ x ∈ l, x.size ≤ maxLen) (hs : s.size ≤ maxLen) :
    Calls Tryd.prog 3 #[v, .string s] w fun e w' => e = .returned (.bool true) ∧ Below w.heap.size w w' := by
  have hc := cutS_size s
  obtain ⟨hv, hl⟩ := hv
  have HV := Lib.hid hv
  have HL := Lib.hid hl
  have HVA := Lib.hid hV
  have hfs := few_size 100 l
  have HCUT := Lib.hid (fun w => cut_any s w hs)
  have HFEW := Lib.hid (fun w (hb : Below _ _ w) => few_any v 100 l w (by omega) (HV.out.below hb) HL.out)
  have hsh := shown_any a0 a1 w hV
  have hdec : ∀ W, Below w.heap.size w W → Calls Tryd.prog 14 #[.string (cutS s)] W (DecPost (cutS s) W) := fun W hB => decode_any a0 a1 (cutS s) W (hV.below hB) (by omega)
  have hrdec : ∀ W, Calls Tryd.prog 16 #[.string (cutS s)] W (DecPost (cutS s) W) := fun W => rdecode_any (cutS s) W (by omega)
  unfold DecPost at hdec hrdec
  generalize cutS s = c at *
  generalize fewN 100 l = fl at *
  obtain ⟨⟨dl, dr, dc⟩, hd⟩ : ∃ g, g = Tess.decW c := ⟨_, rfl⟩
  rw [← hd] at hdec hrdec
  simp only at hdec hrdec
  have henc : ∀ v w, SlOf w v (fl.map .string) → _ := fun v w hv => encode_any v fl w hv
  have hrenc : ∀ v w, SlOf w v (fl.map .string) → _ := fun v w hv => rencode_any v fl w hv (fun y hy => by have := hfs y hy; unfold maxLen; omega)
  unfold EncPost at henc hrenc
  obtain ⟨⟨E, x⟩, he⟩ : ∃ g, g = Tess.encW fl := ⟨_, rfl⟩
  rw [← he] at henc hrenc
  simp only at henc hrenc
  have HSH := Lib.hid hsh
  have HE := Lib.hid henc
  have HRE := Lib.hid hrenc
  have HD := Lib.hid hdec
  have HRD := Lib.hid hrdec
  clear hv hl hV hsh henc hrenc hdec hrdec he hd hfs hc
  go_enter Tryd.func3, Tryd.ntmps3
  go_wp2_with (first
    | (go_at_call 10; refine HSH.out.mono ?_; rintro e w1 ⟨rfl, hB'⟩; have HB := Lib.hid hB'; clear hB')
    | (go_at_call 11; refine (HFEW.out _ HB.out).mono ?_; rintro e w2 ⟨vf, rfl, hvf, hB'⟩; have HVF := Lib.hid hvf; have HB := Lib.hid (Bt HB.out hB'); clear hB' hvf)
    | (go_at_call 12; refine (HE.out _ _ HVF.out).mono ?_; rintro e w3 ⟨rfl, hB'⟩; have HVF := Lib.hid (HVF.out.below hB'); have HB := Lib.hid (Bt HB.out hB'); clear hB')
    | (go_at_call 13; refine (HRE.out _ _ HVF.out).mono ?_; rintro e w3 ⟨rfl, hB'⟩; have HB := Lib.hid (Bt HB.out hB'); clear hB')
    | (go_at_call 15; refine (HCUT.out _).mono ?_; rintro e w' ⟨rfl, rfl⟩)
    | (go_at_call 14; refine (HD.out _ HB.out).mono ?_; rintro e w4 ⟨vc, rfl, hvc, hB'⟩; have HVC := Lib.hid hvc; have HB := Lib.hid (Bt HB.out hB'); clear hB' hvc)
    | (go_at_call 16; refine (HRD.out _).mono ?_; rintro e w5 ⟨vd, rfl, hvd, hB'⟩; have HVD := Lib.hid hvd; have HVC := Lib.hid (HVC.out.below hB'); have HB := Lib.hid (Bt HB.out hB'); clear hB' hvd)
    | (go_at_call 17; refine (texts_any _ _ dl dl _ HVC.out HVD.out).mono ?_; rintro e w6 ⟨rfl, hB'⟩; have HB := Lib.hid (Bt HB.out hB'); clear hB'; rw [decide_eq_true rfl]))
  go_ret
  exact ⟨rfl, HB.out⟩
end Go.Proofs.YtpbecldgoimkmaaDoor
