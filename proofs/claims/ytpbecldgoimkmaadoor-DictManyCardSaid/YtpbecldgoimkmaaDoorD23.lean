/- varint.Get. -/
import Derived.Test.YtpbecldgoimkmaaDoorD22
namespace Go.Proofs.YtpbecldgoimkmaaDoor
open Go.RowKit Go.Sort Go.Shelf

theorem Vars.below {a0 a1 : Addr} {w w' : World} (h : Vars a0 a1 w) (hb : Below w.heap.size w w') : Vars a0 a1 w' := by
  obtain ⟨c0, t0, h0⟩ := h.b0
  obtain ⟨c1, t1, h1⟩ := h.b1
  exact ⟨h.ne, (hb.cell (p := ⟨0, 0, none⟩) (World.block_lt_of_cell? _ _ h.g0)).trans h.g0, (hb.cell (p := ⟨1, 0, none⟩) (World.block_lt_of_cell? _ _ h.g1)).trans h.g1, (hb.cell (p := ⟨2, 0, none⟩) (World.block_lt_of_cell? _ _ h.g2)).trans h.g2,
    ⟨c0, t0, (hb.block _ (Array.getElem?_eq_some_iff.1 h0).1).trans h0⟩, ⟨c1, t1, (hb.block _ (Array.getElem?_eq_some_iff.1 h1).1).trans h1⟩⟩
theorem getW_code (s : ByteArray) : (Tess.getW s).2.2 = 0 ∨ (Tess.getW s).2.2 = 20 ∨ (Tess.getW s).2.2 = 21 := by
  unfold Tess.getW
  split
  · split
    · exact .inl rfl
    · exact .inr (.inl rfl)
  · show (if s.size < 10 then 21 else 20) = 0 ∨ _
    split
    · exact .inr (.inr rfl)
    · exact .inr (.inl rfl)

def GetPost (s : ByteArray) (w : World) (e : Ending) (w' : World) : Prop := e = .returned (.tuple #[.int .u64 ((Tess.getW s).1 : Nat), .string (Tess.getW s).2.1, .int .i64 ((Tess.getW s).2.2 : Nat)]) ∧ Below w.heap.size w w'
set_option maxHeartbeats 1000000 in
set_option maxRecDepth 100000 in
theorem get_any (a0 a1 : Addr) (s : ByteArray) (w : World) (hv : Vars a0 a1 w) : Calls Tryd.prog 55 #[.string s] w (GetPost s w) := by
  obtain ⟨w0, hw0⟩ : ∃ w0, w0 = w.alloc (.cells #[.string s] 101) := ⟨_, rfl⟩
  have hB0 : Below w.heap.size w w0 := by rw [hw0]; exact (Below.refl _ _).alloc (Nat.le_refl _) _
  have hv0 := hv.below hB0
  have hn := next_any a0 a1 w.heap.size s w0 hv0 (by rw [hw0]; exact cell_new_sl w _ _) (by rw [hw0]; simp)
  have htold : ∀ W, Below w.heap.size w W → Calls Tryd.prog 71 #[errV a0 a1 (Tess.getW s).2.2] W fun e w' => e = .returned (.int .i64 ((Tess.getW s).2.2 : Nat)) ∧ w' = W := fun W hB => vtold_any a0 a1 _ W (hv.below hB) (getW_code s)
  unfold GetPost
  obtain ⟨⟨n, rest, c⟩, hg⟩ : ∃ g, g = Tess.getW s := ⟨_, rfl⟩
  rw [← hg] at hn htold ⊢
  obtain ⟨er, her⟩ : ∃ er, er = errV a0 a1 c := ⟨_, rfl⟩
  simp only at hn htold ⊢
  rw [← her] at hn htold
  have HN := Lib.hid hn
  have HT := Lib.hid htold
  have HW := Lib.hid hw0
  have HB0 := Lib.hid hB0
  clear hn htold hw0 hv hv0 hg her hB0
  go_enter Tryd.func55, Tryd.ntmps55
  go_wp2_with (go_at_call 70; rw [← HW.out]; refine HN.out.mono ?_; rintro e w1 ⟨rfl, hc1, hB1⟩)
  have hBw : Below w.heap.size w w1 := HB0.out.trans hB1
  have HC1 := Lib.hid (fun d os => Calls.regrown_of ((HT.out (grow (redrawn w1 d) os) (Bt hBw (below_regrown w1 d os))).mono fun _ _ ⟨h1, h2⟩ => ⟨h1, by rw [h2]; exact Below.refl _ _⟩))
  have q1 := fun d os => cell_regrown hc1 d os
  have HBw := Lib.hid hBw
  clear hB1 hBw hc1
  refine wp_region_quiet_below (by kernel_rfl) (by kernel_rfl) ?_
  repeat (go_big_quiet_step (exact HC1.out _ _))
  refine wpQuiet_nil ?_
  intro _ hw'
  obtain ⟨⟨dq, osq⟩, hw''⟩ := hw'
  subst hw''
  have HB2 := Lib.hid (Bt HBw.out (below_regrown w1 dq osq))
  generalize grow (redrawn w1 dq) osq = w2 at *
  clear HC1 q1
  go_wp2
  go_ret3
  exact ⟨rfl, HB2.out⟩
end Go.Proofs.YtpbecldgoimkmaaDoor
