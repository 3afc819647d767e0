/- Frames read: the reference's. -/
import Derived.Test.YtnaljebiefmlcaaFr7
namespace Go.Proofs.Ytnaljebiefmlcaa
open Go.RowKit Go.Sort

set_option maxHeartbeats 400000 in
theorem rread_short (s : ByteArray) (w : World) (hs : s.size ≤ 1000000) (h : s.size < 8) :
    Calls Try.prog 15 #[.string s] w (RdPost s w) := by
  go_enter Try.func15, Try.ntmps15
  go_wp2
  go_ret3
  exact ⟨by simp [Tess.rd, h], Below.refl _ _⟩
set_option maxHeartbeats 400000 in
theorem rread_great (s : ByteArray) (w : World) (hs : s.size ≤ 1000000) (h : 8 ≤ s.size) (n : Nat) (hn : Tess.num4 (s.data.toList.take 4) = n) (h1 : 60000 < n) :
    Calls Try.prog 15 #[.string s] w (RdPost s w) := by
  have HN := Lib.hid hn
  have hn4 : n < 4294967296 := by rw [← hn]; exact Tess.num4_lt4 _ (by simp; omega)
  clear hn
  go_enter Try.func15, Try.ntmps15
  go_wp2_with (go_at_call 27; refine (rnumber_any s _ (by unfold maxLen; omega) (by omega)).mono ?_; rintro e w' ⟨rfl, ⟨nd, rfl⟩⟩; rw [HN.out])
  go_ret3
  have h8 : ¬ s.size < 8 := by omega
  exact ⟨by simp [Tess.rd, HN.out, h8, h1], below_drewN (Below.refl _ _) _⟩
set_option maxHeartbeats 400000 in
theorem rread_more (s : ByteArray) (w : World) (hs : s.size ≤ 1000000) (h : 8 ≤ s.size) (n : Nat) (hn : Tess.num4 (s.data.toList.take 4) = n) (h1 : n ≤ 60000) (h2 : s.size < 8 + n) :
    Calls Try.prog 15 #[.string s] w (RdPost s w) := by
  have HN := Lib.hid hn
  clear hn
  go_enter Try.func15, Try.ntmps15
  go_wp2_with (go_at_call 27; refine (rnumber_any s _ (by unfold maxLen; omega) (by omega)).mono ?_; rintro e w' ⟨rfl, ⟨nd, rfl⟩⟩; rw [HN.out])
  go_ret3
  have h8 : ¬ s.size < 8 := by omega
  have h60 : ¬ 60000 < n := by omega
  exact ⟨by simp [Tess.rd, HN.out, h8, h60, h2], below_drewN (Below.refl _ _) _⟩
set_option maxHeartbeats 400000 in
theorem rread_sum (s : ByteArray) (w : World) (hs : s.size ≤ 1000000) (h : 8 ≤ s.size) (n : Nat) (hn : Tess.num4 (s.data.toList.take 4) = n) (h1 : n ≤ 60000) (h2 : 8 + n ≤ s.size) :
    Calls Try.prog 15 #[.string s] w (RdPost s w) := by
  have HN := Lib.hid hn
  clear hn
  have hf : (s.extract 4 s.size).size ≤ s.size ∧ 4 ≤ (s.extract 4 s.size).size := by simp; omega
  have hx : (s.extract 8 (8 + n)).size ≤ s.size := by simp; omega
  have c1 := fun nd d os => Calls.regrown_same (d := d) (os := os) (rsum_any (s.extract 8 (8 + n)) (grow (redrawn (w.drewN nd) d) os) (by unfold maxLen; omega))
  have c2 := fun nd d os => Calls.regrown_of (d := d) (os := os) ((rnumber_any (s.extract 4 s.size) (grow (redrawn (w.drewN nd) d) os) (by unfold maxLen; omega) (by omega)).mono fun _ _ ⟨he, m, hm⟩ => ⟨he, hm ▸ below_drewN (Below.refl _ _) m⟩)
  generalize hA : Tess.csum (s.extract 8 (8 + n)).data.toList = A at c1
  generalize hB : Tess.num4 ((s.extract 4 s.size).data.toList.take 4) = B at c2
  have HA := Lib.hid hA
  have HBB := Lib.hid hB
  clear hA hB
  have C1 := Lib.hid c1
  have C2 := Lib.hid c2
  clear c1 c2
  go_enter Try.func15, Try.ntmps15
  go_wp2_with (go_at_call 27; refine (rnumber_any s _ (by unfold maxLen; omega) (by omega)).mono ?_; rintro e w' ⟨rfl, ⟨nd, rfl⟩⟩; rw [HN.out])
  refine wp_region_quiet_below (by kernel_rfl) (by kernel_rfl) ?_
  repeat (go_big_quiet_step (first | exact C1.out _ _ _ | exact C2.out _ _ _))
  refine wpQuiet_nil ?_
  intro _ hw'
  obtain ⟨⟨dq, osq⟩, hw''⟩ := hw'
  subst hw''
  have HB := Lib.hid (Go.RowKit.Below.trans (below_drewN (Below.refl w.heap.size w) nd) (below_regrown (w.drewN nd) dq osq))
  generalize grow (redrawn (w.drewN nd) dq) osq = w1 at *
  clear C1 C2
  go_wp2
  · go_ret3
    have h8 : ¬ s.size < 8 := by omega
    have h60 : ¬ 60000 < n := by omega
    have hne : ¬ A = B := by
      have hx : ((A : Int) != (B : Int)) = true := by assumption
      rw [bne_iff_ne] at hx
      omega
    refine ⟨?_, HB.out⟩
    unfold Tess.rd Tess.frm
    rw [HN.out, HA.out, HBB.out, if_neg h8, if_neg h60, if_neg (by omega), if_neg hne]
    rfl
  · have he : A = B := by
      have hx : ((A : Int) != (B : Int)) = false := by assumption
      rw [bne_eq_false_iff_eq] at hx
      omega
    have HE := Lib.hid he
    clear he
    go_quiet (fail)
    go_wp2
    go_ret3
    have h8 : ¬ s.size < 8 := by omega
    have h60 : ¬ 60000 < n := by omega
    refine ⟨?_, below_drewN HB.out _⟩
    unfold Tess.rd Tess.frm
    rw [HN.out, HA.out, HBB.out, if_neg h8, if_neg h60, if_neg (by omega), if_pos HE.out]
    rfl
theorem rread_any (s : ByteArray) (w : World) (hs : s.size ≤ 1000000) : Calls Try.prog 15 #[.string s] w (RdPost s w) := by
  by_cases h : s.size < 8
  · exact rread_short s w hs h
  · by_cases h1 : 60000 < Tess.num4 (s.data.toList.take 4)
    · exact rread_great s w hs (by omega) _ rfl h1
    · by_cases h2 : s.size < 8 + Tess.num4 (s.data.toList.take 4)
      · exact rread_more s w hs (by omega) _ rfl (by omega) h2
      · exact rread_sum s w hs (by omega) _ rfl (by omega) (by omega)
end Go.Proofs.Ytnaljebiefmlcaa
