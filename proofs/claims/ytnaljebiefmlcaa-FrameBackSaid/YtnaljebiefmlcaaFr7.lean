/- Frames read: the program's. -/
import Derived.Test.YtnaljebiefmlcaaFr6
import Derived.WalkSmall
namespace Go.Proofs.Ytnaljebiefmlcaa
open Go.RowKit Go.Sort

def RdPost (s : ByteArray) (w : World) (e : Ending) (w' : World) : Prop :=
  e = .returned (.tuple #[.string (Tess.rd s).1, .string (Tess.rd s).2.1, .int .i64 ((Tess.rd s).2.2 : Nat)]) ∧ Below w.heap.size w w'

set_option maxHeartbeats 400000 in
theorem read_short (s : ByteArray) (w : World) (hs : s.size ≤ maxLen) (h : s.size < 8) :
    Calls Try.prog 14 #[.string s] w (RdPost s w) := by
  unfold maxLen at hs
  go_enter Try.func14, Try.ntmps14
  go_wp2
  refine wp_scope_fwd 0 rfl ?_
  go_wp2
  go_step3
  refine Exit.then_goto (Exit.fwd_goto ?_)
  go_wp2
  rw [Exit.noGoto_ret]
  go_ret3
  exact ⟨by simp [Tess.rd, h], Below.refl _ _⟩

set_option maxHeartbeats 400000 in
theorem read_great (s : ByteArray) (w : World) (hs : s.size ≤ maxLen) (h : 8 ≤ s.size) (n : Nat) (hn : Tess.num4 (s.data.toList.take 4) = n) (h1 : 60000 < n) :
    Calls Try.prog 14 #[.string s] w (RdPost s w) := by
  unfold maxLen at hs
  have HN := Lib.hid hn
  have hn4 : n < 4294967296 := by rw [← hn]; exact Tess.num4_lt4 _ (by simp; omega)
  clear hn
  go_enter Try.func14, Try.ntmps14
  go_wp2
  refine wp_scope_fwd 0 rfl ?_
  go_wp2_with (go_at_call 26; refine (number_any s _ (by unfold maxLen; omega) (by omega)).mono ?_; rintro e w' ⟨rfl, rfl⟩; rw [HN.out])
  go_step3
  refine Exit.then_goto (Exit.fwd_goto ?_)
  go_wp2
  rw [Exit.noGoto_ret]
  go_ret3
  have h8 : ¬ s.size < 8 := by omega
  exact ⟨by simp [Tess.rd, HN.out, h8, h1], Below.refl _ _⟩
set_option maxHeartbeats 400000 in
theorem read_more (s : ByteArray) (w : World) (hs : s.size ≤ maxLen) (h : 8 ≤ s.size) (n : Nat) (hn : Tess.num4 (s.data.toList.take 4) = n) (h1 : n ≤ 60000) (h2 : s.size < 8 + n) :
    Calls Try.prog 14 #[.string s] w (RdPost s w) := by
  unfold maxLen at hs
  have HN := Lib.hid hn
  clear hn
  go_enter Try.func14, Try.ntmps14
  go_wp2
  refine wp_scope_fwd 0 rfl ?_
  go_wp2_with (go_at_call 26; refine (number_any s _ (by unfold maxLen; omega) (by omega)).mono ?_; rintro e w' ⟨rfl, rfl⟩; rw [HN.out])
  go_step3
  refine Exit.then_goto (Exit.fwd_goto ?_)
  go_wp2
  rw [Exit.noGoto_ret]
  go_ret3
  have h8 : ¬ s.size < 8 := by omega
  have h60 : ¬ 60000 < n := by omega
  exact ⟨by simp [Tess.rd, HN.out, h8, h60, h2], Below.refl _ _⟩

set_option maxHeartbeats 400000 in
theorem read_sum (s : ByteArray) (w : World) (hs : s.size ≤ maxLen) (h : 8 ≤ s.size) (n : Nat) (hn : Tess.num4 (s.data.toList.take 4) = n) (h1 : n ≤ 60000) (h2 : 8 + n ≤ s.size) :
    Calls Try.prog 14 #[.string s] w (RdPost s w) := by
  unfold maxLen at hs
  have HN := Lib.hid hn
  clear hn
  have hf : (Tess.frm s 4).size ≤ s.size ∧ 4 ≤ (Tess.frm s 4).size := by simp [Tess.frm]; omega
  have hx : (s.extract 8 (8 + n)).size ≤ s.size := by simp; omega
  have c1 := fun d os => Calls.regrown_of (d := d) (os := os) (sum_any (s.extract 8 (8 + n)) (grow (redrawn w d) os) (by unfold maxLen; omega))
  have c2 := fun d os => Calls.regrown_same (d := d) (os := os) (number_any (Tess.frm s 4) (grow (redrawn w d) os) (by unfold maxLen; omega) (by omega))
  unfold Tess.frm at c2
  generalize hA : Tess.csum (s.extract 8 (8 + n)).data.toList = A at c1
  generalize hB : Tess.num4 ((s.extract 4 s.size).data.toList.take 4) = B at c2
  have HA := Lib.hid hA
  have HBB := Lib.hid hB
  clear hA hB
  have C1 := Lib.hid c1
  have C2 := Lib.hid c2
  clear c1 c2
  go_enter Try.func14, Try.ntmps14
  go_wp2
  refine wp_scope_fwd 0 rfl ?_
  go_wp2_with (go_at_call 26; refine (number_any s _ (by unfold maxLen; omega) (by omega)).mono ?_; rintro e w' ⟨rfl, rfl⟩; rw [HN.out])
  refine wp_region_quiet_below (by kernel_rfl) (by kernel_rfl) ?_
  repeat (go_big_quiet_step (first | exact C1.out _ _ | exact C2.out _ _))
  refine wpQuiet_nil ?_
  intro _ hw'
  obtain ⟨⟨dq, osq⟩, hw''⟩ := hw'
  subst hw''
  have HB := Lib.hid (below_regrown w dq osq)
  generalize grow (redrawn w dq) osq = w1 at *
  clear C1 C2
  go_wp2
  · go_step3
    refine Exit.then_goto (Exit.fwd_goto ?_)
    go_wp2
    rw [Exit.noGoto_ret]
    go_ret3
    have h8 : ¬ s.size < 8 := by omega
    have h60 : ¬ 60000 < n := by omega
    have hne : ¬ A = B := by
      have hx : ((A : Int) != (B : Int)) = true := by assumption
      rw [bne_iff_ne] at hx
      omega
    refine ⟨?_, HB.out⟩
    unfold Tess.rd Tess.frm
    rw [HN.out, HA.out, HBB.out, if_neg h8, if_neg h60, if_neg (by omega), if_neg hne]
    rfl
  · have he : A = B := by
      have hx : ((A : Int) != (B : Int)) = false := by assumption
      rw [bne_eq_false_iff_eq] at hx
      omega
    have HE := Lib.hid he
    clear he
    go_quiet (fail)
    go_wp2
    rw [Exit.fwd_ret]
    go_ret3
    have h8 : ¬ s.size < 8 := by omega
    have h60 : ¬ 60000 < n := by omega
    refine ⟨?_, below_drewN HB.out _⟩
    unfold Tess.rd Tess.frm
    rw [HN.out, HA.out, HBB.out, if_neg h8, if_neg h60, if_neg (by omega), if_pos HE.out]
    rfl

theorem read_any (s : ByteArray) (w : World) (hs : s.size ≤ maxLen) : Calls Try.prog 14 #[.string s] w (RdPost s w) := by
  by_cases h : s.size < 8
  · exact read_short s w hs h
  · by_cases h1 : 60000 < Tess.num4 (s.data.toList.take 4)
    · exact read_great s w hs (by omega) _ rfl h1
    · by_cases h2 : s.size < 8 + Tess.num4 (s.data.toList.take 4)
      · exact read_more s w hs (by omega) _ rfl (by omega) h2
      · exact read_sum s w hs (by omega) _ rfl (by omega) (by omega)
end Go.Proofs.Ytnaljebiefmlcaa
