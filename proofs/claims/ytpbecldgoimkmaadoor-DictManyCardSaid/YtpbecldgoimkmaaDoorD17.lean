/- A number's varint: the program's and the document's. -/
import Derived.Test.YtpbecldgoimkmaaDoorD16
namespace Tess
theorem putW_size (n : Nat) (h : n < 18446744073709551616) : (putW n).size ≤ 10 := putL_len n 9 (by omega)
end Tess
namespace Go.Proofs.YtpbecldgoimkmaaDoor
open Go.RowKit Go.Sort Go.Shelf

theorem put_any (n : Nat) (w : World) (hn : n < 18446744073709551616) : Calls Tryd.prog 30 #[.int .u64 n] w fun e w' => e = .returned (.string (Tess.putW n)) ∧ Below w.heap.size w w' := by
  obtain ⟨w0, hw0⟩ : ∃ w0, w0 = w.alloc (.cells #[.int .u64 n] 54) := ⟨_, rfl⟩
  have hp := put_one w.heap.size n w0 (by rw [hw0]; exact cell_new_sl w _ _) hn
  have hB0 : Below w.heap.size w w0 := by rw [hw0]; exact (Below.refl _ _).alloc (Nat.le_refl _) _
  have HW := Lib.hid hw0
  have HP := Lib.hid hp
  clear hw0 hp
  go_enter Tryd.func30, Tryd.ntmps30
  go_wp2_with (go_at_call 54; rw [← HW.out]; refine HP.out.mono ?_; rintro e w1 ⟨rfl, hB1⟩; have HB := Lib.hid hB1; clear hB1)
  go_ret
  exact ⟨rfl, Bt hB0 HB.out⟩

theorem one_conv (c g : Nat) (w : World) (hc : w.cell? ⟨g, 0, none⟩ = some (.int .u8 c)) (h : c < 256) : (convert 42 9 (.slice (some ⟨g, 0, none⟩) 1 1)).run Tryd.prog w = .ok (.string ⟨#[UInt8.ofNat c]⟩) w := by
  rw [run_convert_bytes_arg w 42 5 Tryd.underlying42 Tryd.underlying5 g 0 1 1 (((⟨#[UInt8.ofNat c]⟩ : ByteArray).data.toList).map fun b => (b.toNat : Int)) rfl ?_ 9 Tryd.underlying9, strOfNums_list]
  intro i hi
  obtain rfl : i = 0 := by omega
  rw [Nat.zero_add, hc]
  simp
  omega
set_option maxRecDepth 100000 in
set_option maxHeartbeats 1000000 in
theorem rput_small (n : Nat) (w : World) (h : n < 128) : Calls Tryd.prog 33 #[.int .u64 n] w fun e w' => e = .returned (.string (Tess.putW n)) ∧ Below w.heap.size w w' := by
  have h128i : (n : Int) < 128 := by omega
  go_enter Tryd.func33, Tryd.ntmps33
  go_wp2
  rw [one_conv n w.heap.size (w.alloc (.cells #[.int .u8 n] 5)) (cell_new_sl w _ _) (by omega)]
  simp only [Result.andThen]
  rw [Oper.upon_value]
  go_wp2
  go_ret
  exact ⟨by unfold Tess.putW; rw [Tess.putL_lt n h]; rfl, (Below.refl _ _).alloc (Nat.le_refl _) _⟩

set_option maxRecDepth 100000 in
set_option maxHeartbeats 1000000 in
theorem rput_any (k : Nat) : ∀ (n : Nat) (w : World), n < 128 ^ (k + 1) → n < 18446744073709551616 → Calls Tryd.prog 33 #[.int .u64 n] w fun e w' => e = .returned (.string (Tess.putW n)) ∧ Below w.heap.size w w' := by
  induction k with
  | zero => intro n w h hn; exact rput_small n w (by simpa using h)
  | succ k ih =>
    intro n w h hn
    by_cases h128 : n < 128
    · exact rput_small n w h128
    · have HI := Lib.hid (fun W => ih (n / 128) W (by rw [Nat.pow_succ] at h; omega) (by omega))
      clear ih
      have h128i : ¬ (n : Int) < 128 := by omega
      have hpw : Tess.putW n = ⟨#[UInt8.ofNat (128 + n % 128)]⟩ ++ Tess.putW (n / 128) := by
        unfold Tess.putW; rw [Tess.putL_ge n h128]; apply ByteArray.ext; simp
      have HPW := Lib.hid hpw
      clear hpw
      obtain ⟨q, hq⟩ : ∃ q, q = n / 128 := ⟨_, rfl⟩
      obtain ⟨c, hc⟩ : ∃ c, c = 128 + n % 128 := ⟨_, rfl⟩
      rw [← hq] at HI HPW
      rw [← hc] at HPW
      have hqn : q < 18446744073709551616 := by omega
      obtain ⟨r, hr⟩ : ∃ r, r = n % 128 := ⟨_, rfl⟩
      have hc1 : (128 : Int) + (r : Int) = (c : Int) := by omega
      have htm : (n : Int).tmod 128 = (r : Int) := by rw [Int.tmod_eq_emod_of_nonneg (by omega)]; omega
      have htd : (n : Int).tdiv 128 = (q : Int) := by rw [Int.tdiv_eq_ediv_of_nonneg (by omega)]; omega
      have hc256 : c < 256 := by omega
      have hr128 : r < 128 := by omega
      have hw64 : IntKind.u64.wrap (c : Int) = (c : Int) := by go_bits; first | trivial | omega
      have hwq : IntKind.u64.wrap (q : Int) = (q : Int) := by go_bits; first | trivial | omega
      have hcat : ¬ 9223372036854775807 < 1 + (Tess.putW q).size := by have := Tess.putW_size q hqn; omega
      have hw8 : IntKind.u8.wrap (c : Int) = (c : Int) := by go_bits; first | trivial | omega
      clear hc hq hr
      go_enter Tryd.func33, Tryd.ntmps33
      go_wp2
      refine Flow.wp_region_flow (Flow.specs [.inl (.int .u64 n), .inl (.int .u64 r), .inl (.int .u64 c), .inl (.int .u8 c), .inr (newOne (.int .u8 c)), .inl (.string ⟨#[UInt8.ofNat c]⟩), .inl (.int .u64 n), .inl (.int .u64 q), .inl (.string (Tess.putW q)), .inl (.string (⟨#[UInt8.ofNat c]⟩ ++ Tess.putW q)), .inl (.string (⟨#[UInt8.ofNat c]⟩ ++ Tess.putW q))]) (by kernel_rfl) (by kernel_rfl) ?_ ?_
      · apply Flow.specs_mono; intro s hs; simp only [List.mem_cons, List.not_mem_nil, or_false] at hs
        rcases hs with rfl | rfl | rfl | rfl | rfl | rfl | rfl | rfl | rfl | rfl | rfl
        all_goals first | exact Flow.mono_inl _ | exact newOne_mono _
      iterate 4 (refine Flow.tree_valK rfl (fun K hK => ⟨fun w hw hG => ?_, ?_⟩); (clear hG hw; unfold Flow.Runs Flow.yields; go_simp); go_simp; refine hK _ ?_; clear hK K)
      (refine Flow.tree_varK rfl (fun K hK => ⟨fun w hw hG => ?_, ?_⟩); (clear hG hw; unfold Flow.Runs Flow.yields; go_simp; exact ⟨(Below.refl _ _).alloc (Nat.le_refl _) _, newOne_mk _ _ _⟩); intro vz; go_simp; refine hK _ _ ?_; clear hK K)
      (refine Flow.tree_valK rfl (fun K hK => ⟨fun w hw hG => ?_, ?_⟩); (obtain ⟨gz, h1, h2, h3⟩ := (show newOne (.int .u8 c) vz w by simpa [Flow.upd] using hG 4 (by simp [Flow.dep, Region.binds])); have hcv := one_conv c gz w h3 hc256; subst h1; clear hG hw h2 h3; unfold Flow.Runs Flow.yields; go_simp); go_simp; refine hK _ ?_; clear hK K)
      iterate 1 (refine Flow.tree_valK rfl (fun K hK => ⟨fun w hw hG => ?_, ?_⟩); (clear hG hw; unfold Flow.Runs Flow.yields; go_simp); go_simp; refine hK _ ?_; clear hK K)
      (refine Flow.tree_valK rfl (fun K hK => ⟨fun w hw hG => ?_, ?_⟩); (clear hG hw; unfold Flow.Runs Flow.yields; go_simp); go_simp; refine hK _ ?_; clear hK K)
      (refine Flow.tree_valK rfl (fun K hK => ⟨fun w hw hG => ?_, ?_⟩); (clear hG hw; unfold Flow.Runs Flow.yields; go_simp; exact Calls.mono (HI.out _) (fun e w' ⟨he, hb⟩ => ⟨he, hb⟩)); go_simp; refine hK _ ?_; clear hK K)
      iterate 2 (refine Flow.tree_valK rfl (fun K hK => ⟨fun w hw hG => ?_, ?_⟩); (clear hG hw; unfold Flow.Runs Flow.yields; go_simp); go_simp; refine hK _ ?_; clear hK K)
      refine Flow.tree_nil fun w' hw hG => ?_
      clear hG
      go_wp2
      go_ret
      exact ⟨by rw [HPW.out]; rfl, hw⟩
end Go.Proofs.YtpbecldgoimkmaaDoor
