/- The law FrameSums, walked. -/
import Derived.Test.YtnaljebiefmlcaaFr9
import Derived.Test.YtnaljebiefmlcaaFrP3
import Derived.OpenShut
import Derived.Deep.DeepCutAuto
import Derived.Test.YtnaljebiefmlcaaFl
namespace Go.Proofs.Ytnaljebiefmlcaa
open Go.RowKit Go.Sort

theorem infoB6 : (Try.prog.info? 5).map (fun i => (i.zero, i.size, i.bytes)) = some (some (.int .u8 0), 1, 1) := by kernel_rfl
/-- Two texts, byte by byte, by exclusive or; k of n are done. -/
def sumsRow (a b : ByteArray) (k n : Nat) : List UInt8 := Tess.bxor (a.data.toList.take k) (b.data.toList.take k) ++ List.replicate (n - k) 0

theorem sumsRow_zero (a b : ByteArray) (n : Nat) : ((sumsRow a b 0 n).map u8v).toArray = Array.replicate n (.int .u8 0) := by
  simp [sumsRow, Tess.bxor, u8v]
theorem sumsRow_get (a b : ByteArray) (k i : Nat) (h : i < (sumsRow a b k k).length) : ((sumsRow a b k k).map u8v).toArray[i]? = some (.int .u8 (((⟨(sumsRow a b k k).toArray⟩ : ByteArray).data.toList.map fun b => (b.toNat : Int))[i]'(by simpa using h))) := by
  rw [List.getElem?_toArray, List.getElem?_map, List.getElem?_eq_getElem h]
  simp [u8v]
theorem bxor_len (a b : List UInt8) (k : Nat) (ha : k ≤ a.length) (hb : k ≤ b.length) : (Tess.bxor (a.take k) (b.take k)).length = k := by
  simp [Tess.bxor]; omega
theorem sumsRow_at (a b : ByteArray) (k n : Nat) (hk : k < n) (hna : n ≤ a.size) (hnb : n ≤ b.size) : ((sumsRow a b k n).map u8v).toArray[k]? = some (.int .u8 0) := by
  have hl := bxor_len a.data.toList b.data.toList k (by rw [Tess.size_list]; omega) (by rw [Tess.size_list]; omega)
  rw [List.getElem?_toArray, List.getElem?_map, sumsRow, List.getElem?_append_right (by omega), hl, Nat.sub_self, List.getElem?_replicate, if_pos (by omega)]
  rfl
theorem sumsRow_succ (a b : ByteArray) (k n : Nat) (hk : k < n) (hna : n ≤ a.size) (hnb : n ≤ b.size) :
    ((sumsRow a b k n).map u8v).toArray.setIfInBounds k (.int .u8 ((a[k].toNat ^^^ b[k].toNat : Nat) : Int)) = ((sumsRow a b (k + 1) n).map u8v).toArray := by
  have hl := bxor_len a.data.toList b.data.toList k (by rw [Tess.size_list]; omega) (by rw [Tess.size_list]; omega)
  have e1 : sumsRow a b (k + 1) n = (sumsRow a b k n).set k (a[k] ^^^ b[k]) := by
    obtain ⟨m, hm⟩ : ∃ m, n - k = m + 1 := ⟨n - k - 1, by omega⟩
    unfold sumsRow
    rw [Tess.take_snoc a k (by omega), Tess.take_snoc b k (by omega), hm, List.replicate_succ, List.set_append_right _ _ (by omega), hl, Nat.sub_self, List.set_cons_zero, show n - (k + 1) = m by omega]
    unfold Tess.bxor at hl ⊢
    rw [List.zipWith_append (by simp; omega), List.append_assoc]
    rfl
  rw [e1, List.map_set, ← List.setIfInBounds_toArray]
  congr 1

set_option maxHeartbeats 1000000 in
theorem FrameSums_any (a b : ByteArray) (w : World) (ha : a.size ≤ maxLen) (hb : b.size ≤ maxLen) :
    Calls Try.prog 7 #[.string a, .string b] w fun e w' => e = .returned (.bool true) ∧ Below w.heap.size w w' := by
  unfold maxLen at ha hb
  obtain ⟨i0, hi, hz0, hz1, hz2⟩ := info_parts infoB6
  go_enter Try.func7, Try.ntmps7
  go_upto_region 2 with (go_at_call 10; refine (shown_any _).mono ?_; rintro e w1 ⟨rfl, hB1⟩)
  go_cut [6] (fun v w' => ∃ n : Nat, n ≤ a.size ∧ n ≤ b.size ∧ n ≤ 500 ∧ v = .int .i64 n ∧ w' = w1)
  case first =>
    go_wp2
    all_goals
      go_meet
      case rel => first | exact ⟨500, by omega, by omega, by omega, rfl, rfl⟩ | exact ⟨b.size, by omega, by omega, by omega, rfl, rfl⟩ | exact ⟨a.size, by omega, by omega, by omega, rfl, rfl⟩
  case rest =>
    obtain ⟨n, hna, hnb, hn5, rfl, rfl⟩ := hcut
    go_wp2_with (at_make; refine wpList_make_row _ _ 32 rfl 5 i0 (.int .u8 0) Try.underlying32 hi hz0 hz1 rfl .i64 .i64 n rfl rfl (by rw [hz2]; omega) (by unfold maxLen; omega) ?_; intro w2 hB2 hlt hrow; have HROW := Lib.hid hrow; clear hrow)
    have hB12 := Lib.hid (Bt hB1 hB2)
    have hge : w.heap.size ≤ wc.heap.size := hB1.size
    generalize wc.heap.size = g at *
    clear hB1 hB2
    go_loopw [8] (fun i wr => ∃ k : Nat, k ≤ n ∧ i = .int .i64 k ∧ wr.heap[g]? = some (.cells ((sumsRow a b k n).map u8v).toArray 5 (0, 0)) ∧ Below w.heap.size w wr) (fun i _ => n - (intOf i).toNat)
    case atStart => exact ⟨0, Nat.zero_le _, rfl, by rw [sumsRow_zero]; exact HROW.out, hB12.out⟩
    case round =>
      obtain ⟨k, hk, rfl, hrow, hB⟩ := hrel
      have HR := Lib.hid hrow
      have HB := Lib.hid hB
      clear hrow hB
      by_cases hkn : k < n
      · have hc : wr.cell? ⟨g, k, none⟩ = some (.int .u8 0) := (cell_of_row _ _ _ _ _ _ HR.out).trans (sumsRow_at a b k n hkn hna hnb)
        have hf := frozen_of_row wr g k _ _ HR.out
        have hka : (k : Int) < (a.size : Int) := by omega
        have hkb : (k : Int) < (b.size : Int) := by omega
        have hxa := a[k].toNat_lt
        have hxb := b[k].toNat_lt
        have ex := u8_xor_nat a[k].toNat b[k].toNat (by omega) (by omega)
        have HS := Lib.hid (sumsRow_succ a b k n hkn hna hnb)
        go_wp2
        go_region
        go_wp2
        go_roundw
        case rel => exact ⟨k + 1, by omega, by go_num, by rw [← HS.out]; exact heap_setCell_same _ _ _ _ _ _ HR.out, HB.out.drew.setCell hge _⟩
        case measure => simp [intOf]; omega
      · obtain rfl : k = n := by omega
        obtain ⟨X, hX⟩ : ∃ X : ByteArray, X = ⟨(sumsRow a b k k).toArray⟩ := ⟨_, rfl⟩
        obtain ⟨Z, hZ⟩ : ∃ Z : ByteArray, Z = ⟨(List.replicate k (0 : UInt8)).toArray⟩ := ⟨_, rfl⟩
        have hlx := bxor_len a.data.toList b.data.toList k (by rw [Tess.size_list]; omega) (by rw [Tess.size_list]; omega)
        have hXs : X.data.toList.length = k := by rw [hX]; simp [sumsRow, hlx]
        have hZs : Z.data.toList.length = k := by rw [hZ]; simp
        have cA := fun W => sum_any (a.extract 0 k) W (by unfold maxLen; rw [ByteArray.size_extract]; omega)
        have cB := fun W => sum_any (b.extract 0 k) W (by unfold maxLen; rw [ByteArray.size_extract]; omega)
        have cZ := fun W => sum_any Z W (by unfold maxLen; rw [← Tess.size_list, hZs]; omega)
        have cX := fun W => sum_any X W (by unfold maxLen; rw [← Tess.size_list, hXs]; omega)
        have hsum : Tess.csum (a.extract 0 k).data.toList ^^^ Tess.csum (b.extract 0 k).data.toList ^^^ Tess.csum Z.data.toList = Tess.csum X.data.toList := by
          rw [Tess.ext_list, Tess.ext_list, List.drop_zero, List.drop_zero, Nat.sub_zero]
          have := Tess.csum_xor3 (a.data.toList.take k) (b.data.toList.take k) Z.data.toList (by simp; omega) (by rw [hZ]; simp; omega)
          rw [this, hX]; simp [sumsRow]
        have lA := Tess.csum_lt (a.extract 0 k).data.toList
        have lB := Tess.csum_lt (b.extract 0 k).data.toList
        have lZ := Tess.csum_lt Z.data.toList
        generalize Tess.csum (a.extract 0 k).data.toList = A at *
        generalize Tess.csum (b.extract 0 k).data.toList = B at *
        generalize Tess.csum Z.data.toList = C at *
        generalize Tess.csum X.data.toList = D at *
        have e1 := u32_xor_nat A B lA lB
        have e2 := u32_xor_nat (A ^^^ B) C (Tess.xor_lt _ _ lA lB) lZ
        rw [hsum] at e2
        have CA := Lib.hid cA
        have CB := Lib.hid cB
        have CZ := Lib.hid cZ
        have CX := Lib.hid cX
        have HX := Lib.hid hX
        have HZ := Lib.hid hZ
        have HXS := Lib.hid hXs
        have HZS := Lib.hid hZs
        clear cA cB cZ cX hX hZ hXs hZs hsum HROW hB12 hlt hlx
        go_wp2
        clear lA lB lZ
        let V : Value → World → Prop := fun v W => ∃ gz, v = .slice (some ⟨gz, 0, none⟩) k k ∧ W.heap[gz]? = some (.cells (Array.replicate k (.int .u8 0)) 5 (0, 0))
        refine Flow.wp_region_flow (Flow.specs [.inl (.bool true), .inl (.bool true), .inl (.string a), .inl (.int .i64 k), .inl (.string (a.extract 0 k)), .inl (.int .u32 A), .inl (.string b), .inl (.int .i64 k), .inl (.string (b.extract 0 k)), .inl (.int .u32 B), .inl (.int .u32 (A ^^^ B : Nat)),
          .inl (.int .i64 k), .inr V, .inl (.string Z), .inl (.int .u32 C), .inl (.int .u32 D), .inl (.slice (some ⟨g, 0, none⟩) k k), .inl (.string X), .inl (.int .u32 D), .inl (.bool true), .inl (.bool true), .inl (.bool true)]) (by kernel_rfl) (by kernel_rfl) ?_ ?_
        · apply Flow.specs_mono
          intro s hs
          simp only [List.mem_cons, List.not_mem_nil, or_false] at hs
          rcases hs with rfl | rfl | rfl | rfl | rfl | rfl | rfl | rfl | rfl | rfl | rfl | rfl | rfl | rfl | rfl | rfl | rfl | rfl | rfl | rfl | rfl | rfl
          all_goals first | exact Flow.mono_inl _ | exact fun v w w' ⟨gz, h1, h2⟩ hb => ⟨gz, h1, (hb.block gz (Array.getElem?_eq_some_iff.1 h2).1).trans h2⟩
        · skip
          iterate 5 (refine Flow.tree_valK rfl (fun K hK => ⟨fun w hw hG => ?_, ?_⟩); (clear hG hw; unfold Flow.Runs Flow.yields; go_simp); go_simp; refine hK _ ?_; clear hK K)
          (refine Flow.tree_valK rfl (fun K hK => ⟨fun w hw hG => ?_, ?_⟩); (clear hG hw; unfold Flow.Runs Flow.yields; go_simp; exact CA.out _); go_simp; refine hK _ ?_; clear hK K)
          iterate 3 (refine Flow.tree_valK rfl (fun K hK => ⟨fun w hw hG => ?_, ?_⟩); (clear hG hw; unfold Flow.Runs Flow.yields; go_simp); go_simp; refine hK _ ?_; clear hK K)
          (refine Flow.tree_valK rfl (fun K hK => ⟨fun w hw hG => ?_, ?_⟩); (clear hG hw; unfold Flow.Runs Flow.yields; go_simp; exact CB.out _); go_simp; refine hK _ ?_; clear hK K)
          iterate 2 (refine Flow.tree_valK rfl (fun K hK => ⟨fun w hw hG => ?_, ?_⟩); (clear hG hw; unfold Flow.Runs Flow.yields; go_simp); go_simp; refine hK _ ?_; clear hK K)
          (refine Flow.tree_varK rfl (fun K hK => ⟨fun w hw hG => ?_, ?_⟩); (exact Flow.flow_make_row _ _ 32 rfl 5 i0 (.int .u8 0) Try.underlying32 hi hz0 hz1 rfl .i64 .i64 k rfl rfl (by rw [hz2]; omega) (by unfold maxLen; omega) (by simp [Region.wanted, yielded]; done) (fun g w1 h => ⟨g, rfl, h⟩)); intro vz; go_simp; refine hK _ _ ?_; clear hK K)
          (refine Flow.tree_valK rfl (fun K hK => ⟨fun w hw hG => ?_, ?_⟩); (obtain ⟨gz, h1, h2⟩ := (show V vz w by simpa [Flow.upd] using hG 12 (by simp [Flow.dep, Region.binds])); exact Flow.flow_bytes_string _ _ 5 (.tmp 44) rfl Try.underlying32 Try.underlying5 Try.underlying9 gz 0 k k (by exact h1) Z HZS.out (fun i hi => by rw [cell_of_row _ _ _ _ _ _ h2, HZ.out, Nat.zero_add, getD_at _ (by simpa using hi)]; simp [hi]) (by simp [Region.wanted, yielded]; done)); go_simp; refine hK _ ?_; clear hK K)
          (refine Flow.tree_valK rfl (fun K hK => ⟨fun w hw hG => ?_, ?_⟩); (clear hG hw; unfold Flow.Runs Flow.yields; go_simp; exact CZ.out _); go_simp; refine hK _ ?_; clear hK K)
          iterate 2 (refine Flow.tree_valK rfl (fun K hK => ⟨fun w hw hG => ?_, ?_⟩); (clear hG hw; unfold Flow.Runs Flow.yields; go_simp); go_simp; refine hK _ ?_; clear hK K)
          (refine Flow.tree_valK rfl (fun K hK => ⟨fun w hw hG => ?_, ?_⟩); (exact Flow.flow_bytes_string _ _ 5 _ rfl Try.underlying32 Try.underlying5 Try.underlying9 g 0 k k rfl X HXS.out (fun i hi => by rw [hw.cell (p := ⟨g, 0 + i, none⟩) (by have := (Array.getElem?_eq_some_iff.1 HR.out).1; simpa using this), cell_of_row _ _ _ _ _ _ HR.out, HX.out, Nat.zero_add, getD_at _ (by have := HXS.out; rw [HX.out] at this; simp at this; simp [this, hi])]; exact sumsRow_get a b k i (by have h9 : (sumsRow a b k k).length = k := by { have := HXS.out; rw [HX.out] at this; simpa using this }; rw [h9]; exact hi)) (by simp [Region.wanted, yielded]; done)); go_simp; refine hK _ ?_; clear hK K)
          (refine Flow.tree_valK rfl (fun K hK => ⟨fun w hw hG => ?_, ?_⟩); (clear hG hw; unfold Flow.Runs Flow.yields; go_simp; exact CX.out _); go_simp; refine hK _ ?_; clear hK K)
          iterate 3 (refine Flow.tree_valK rfl (fun K hK => ⟨fun w hw hG => ?_, ?_⟩); (clear hG hw; unfold Flow.Runs Flow.yields; go_simp); go_simp; refine hK _ ?_; clear hK K)
          refine Flow.tree_nil fun w' hw hG => ?_
          clear hG
          go_wp2
          go_ret
          exact ⟨rfl, Bt HB.out hw⟩
end Go.Proofs.Ytnaljebiefmlcaa
