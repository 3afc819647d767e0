/- The law's few words. -/
import Derived.Test.YtpbecldgoimkmaaDoorRows
import Derived.Test.YtpbecldgoimkmaaDoorFl
namespace Go.Proofs.YtpbecldgoimkmaaDoor
open Go.RowKit Go.Sort

theorem infoStr : (Tryd.prog.info? 9).map (fun i => (i.zero, i.size, i.bytes)) = some (some (.string ByteArray.empty), 1, 16) := by kernel_rfl

def cut110 (s : ByteArray) : ByteArray := s.extract 0 110
theorem cut110_size (s : ByteArray) : (cut110 s).size ≤ 110 := by simp [cut110]; omega
theorem cut110_self (s : ByteArray) (h : s.size ≤ 110) : cut110 s = s := by
  apply ByteArray.ext
  have : s.data.size ≤ 110 := h
  simp [cut110]; omega
def fewN (n : Nat) (l : List ByteArray) : List ByteArray := (l.take n).map cut110
def fewV (l : List ByteArray) (k : Nat) : List Value := ((l.take k).map cut110).map .string
theorem few_snoc (l : List ByteArray) (k : Nat) (h : k < l.length) (x : ByteArray) (hx : cut110 l[k] = x) : fewV l k ++ [.string x] = fewV l (k + 1) := by
  unfold fewV
  rw [List.take_succ_eq_append_getElem h, ← hx, List.map_append, List.map_append]; rfl
theorem few_end (n : Nat) (l : List ByteArray) (k : Nat) (h : ¬ (k < l.length ∧ k < n)) (h1 : k ≤ l.length) (h2 : k ≤ n) : fewV l k = (fewN n l).map .string := by
  unfold fewN fewV
  by_cases e : k = n
  · rw [e]
  · rw [List.take_of_length_le (by omega), List.take_of_length_le (by omega)]

set_option maxHeartbeats 1000000 in
theorem few_any (v : Value) (n : Nat) (l : List ByteArray) (w : World) (hn : n ≤ 1000) (hv : SlOf w v (l.map .string)) (hs : ∀ s ∈ l, s.size ≤ maxLen) :
    Calls Tryd.prog 11 #[v, .int .i64 n] w fun e w' => ∃ v', e = .returned v' ∧ SlOf w' v' ((fewN n l).map .string) ∧ Below w.heap.size w w' := by
  obtain ⟨a, cap, rfl, hl, hc⟩ := sls_open hv
  have HC := Lib.hid hc
  have HS := Lib.hid hs
  clear hc hs hv
  obtain ⟨i0, hi, hz0, hz1, hz2⟩ := info_parts infoStr
  go_enter Tryd.func11, Tryd.ntmps11
  go_wp2
  go_loopw [5, 6] (fun v i wr => ∃ k : Nat, k ≤ l.length ∧ k ≤ n ∧ i = .int .i64 k ∧ wr.ownsRow w.heap.size 9 1 v k (fewV l k) ∧ Below w.heap.size w wr) (fun _ i _ => n - (intOf i).toNat)
  case atStart => exact ⟨0, Nat.zero_le _, Nat.zero_le _, rfl, by simpa [fewV] using World.ownsRow_nil w w.heap.size 9 1, Below.refl _ _⟩
  case round =>
    obtain ⟨k, hk, hkn, rfl, hown, hB⟩ := hrel
    by_cases hlt : k < l.length ∧ k < n
    · obtain ⟨h1, h2⟩ := hlt
      obtain ⟨b, off, rfl, hb, hcell⟩ := HC.out k h1
      have hck : wr.cell? ⟨b, off + k, none⟩ = some (.string l[k]) := (hB.cell (p := ⟨b, off + k, none⟩) hb).trans hcell
      have hsz : l[k].size ≤ 9223372036854775807 := HS.out _ (List.getElem_mem h1)
      have HO := Lib.hid hown
      have HB := Lib.hid hB
      clear hown hB hcell
      go_wp2
      have hbw : b < wr.heap.size := Nat.lt_of_lt_of_le hb HB.out.size
      by_cases h110 : l[k].size ≤ 110
      · have h3i : ¬ (110 : Int) < (l[k].size : Int) := by omega
        have h3j : (l[k].size : Int) ≤ 110 := by omega
        refine Flow.wp_region_flow_tail 13 (Flow.specs [.inl u5, .inl (.slice (some ⟨b, off, none⟩) l.length cap), .inl (.int .i64 k), .inl (.pointer (some ⟨b, off + k, none⟩)), .inl (.string l[k]), .inl (.slice (some ⟨b, off, none⟩) l.length cap), .inl (.int .i64 k), .inl (.pointer (some ⟨b, off + k, none⟩)), .inl (.string l[k]), .inl (.int .i64 l[k].size), .inl (.int .i64 (l[k].size : Nat)), .inl (.string l[k]), .inr (newOne (.string l[k]))]) (by kernel_rfl) (by kernel_rfl) ?_ ?_
        · apply Flow.specs_mono; intro s hs; simp only [List.mem_cons, List.not_mem_nil, or_false] at hs
          rcases hs with rfl | rfl | rfl | rfl | rfl | rfl | rfl | rfl | rfl | rfl | rfl | rfl | rfl
          all_goals first | exact Flow.mono_inl _ | exact newOne_mono _
        iterate 4 (refine Flow.tree_valK rfl (fun K hK => ⟨fun w hw hG => ?_, ?_⟩); (clear hG hw; unfold Flow.Runs Flow.yields; go_simp); go_simp; refine hK _ ?_; clear hK K)
        (refine Flow.tree_valK rfl (fun K hK => ⟨fun w hw hG => ?_, ?_⟩); (have hcw := (hw.cell (p := ⟨b, off + k, none⟩) hbw).trans hck; clear hG hw; unfold Flow.Runs Flow.yields; go_simp); go_simp; refine hK _ ?_; clear hK K)
        iterate 3 (refine Flow.tree_valK rfl (fun K hK => ⟨fun w hw hG => ?_, ?_⟩); (clear hG hw; unfold Flow.Runs Flow.yields; go_simp); go_simp; refine hK _ ?_; clear hK K)
        (refine Flow.tree_valK rfl (fun K hK => ⟨fun w hw hG => ?_, ?_⟩); (have hcw := (hw.cell (p := ⟨b, off + k, none⟩) hbw).trans hck; clear hG hw; unfold Flow.Runs Flow.yields; go_simp); go_simp; refine hK _ ?_; clear hK K)
        iterate 3 (refine Flow.tree_valK rfl (fun K hK => ⟨fun w hw hG => ?_, ?_⟩); (clear hG hw; unfold Flow.Runs Flow.yields; go_simp); go_simp; refine hK _ ?_; clear hK K)
        (refine Flow.tree_varK rfl (fun K hK => ⟨fun w hw hG => ?_, ?_⟩); (clear hG hw; unfold Flow.Runs Flow.yields; go_simp; exact ⟨(Below.refl _ _).alloc (Nat.le_refl _) _, newOne_mk _ _ _⟩); intro vz; go_simp; refine hK _ _ ?_; clear hK K)
        refine Flow.tree_nil fun w2 hw2 hG => ?_
        obtain ⟨gn, rfl, hgn, hcn⟩ := (show newOne (.string l[k]) vz w2 by simpa [Flow.upd] using hG 12)
        clear hG
        have HO2 := Lib.hid (owns_below HO.out hw2)
        have hB2 := HB.out.trans (hw2.mono HB.out.size)
        have HE := Lib.hid (few_snoc l k h1 l[k] (by rw [cut110_self _ h110]))
        simp only [List.drop_succ_cons, List.drop_zero]
        go_wp2_with (at_builtin; refine wpList_append_own _ rfl _ _ 22 rfl w.heap.size 9 i0 (.string ByteArray.empty) 1 16 Tryd.underlying22 hi hz0 hz1 hz2 rfl (by decide) _ _ _ rfl HO2.out ⟨gn, 0, none⟩ 1 1 [.string l[k]] rfl rfl ?_ ?_ ?_ ?_ ?_ ?_)
        · intro j u hj; rcases j with _ | j <;> simp at hj; subst hj; simpa [Addr.add] using hcn
        · simp [Value.oneCell']
        · unfold maxLen; omega
        · omega
        · exact hB2.size
        intro v' w3 hown3 hgrow _
        have hB3 : Below w.heap.size w w3 := hB2.grown hgrow hB2.size (fun j e => (HO2.out.lt j e).1)
        have HO3 := Lib.hid (joinl_owned hown3 HE.out)
        have HB3 := Lib.hid hB3
        clear hown3 hgrow hB3 hB2
        go_wp2
        go_roundw
        case rel => exact ⟨k + 1, by omega, by omega, by go_num, HO3.out, HB3.out⟩
        case measure => simp [intOf]; omega
      · have h3i : (110 : Int) < (l[k].size : Int) := by omega
        have h3j : ¬ (l[k].size : Int) ≤ 110 ∧ (110 : Int) ≤ (l[k].size : Int) := by omega
        refine Flow.wp_region_flow_tail 13 (Flow.specs [.inl u5, .inl (.slice (some ⟨b, off, none⟩) l.length cap), .inl (.int .i64 k), .inl (.pointer (some ⟨b, off + k, none⟩)), .inl (.string l[k]), .inl (.slice (some ⟨b, off, none⟩) l.length cap), .inl (.int .i64 k), .inl (.pointer (some ⟨b, off + k, none⟩)), .inl (.string l[k]), .inl (.int .i64 l[k].size), .inl (.int .i64 (110 : Nat)), .inl (.string (l[k].extract 0 110)), .inr (newOne (.string (l[k].extract 0 110)))]) (by kernel_rfl) (by kernel_rfl) ?_ ?_
        · apply Flow.specs_mono; intro s hs; simp only [List.mem_cons, List.not_mem_nil, or_false] at hs
          rcases hs with rfl | rfl | rfl | rfl | rfl | rfl | rfl | rfl | rfl | rfl | rfl | rfl | rfl
          all_goals first | exact Flow.mono_inl _ | exact newOne_mono _
        iterate 4 (refine Flow.tree_valK rfl (fun K hK => ⟨fun w hw hG => ?_, ?_⟩); (clear hG hw; unfold Flow.Runs Flow.yields; go_simp); go_simp; refine hK _ ?_; clear hK K)
        (refine Flow.tree_valK rfl (fun K hK => ⟨fun w hw hG => ?_, ?_⟩); (have hcw := (hw.cell (p := ⟨b, off + k, none⟩) hbw).trans hck; clear hG hw; unfold Flow.Runs Flow.yields; go_simp); go_simp; refine hK _ ?_; clear hK K)
        iterate 3 (refine Flow.tree_valK rfl (fun K hK => ⟨fun w hw hG => ?_, ?_⟩); (clear hG hw; unfold Flow.Runs Flow.yields; go_simp); go_simp; refine hK _ ?_; clear hK K)
        (refine Flow.tree_valK rfl (fun K hK => ⟨fun w hw hG => ?_, ?_⟩); (have hcw := (hw.cell (p := ⟨b, off + k, none⟩) hbw).trans hck; clear hG hw; unfold Flow.Runs Flow.yields; go_simp); go_simp; refine hK _ ?_; clear hK K)
        iterate 3 (refine Flow.tree_valK rfl (fun K hK => ⟨fun w hw hG => ?_, ?_⟩); (clear hG hw; unfold Flow.Runs Flow.yields; go_simp); go_simp; refine hK _ ?_; clear hK K)
        (refine Flow.tree_varK rfl (fun K hK => ⟨fun w hw hG => ?_, ?_⟩); (clear hG hw; unfold Flow.Runs Flow.yields; go_simp; exact ⟨(Below.refl _ _).alloc (Nat.le_refl _) _, newOne_mk _ _ _⟩); intro vz; go_simp; refine hK _ _ ?_; clear hK K)
        refine Flow.tree_nil fun w2 hw2 hG => ?_
        obtain ⟨gn, rfl, hgn, hcn⟩ := (show newOne (.string (l[k].extract 0 110)) vz w2 by simpa [Flow.upd] using hG 12)
        clear hG
        have HO2 := Lib.hid (owns_below HO.out hw2)
        have hB2 := HB.out.trans (hw2.mono HB.out.size)
        have HE := Lib.hid (few_snoc l k h1 (l[k].extract 0 110) (by rfl))
        simp only [List.drop_succ_cons, List.drop_zero]
        go_wp2_with (at_builtin; refine wpList_append_own _ rfl _ _ 22 rfl w.heap.size 9 i0 (.string ByteArray.empty) 1 16 Tryd.underlying22 hi hz0 hz1 hz2 rfl (by decide) _ _ _ rfl HO2.out ⟨gn, 0, none⟩ 1 1 [.string (l[k].extract 0 110)] rfl rfl ?_ ?_ ?_ ?_ ?_ ?_)
        · intro j u hj; rcases j with _ | j <;> simp at hj; subst hj; simpa [Addr.add] using hcn
        · simp [Value.oneCell']
        · unfold maxLen; omega
        · omega
        · exact hB2.size
        intro v' w3 hown3 hgrow _
        have hB3 : Below w.heap.size w w3 := hB2.grown hgrow hB2.size (fun j e => (HO2.out.lt j e).1)
        have HO3 := Lib.hid (joinl_owned hown3 HE.out)
        have HB3 := Lib.hid hB3
        clear hown3 hgrow hB3 hB2
        go_wp2
        go_roundw
        case rel => exact ⟨k + 1, by omega, by omega, by go_num, HO3.out, HB3.out⟩
        case measure => simp [intOf]; omega
    · have HE := Lib.hid (few_end n l k (by omega) hk hkn)
      rw [HE.out] at hown
      have HO := Lib.hid (SlOf.owned hown)
      have HB := Lib.hid hB
      clear hown hB
      by_cases hkl : k < l.length
      · have hni : ¬ (k : Int) < (n : Int) := by omega
        have hkl' : (k : Int) < (l.length : Int) := by omega
        clear hlt
        go_wp2
        go_ret
        exact ⟨_, rfl, HO.out, HB.out⟩
      · have hni : ¬ (k : Int) < (l.length : Int) := by omega
        clear hlt
        go_wp2
        go_ret
        exact ⟨_, rfl, HO.out, HB.out⟩
end Go.Proofs.YtpbecldgoimkmaaDoor
