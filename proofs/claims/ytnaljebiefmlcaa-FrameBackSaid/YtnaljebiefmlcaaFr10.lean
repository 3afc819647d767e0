/- The law's few texts; two lists held against each other; frames joined. -/
import Derived.Test.YtnaljebiefmlcaaFr9
import Derived.Test.YtnaljebiefmlcaaFrP4
import Derived.Test.YtnaljebiefmlcaaFl
namespace Go.Proofs.Ytnaljebiefmlcaa
open Go.RowKit Go.Sort

theorem infoStr : (Try.prog.info? 9).map (fun i => (i.zero, i.size, i.bytes)) = some (some (.string ByteArray.empty), 1, 16) := by kernel_rfl

def fewV (l : List ByteArray) (k : Nat) : List Value := ((l.take k).map Tess.cut300).map .string
theorem few_snoc (l : List ByteArray) (k : Nat) (h : k < l.length) (x : ByteArray) (hx : Tess.cut300 l[k] = x) : fewV l k ++ [.string x] = fewV l (k + 1) := by
  unfold fewV
  rw [List.take_succ_eq_append_getElem h, ← hx, List.map_append, List.map_append]; rfl
theorem few_end (l : List ByteArray) (k : Nat) (h : ¬ (k < l.length ∧ k < 20)) (h1 : k ≤ l.length) (h2 : k ≤ 20) : fewV l k = (Tess.fewL l).map .string := by
  unfold Tess.fewL fewV
  by_cases e : k = 20
  · rw [e]
  · rw [List.take_of_length_le (by omega), List.take_of_length_le (by omega)]

set_option maxHeartbeats 1000000 in
theorem few_any (v : Value) (l : List ByteArray) (w : World) (hv : SlOf w v (l.map .string)) (hs : ∀ s ∈ l, s.size ≤ maxLen) :
    Calls Try.prog 19 #[v] w fun e w' => ∃ v', e = .returned v' ∧ SlOf w' v' ((Tess.fewL l).map .string) ∧ Below w.heap.size w w' := by
  obtain ⟨a, cap, rfl, hl, hc⟩ := sls_open hv
  have HC := Lib.hid hc
  have HS := Lib.hid hs
  clear hc hs hv
  obtain ⟨i0, hi, hz0, hz1, hz2⟩ := info_parts infoStr
  go_enter Try.func19, Try.ntmps19
  go_wp2
  go_loopw [3, 4] (fun v i wr => ∃ k : Nat, k ≤ l.length ∧ k ≤ 20 ∧ i = .int .i64 k ∧ wr.ownsRow w.heap.size 9 1 v k (fewV l k) ∧ Below w.heap.size w wr) (fun _ i _ => 20 - (intOf i).toNat)
  case atStart => exact ⟨0, Nat.zero_le _, Nat.zero_le _, rfl, by simpa [fewV] using World.ownsRow_nil w w.heap.size 9 1, Below.refl _ _⟩
  case round =>
    obtain ⟨k, hk, hk20, rfl, hown, hB⟩ := hrel
    by_cases hlt : k < l.length ∧ k < 20
    · obtain ⟨h1, h2⟩ := hlt
      obtain ⟨b, off, rfl, hb, hcell⟩ := HC.out k h1
      have hck : wr.cell? ⟨b, off + k, none⟩ = some (.string l[k]) := (hB.cell (p := ⟨b, off + k, none⟩) hb).trans hcell
      have hsz : l[k].size ≤ 9223372036854775807 := HS.out _ (List.getElem_mem h1)
      have HO := Lib.hid hown
      have HB := Lib.hid hB
      clear hown hB hcell
      go_wp2
      have hbw : b < wr.heap.size := Nat.lt_of_lt_of_le hb HB.out.size
      by_cases h300 : l[k].size ≤ 300
      · have h3i : ¬ (300 : Int) < (l[k].size : Int) := by omega
        have h3j : (l[k].size : Int) ≤ 300 := by omega
        refine Flow.wp_region_flow_tail 13 (Flow.specs [.inl u3, .inl (.slice (some ⟨b, off, none⟩) l.length cap), .inl (.int .i64 k), .inl (.pointer (some ⟨b, off + k, none⟩)), .inl (.string l[k]), .inl (.slice (some ⟨b, off, none⟩) l.length cap), .inl (.int .i64 k), .inl (.pointer (some ⟨b, off + k, none⟩)), .inl (.string l[k]), .inl (.int .i64 l[k].size), .inl (.int .i64 (l[k].size : Nat)), .inl (.string l[k]), .inr (newOne (.string l[k]))]) (by kernel_rfl) (by kernel_rfl) ?_ ?_
        · apply Flow.specs_mono; intro s hs; simp only [List.mem_cons, List.not_mem_nil, or_false] at hs
          rcases hs with rfl | rfl | rfl | rfl | rfl | rfl | rfl | rfl | rfl | rfl | rfl | rfl | rfl
          all_goals first | exact Flow.mono_inl _ | exact newOne_mono _
        iterate 4 (refine Flow.tree_valK rfl (fun K hK => ⟨fun w hw hG => ?_, ?_⟩); (clear hG hw; unfold Flow.Runs Flow.yields; go_simp); go_simp; refine hK _ ?_; clear hK K)
        (refine Flow.tree_valK rfl (fun K hK => ⟨fun w hw hG => ?_, ?_⟩); (have hcw := (hw.cell (p := ⟨b, off + k, none⟩) hbw).trans hck; clear hG hw; unfold Flow.Runs Flow.yields; go_simp); go_simp; refine hK _ ?_; clear hK K)
        iterate 3 (refine Flow.tree_valK rfl (fun K hK => ⟨fun w hw hG => ?_, ?_⟩); (clear hG hw; unfold Flow.Runs Flow.yields; go_simp); go_simp; refine hK _ ?_; clear hK K)
        (refine Flow.tree_valK rfl (fun K hK => ⟨fun w hw hG => ?_, ?_⟩); (have hcw := (hw.cell (p := ⟨b, off + k, none⟩) hbw).trans hck; clear hG hw; unfold Flow.Runs Flow.yields; go_simp); go_simp; refine hK _ ?_; clear hK K)
        iterate 3 (refine Flow.tree_valK rfl (fun K hK => ⟨fun w hw hG => ?_, ?_⟩); (clear hG hw; unfold Flow.Runs Flow.yields; go_simp); go_simp; refine hK _ ?_; clear hK K)
        (refine Flow.tree_varK rfl (fun K hK => ⟨fun w hw hG => ?_, ?_⟩); (clear hG hw; unfold Flow.Runs Flow.yields; go_simp; exact ⟨(Below.refl _ _).alloc (Nat.le_refl _) _, newOne_mk _ _ _⟩); intro vz; go_simp; refine hK _ _ ?_; clear hK K)
        refine Flow.tree_nil fun w2 hw2 hG => ?_
        obtain ⟨gn, rfl, hgn, hcn⟩ := (show newOne (.string l[k]) vz w2 by simpa [Flow.upd] using hG 12)
        clear hG
        have HO2 := Lib.hid (owns_below HO.out hw2)
        have hB2 := HB.out.trans (hw2.mono HB.out.size)
        have HE := Lib.hid (few_snoc l k h1 l[k] (by rw [Tess.cut300_self _ h300]))
        simp only [List.drop_succ_cons, List.drop_zero]
        go_wp2_with (at_builtin; refine wpList_append_own _ rfl _ _ 38 rfl w.heap.size 9 i0 (.string ByteArray.empty) 1 16 Try.underlying38 hi hz0 hz1 hz2 rfl (by decide) _ _ _ rfl HO2.out ⟨gn, 0, none⟩ 1 1 [.string l[k]] rfl rfl ?_ ?_ ?_ ?_ ?_ ?_)
        · intro j u hj; rcases j with _ | j <;> simp at hj; subst hj; simpa [Addr.add] using hcn
        · simp [Value.oneCell']
        · unfold maxLen; omega
        · omega
        · exact hB2.size
        intro v' w3 hown3 hgrow _
        have hB3 : Below w.heap.size w w3 := hB2.grown hgrow hB2.size (fun j e => (HO2.out.lt j e).1)
        have HO3 := Lib.hid (joinl_owned hown3 HE.out)
        have HB3 := Lib.hid hB3
        clear hown3 hgrow hB3 hB2
        go_wp2
        go_roundw
        case rel => exact ⟨k + 1, by omega, by omega, by go_num, HO3.out, HB3.out⟩
        case measure => simp [intOf]; omega
      · have h3i : (300 : Int) < (l[k].size : Int) := by omega
        have h3j : ¬ (l[k].size : Int) ≤ 300 ∧ (300 : Int) ≤ (l[k].size : Int) := by omega
        refine Flow.wp_region_flow_tail 13 (Flow.specs [.inl u3, .inl (.slice (some ⟨b, off, none⟩) l.length cap), .inl (.int .i64 k), .inl (.pointer (some ⟨b, off + k, none⟩)), .inl (.string l[k]), .inl (.slice (some ⟨b, off, none⟩) l.length cap), .inl (.int .i64 k), .inl (.pointer (some ⟨b, off + k, none⟩)), .inl (.string l[k]), .inl (.int .i64 l[k].size), .inl (.int .i64 (300 : Nat)), .inl (.string (l[k].extract 0 300)), .inr (newOne (.string (l[k].extract 0 300)))]) (by kernel_rfl) (by kernel_rfl) ?_ ?_
        · apply Flow.specs_mono; intro s hs; simp only [List.mem_cons, List.not_mem_nil, or_false] at hs
          rcases hs with rfl | rfl | rfl | rfl | rfl | rfl | rfl | rfl | rfl | rfl | rfl | rfl | rfl
          all_goals first | exact Flow.mono_inl _ | exact newOne_mono _
        iterate 4 (refine Flow.tree_valK rfl (fun K hK => ⟨fun w hw hG => ?_, ?_⟩); (clear hG hw; unfold Flow.Runs Flow.yields; go_simp); go_simp; refine hK _ ?_; clear hK K)
        (refine Flow.tree_valK rfl (fun K hK => ⟨fun w hw hG => ?_, ?_⟩); (have hcw := (hw.cell (p := ⟨b, off + k, none⟩) hbw).trans hck; clear hG hw; unfold Flow.Runs Flow.yields; go_simp); go_simp; refine hK _ ?_; clear hK K)
        iterate 3 (refine Flow.tree_valK rfl (fun K hK => ⟨fun w hw hG => ?_, ?_⟩); (clear hG hw; unfold Flow.Runs Flow.yields; go_simp); go_simp; refine hK _ ?_; clear hK K)
        (refine Flow.tree_valK rfl (fun K hK => ⟨fun w hw hG => ?_, ?_⟩); (have hcw := (hw.cell (p := ⟨b, off + k, none⟩) hbw).trans hck; clear hG hw; unfold Flow.Runs Flow.yields; go_simp); go_simp; refine hK _ ?_; clear hK K)
        iterate 3 (refine Flow.tree_valK rfl (fun K hK => ⟨fun w hw hG => ?_, ?_⟩); (clear hG hw; unfold Flow.Runs Flow.yields; go_simp); go_simp; refine hK _ ?_; clear hK K)
        (refine Flow.tree_varK rfl (fun K hK => ⟨fun w hw hG => ?_, ?_⟩); (clear hG hw; unfold Flow.Runs Flow.yields; go_simp; exact ⟨(Below.refl _ _).alloc (Nat.le_refl _) _, newOne_mk _ _ _⟩); intro vz; go_simp; refine hK _ _ ?_; clear hK K)
        refine Flow.tree_nil fun w2 hw2 hG => ?_
        obtain ⟨gn, rfl, hgn, hcn⟩ := (show newOne (.string (l[k].extract 0 300)) vz w2 by simpa [Flow.upd] using hG 12)
        clear hG
        have HO2 := Lib.hid (owns_below HO.out hw2)
        have hB2 := HB.out.trans (hw2.mono HB.out.size)
        have HE := Lib.hid (few_snoc l k h1 (l[k].extract 0 300) (by rfl))
        simp only [List.drop_succ_cons, List.drop_zero]
        go_wp2_with (at_builtin; refine wpList_append_own _ rfl _ _ 38 rfl w.heap.size 9 i0 (.string ByteArray.empty) 1 16 Try.underlying38 hi hz0 hz1 hz2 rfl (by decide) _ _ _ rfl HO2.out ⟨gn, 0, none⟩ 1 1 [.string (l[k].extract 0 300)] rfl rfl ?_ ?_ ?_ ?_ ?_ ?_)
        · intro j u hj; rcases j with _ | j <;> simp at hj; subst hj; simpa [Addr.add] using hcn
        · simp [Value.oneCell']
        · unfold maxLen; omega
        · omega
        · exact hB2.size
        intro v' w3 hown3 hgrow _
        have hB3 : Below w.heap.size w w3 := hB2.grown hgrow hB2.size (fun j e => (HO2.out.lt j e).1)
        have HO3 := Lib.hid (joinl_owned hown3 HE.out)
        have HB3 := Lib.hid hB3
        clear hown3 hgrow hB3 hB2
        go_wp2
        go_roundw
        case rel => exact ⟨k + 1, by omega, by omega, by go_num, HO3.out, HB3.out⟩
        case measure => simp [intOf]; omega
    · have HE := Lib.hid (few_end l k (by omega) hk hk20)
      rw [HE.out] at hown
      have HO := Lib.hid (SlOf.owned hown)
      have HB := Lib.hid hB
      clear hown hB
      by_cases hkl : k < l.length
      all_goals
        go_wp2
        go_ret
        exact ⟨_, rfl, HO.out, HB.out⟩
end Go.Proofs.Ytnaljebiefmlcaa
