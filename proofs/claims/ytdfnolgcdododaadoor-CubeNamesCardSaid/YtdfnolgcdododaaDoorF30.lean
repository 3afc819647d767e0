/- A row of few values. -/
import Derived.Test.YtdfnolgcdododaaDoorF29
namespace Go.Proofs.YtdfnolgcdododaaDoor
open Go.RowKit Go.Sort
open Tess (Fil)

/-- A row in memory. -/
def RowAt (p : Nat → Prop) (w : World) (v : Value) (t : Int) (l : List Tess.Val) (ns : List Int) : Prop := ∃ vd a c, v = .agg #[.int .i64 t, vd, .slice a ns.length c] ∧ ns.length ≤ c ∧ ValsAt p w vd l ∧ SlP p w (.slice a ns.length c) (ns.map (.int .i64))
theorem RowAt.ag {p : Nat → Prop} {w w' : World} {v : Value} {t : Int} {l : List Tess.Val} {ns : List Int} (h : RowAt p w v t l ns) (hg : Ag p w w') : RowAt p w' v t l ns := let ⟨vd, a, c, h1, h0, h2, h3⟩ := h; ⟨vd, a, c, h1, h0, h2.ag hg, h3.ag hg⟩
theorem RowAt.weak {p q : Nat → Prop} {w : World} {v : Value} {t : Int} {l : List Tess.Val} {ns : List Int} (h : RowAt p w v t l ns) (hpq : ∀ b, p b → q b) : RowAt q w v t l ns := let ⟨vd, a, c, h1, h0, h2, h3⟩ := h; ⟨vd, a, c, h1, h0, h2.weak hpq, h3.weak hpq⟩
theorem slp_take {p : Nat → Prop} {w : World} {a : Option Addr} {n cap : Nat} {cs : List Value} (k : Nat) (h : SlP p w (.slice a n cap) cs) : SlP p w (.slice a (min k n) cap) (cs.take k) := by
  obtain ⟨⟨h0, a', cap', hv, hc⟩, hp, hn⟩ := h
  cases hv
  refine ⟨⟨by simp; omega, a, cap, by simp, fun hl => ?_⟩, fun hl b hb => ?_, fun n' c' e => ?_⟩
  · simp at hl
    obtain ⟨b, off, ha, hb, hcell⟩ := hc (by omega)
    refine ⟨b, off, ha, hb, fun j hj => ?_⟩
    simp at hj
    rw [hcell j (by omega)]; simp
  · simp at hl
    exact hp (by omega) b (by cases a with | none => exact hb | some x => exact hb)
  · cases e; exact hn _ _ rfl
def isVals (N : Nat) (l : List Tess.Val) (v : Value) (W : World) : Prop := ValsAt (fun b => N ≤ b) W v l
theorem isVals_mono (N : Nat) (l : List Tess.Val) : Flow.Spec.mono (.inr (isVals N l)) := fun _ _ _ h hb => ValsAt.ag h (Ag.new _ hb)
def isRow (N : Nat) (t : Int) (l : List Tess.Val) (vn : Value) (v : Value) (W : World) : Prop := ∃ vd, v = .agg #[.int .i64 t, vd, vn] ∧ ValsAt (fun b => N ≤ b) W vd l
theorem isRow_mono (N : Nat) (t : Int) (l : List Tess.Val) (vn : Value) : Flow.Spec.mono (.inr (isRow N t l vn)) := fun _ _ _ ⟨vd, h1, h⟩ hb => ⟨vd, h1, ValsAt.ag h (Ag.new _ hb)⟩

set_option maxRecDepth 100000 in
set_option maxHeartbeats 2000000 in
theorem fewRow_any (p : Nat → Prop) (v : Value) (t : Int) (l : List Tess.Val) (ns : List Int) (w : World) (hv : RowAt p w v t l ns) :
    Calls Tryd.prog 13 #[v] w fun e w' => ∃ v', e = .returned v' ∧ RowAt (fun b => p b ∨ w.heap.size ≤ b) w' v' t (cutVals l) (ns.take 10) ∧ (∃ vd n, v' = .agg #[.int .i64 t, vd, n] ∧ ValsAt (fun b => w.heap.size ≤ b) w' vd (cutVals l)) ∧ Below w.heap.size w w' := by
  obtain ⟨vd, na, nc, rfl, hnc, hd, hn⟩ := hv
  have HVD := Lib.hid (fun W (hB : Below w.heap.size w W) => vals_any p vd l W (hd.ag (Ag.new p hB)))
  obtain ⟨da, dc, rfl, _, _, _, _⟩ := hd
  have HN := Lib.hid (slp_take 10 hn)
  have hnn : ns.length ≤ 9223372036854775807 := by have := hn.1.1; simp at this; unfold maxLen at this; omega
  obtain ⟨m, hm⟩ : ∃ m, m = min 10 ns.length := ⟨_, rfl⟩
  have hmi : min (ns.length : Int) 10 = (m : Int) := by omega
  have hmc : (m : Int) ≤ (nc : Int) := by omega
  have HM := Lib.hid hm
  clear hn hm
  obtain ⟨W0, hW0⟩ : ∃ W0, (w.alloc (.cells #[.int .i64 t, .slice da l.length dc, .slice na ns.length nc] 33)).alloc (.cells #[.int .i64 0, .slice none 0 0, .slice none 0 0] 33) = W0 := ⟨_, rfl⟩
  obtain ⟨h0, h1, hS, hB⟩ := laid2 w (.cells #[.int .i64 t, .slice da l.length dc, .slice na ns.length nc] 33) (.cells #[.int .i64 0, .slice none 0 0, .slice none 0 0] 33)
  rw [hW0] at h0 h1 hS hB
  go_enter Tryd.func13, Tryd.ntmps13
  go_wp2
  clear hW0
  have c0 := cell_of_row W0 w.heap.size 0 _ _ _ h0
  have c1 := cell_of_row W0 w.heap.size 1 _ _ _ h0
  have c2 := cell_of_row W0 w.heap.size 2 _ _ _ h0
  simp only [List.getElem?_toArray, List.getElem?_cons_succ, List.getElem?_cons_zero] at c0 c1 c2
  have s0 : w.heap.size < W0.heap.size := by omega
  have HB := Lib.hid hB
  have HS := Lib.hid hS
  have H1 := Lib.hid h1
  clear h0 h1 hS hB
  refine Flow.wp_region_flow_tail 13 (Flow.specs [.inl ?_, .inl ?_, .inl ?_, .inl ?_, .inr (isVals W0.heap.size (cutVals l)), .inl ?_, .inl ?_, .inl ?_, .inl ?_, .inl ?_, .inl ?_, .inl ?_, .inr (isRow W0.heap.size t (cutVals l) (.slice na m nc))]) (by kernel_rfl) (by kernel_rfl) ?_ ?_
  rotate_left 11
  · refine Flow.specs_mono ?_
    repeat (first | exact Flow.lmono_nil | refine Flow.lmono_inl ?_ | refine Flow.lmono_inr (isVals_mono _ _) ?_ | refine Flow.lmono_inr (isRow_mono _ _ _ _) ?_)
  all_goals try simp only [List.take_succ_cons, List.take_zero, List.drop_succ_cons, List.drop_zero]
  iterate 4 (refine Flow.tree_valK rfl (fun K hK => ⟨fun w hw hG => ?_, ?_⟩); (have hcl := Flow.bcell hw; clear hG hw; unfold Flow.Runs Flow.yields; go_simp; try rfl); go_simp; refine hK _ ?_; clear hK K)
  (refine Flow.tree_varK rfl (fun K hK => ⟨fun w hw hG => ?_, ?_⟩); (have HW := Lib.hid hw; clear hG hw; unfold Flow.Runs Flow.yields; go_simp; refine (HVD.out _ (Bt HB.out HW.out)).mono ?_; rintro e w3 ⟨v3, rfl, hf3, hb3⟩; exact ⟨v3, rfl, hb3, hf3.weak fun b hb => Nat.le_trans HW.out.size hb⟩); intro vz; go_simp; refine hK _ _ ?_; clear hK K)
  iterate 7 (refine Flow.tree_valK rfl (fun K hK => ⟨fun w hw hG => ?_, ?_⟩); (have hcl := Flow.bcell hw; clear hG hw; unfold Flow.Runs Flow.yields; go_simp; try rfl); go_simp; refine hK _ ?_; clear hK K)
  (refine Flow.tree_varK rfl (fun K hK => ⟨fun w hw hG => ?_, ?_⟩); (have hvz := (show isVals W0.heap.size (cutVals l) vz w by simpa [Flow.upd] using hG 4 (by kernel_rfl)); have HVZ := Lib.hid hvz; clear hG; obtain ⟨y0, y1, rfl, _⟩ := hvz; unfold Flow.Runs Flow.yields; go_simp; exact ⟨_, rfl, HVZ.out⟩); intro vy; go_simp; refine hK _ _ ?_; clear hK K)
  refine Flow.tree_nil fun w2 hw2 hG => ?_
  obtain ⟨vd', rfl, hvd⟩ := (show isRow W0.heap.size t (cutVals l) (.slice na m nc) vy w2 by simpa [Flow.upd] using hG 12)
  have HVD' := Lib.hid hvd
  obtain ⟨y0, y1, rfl, _⟩ := hvd
  clear hG
  have h1' := (hw2.block _ (by have := HS.out; omega)).trans H1.out
  have HB2 := Lib.hid (Bt HB.out hw2)
  have z0 := frozen_of_row w2 (w.heap.size + 1) 0 _ _ h1'
  have z1 := frozen_of_row w2 (w.heap.size + 1) 1 _ _ h1'
  have z2 := frozen_of_row w2 (w.heap.size + 1) 2 _ _ h1'
  have e0 := cell_of_row w2 (w.heap.size + 1) 0 _ _ _ h1'
  have e1 := cell_of_row w2 (w.heap.size + 1) 1 _ _ _ h1'
  have e2 := cell_of_row w2 (w.heap.size + 1) 2 _ _ _ h1'
  simp only [List.getElem?_toArray, List.getElem?_cons_succ, List.getElem?_cons_zero] at e0 e1 e2
  clear h1' hw2
  go_wp2
  have hAg : ∀ q : Nat → Prop, ¬ q (w.heap.size + 1) → Ag q w2 (((w2.setCell ⟨w.heap.size + 1, 0, none⟩ (.int .i64 t)).setCell ⟨w.heap.size + 1, 1, none⟩ (.slice y0 (cutVals l).length y1)).setCell ⟨w.heap.size + 1, 2, none⟩ (.slice na m nc)) :=
    fun q h1 => ((Ag.set q _ _ h1).trans (Ag.set q _ _ h1)).trans (Ag.set q _ _ h1)
  have hlen : (ns.take 10).length = m := by rw [List.length_take, HM.out]
  have hS := HS.out
  refine bodyPost_ret (v := .agg #[.int .i64 t, .slice y0 (cutVals l).length y1, .slice na m nc]) (by simp [results, Tryd.results13, go_sem, e0, e1, e2]) rfl ⟨_, rfl, ⟨_, na, nc, by rw [hlen], by omega, ?_, ?_⟩, ⟨_, ⟨_, rfl⟩, ((HVD'.out.ag (hAg _ (by omega))).weak fun b hb => by omega)⟩, ?_⟩
  · exact ((HVD'.out.ag (hAg _ (by omega))).weak fun b hb => .inr (by omega))
  · have h := (HN.out.lt.ag (Ag.new _ HB2.out)).ag (hAg _ (by rintro ⟨_, h⟩; omega))
    rw [← HM.out] at h
    rw [hlen, List.map_take]
    exact h.weak fun b hb => .inl hb.1
  · exact ((HB2.out.setCell (by show _ ≤ w.heap.size + 1; omega) _).setCell (by show _ ≤ w.heap.size + 1; omega) _).setCell (by show _ ≤ w.heap.size + 1; omega) _
end Go.Proofs.YtdfnolgcdododaaDoor
