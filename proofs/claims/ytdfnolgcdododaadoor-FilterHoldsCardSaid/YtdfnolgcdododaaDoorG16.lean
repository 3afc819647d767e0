/- FilterHolds, walked. -/
import Derived.Test.YtdfnolgcdododaaDoorGC
namespace Go.Proofs.YtdfnolgcdododaaDoor
open Go.RowKit Go.Sort
open Tess (Fil)
theorem few_count (f : Fil) : (Fil.few f).count ≤ 1000000000 := by
  unfold Fil.few
  split
  · rw [Fil.count_eq]; simp [Fil.l, Fil.countL]
  · omega
/-- The law's three boxes. -/
structure Bh (w : World) (c0 c1 c2 : Array Value) (W : World) : Prop where
  k0 : W.heap[w.heap.size]? = some (.cells c0 24 (0, 0))
  k1 : W.heap[w.heap.size + 1]? = some (.cells c1 29 (0, 0))
  k2 : W.heap[w.heap.size + 1 + 1]? = some (.cells c2 29 (0, 0))
  below : Below w.heap.size w W
  size : w.heap.size + 3 ≤ W.heap.size
theorem Bh.later {w W W' : World} {c0 c1 c2 : Array Value} (h : Bh w c0 c1 c2 W) (hb : Below W.heap.size W W') : Bh w c0 c1 c2 W' :=
  have := h.size
  ⟨(hb.block _ (by omega)).trans h.k0, (hb.block _ (by omega)).trans h.k1, (hb.block _ (by omega)).trans h.k2, Bt h.below hb, Nat.le_trans h.size hb.size⟩
theorem Bh.set0 {w W : World} {x0 x1 x2 : Value} {c1 c2 : Array Value} (y0 y1 y2 : Value) (h : Bh w #[x0, x1, x2] c1 c2 W) :
    ∃ W3, (((W.setCell ⟨w.heap.size, 0, none⟩ y0).setCell ⟨w.heap.size, 1, none⟩ y1).setCell ⟨w.heap.size, 2, none⟩ y2) = W3 ∧ Bh w #[y0, y1, y2] c1 c2 W3 ∧ Ag (fun b => w.heap.size + 3 ≤ b) W W3 := by
  obtain ⟨W3, e, q0, qo, qs, qB⟩ := box3 y0 y1 y2 h.k0 h.below (Nat.le_refl _)
  exact ⟨W3, e, ⟨q0, (qo _ (by omega)).trans h.k1, (qo _ (by omega)).trans h.k2, qB, by rw [qs]; exact h.size⟩, by rw [qs]; exact Nat.le_refl _, fun b _ hb => qo b (by omega)⟩
theorem Bh.set1 {w W : World} {x0 x1 x2 x3 x4 x5 : Value} {c0 c2 : Array Value} (y0 y1 y2 y3 y4 y5 : Value) (h : Bh w c0 #[x0, x1, x2, x3, x4, x5] c2 W) :
    ∃ W3, ((((((W.setCell ⟨w.heap.size + 1, 0, none⟩ y0).setCell ⟨w.heap.size + 1, 1, none⟩ y1).setCell ⟨w.heap.size + 1, 2, none⟩ y2).setCell ⟨w.heap.size + 1, 3, none⟩ y3).setCell ⟨w.heap.size + 1, 4, none⟩ y4).setCell ⟨w.heap.size + 1, 5, none⟩ y5) = W3 ∧ Bh w c0 #[y0, y1, y2, y3, y4, y5] c2 W3 ∧ Ag (fun b => w.heap.size + 3 ≤ b) W W3 := by
  obtain ⟨W3, e, q0, qo, qs, qB⟩ := box6 y0 y1 y2 y3 y4 y5 h.k1 h.below (by omega)
  exact ⟨W3, e, ⟨(qo _ (by omega)).trans h.k0, q0, (qo _ (by omega)).trans h.k2, qB, by rw [qs]; exact h.size⟩, by rw [qs]; exact Nat.le_refl _, fun b _ hb => qo b (by omega)⟩
theorem Bh.set2 {w W : World} {x0 x1 x2 x3 x4 x5 : Value} {c0 c1 : Array Value} (y0 y1 y2 y3 y4 y5 : Value) (h : Bh w c0 c1 #[x0, x1, x2, x3, x4, x5] W) :
    ∃ W3, ((((((W.setCell ⟨w.heap.size + 1 + 1, 0, none⟩ y0).setCell ⟨w.heap.size + 1 + 1, 1, none⟩ y1).setCell ⟨w.heap.size + 1 + 1, 2, none⟩ y2).setCell ⟨w.heap.size + 1 + 1, 3, none⟩ y3).setCell ⟨w.heap.size + 1 + 1, 4, none⟩ y4).setCell ⟨w.heap.size + 1 + 1, 5, none⟩ y5) = W3 ∧ Bh w c0 c1 #[y0, y1, y2, y3, y4, y5] W3 ∧ Ag (fun b => w.heap.size + 3 ≤ b) W W3 := by
  obtain ⟨W3, e, q0, qo, qs, qB⟩ := box6 y0 y1 y2 y3 y4 y5 h.k2 h.below (by omega)
  exact ⟨W3, e, ⟨(qo _ (by omega)).trans h.k0, (qo _ (by omega)).trans h.k1, q0, qB, by rw [qs]; exact h.size⟩, by rw [qs]; exact Nat.le_refl _, fun b _ hb => qo b (by omega)⟩

set_option maxRecDepth 100000 in
set_option maxHeartbeats 8000000 in
theorem holdsLaw_any (a0 a1 : Addr) (p : Nat → Prop) (n m : Nat) (vs vf vg vd : Value) (s : Tess.Sch) (f g : Fil) (t : Int) (l : List Tess.Val) (w : World) (hV : Vars a0 a1 w) (hs : SchAt p w vs s) (hf : FilAt p n w vf f) (hg : FilAt p m w vg g) (hd0 : ValsAt p w vd l) (hKf : kindsOk f) :
    Calls Tryd.prog 5 #[vs, vf, .int .i64 t, vd, vg] w fun e w' => e = .returned (.bool true) ∧ Below w.heap.size w w' := by
  have HV := Lib.hid hV
  have HCUT := Lib.hid (fun W (hB : Below w.heap.size w W) => cutSch_any vs s W p (hs.ag (Ag.new p hB)))
  have HFF := Lib.hid (fun W (hB : Below w.heap.size w W) => few_any p n vf f W (hf.ag (Ag.new p hB)))
  have HFG := Lib.hid (fun W (hB : Below w.heap.size w W) => few_any p m vg g W (hg.ag (Ag.new p hB)))
  have HVL := Lib.hid (fun W (hB : Below w.heap.size w W) => vals_any p vd l W (hd0.ag (Ag.new p hB)))
  obtain ⟨vd', vm, rfl, hd, hm, _, _⟩ := hs
  obtain ⟨ad, capd, rfl, _⟩ := slp_len hd
  obtain ⟨am, capm, rfl, _⟩ := slp_len hm
  obtain ⟨fa, fn, fc, fla, flc, rfl⟩ := hf.shape6
  obtain ⟨ga, gn, gc, gla, glc, rfl⟩ := hg.shape6
  obtain ⟨da, dc, rfl, _, _, _, _⟩ := hd0
  clear hd hm hV hf hg
  obtain ⟨W0, hW0⟩ : ∃ W0, ((w.alloc (.cells #[.slice ad s.dims.length capd, .slice am s.mets.length capm, .int .i64 s.grain] 24)).alloc (.cells #[.int .i64 f.kind, .string f.name, .slice fa fn fc, .int .i64 f.frm, .int .i64 f.to, .slice fla f.l.length flc] 29)).alloc (.cells #[.int .i64 g.kind, .string g.name, .slice ga gn gc, .int .i64 g.frm, .int .i64 g.to, .slice gla g.l.length glc] 29) = W0 := ⟨_, rfl⟩
  obtain ⟨h0, h1, h2, hS, hB⟩ := laid3 w (.cells #[.slice ad s.dims.length capd, .slice am s.mets.length capm, .int .i64 s.grain] 24) (.cells #[.int .i64 f.kind, .string f.name, .slice fa fn fc, .int .i64 f.frm, .int .i64 f.to, .slice fla f.l.length flc] 29) (.cells #[.int .i64 g.kind, .string g.name, .slice ga gn gc, .int .i64 g.frm, .int .i64 g.to, .slice gla g.l.length glc] 29)
  rw [hW0] at h0 h1 h2 hS hB
  rw [show w.heap.size + 2 = w.heap.size + 1 + 1 by omega] at h2
  have HSH := Lib.hid (shown_any a0 a1 W0 (HV.out.below hB))
  have HX0 := Lib.hid (show Bh w _ _ _ W0 from ⟨h0, h1, h2, hB, by omega⟩)
  clear h0 h1 h2 hB hS
  go_enter Tryd.func5, Tryd.ntmps5
  go_wp2_with (go_at_call 10; refine HSH.out.mono ?_; rintro e w1 ⟨rfl, hB1⟩; have HX1 := Lib.hid (HX0.out.later hB1); obtain ⟨⟨x0, x1, x2⟩, _⟩ := can3 HX1.out.k0; clear hB1 hW0 HSH HX0)
  go_at_call 11
  refine (HCUT.out w1 HX1.out.below).mono ?_
  rintro e w2 ⟨v2, rfl, hs2, hB2⟩
  clear x0 x1 x2
  obtain ⟨vd2, vm2, rfl, hd2, hm2, hz2⟩ := hs2
  obtain ⟨ad2, capd2, rfl, _⟩ := slp_len hd2
  obtain ⟨am2, capm2, rfl, _⟩ := slp_len hm2
  have HX2 := Lib.hid (HX1.out.later hB2)
  obtain ⟨⟨x0, x1, x2⟩, z0, z1, z2⟩ := can3 HX2.out.k0
  obtain ⟨W3, hW3, hx3, hb3⟩ := HX2.out.set0 (.slice ad2 (cutSch s).dims.length capd2) (.slice am2 (cutSch s).mets.length capm2) (.int .i64 (cutSch s).grain)
  have HX3 := Lib.hid hx3
  have HS3 := Lib.hid (show SchAt (fun b => w.heap.size + 3 ≤ b) W3 (.agg #[.slice ad2 (cutSch s).dims.length capd2, .slice am2 (cutSch s).mets.length capm2, .int .i64 (cutSch s).grain]) (cutSch s) from (SchAt.weak ⟨_, _, rfl, hd2, hm2, hz2⟩ (fun b hb => Nat.le_trans HX1.out.size hb)).ag hb3)
  obtain ⟨⟨f0, f1, f2, f3, f4, f5⟩, _⟩ := can6 HX3.out.k1
  clear hx3 hb3 hd2 hm2 hz2 HX1 hB2
  go_wp2_with (have hxx := HFF; clear hxx; go_at_call 12; refine (HFF.out W3 HX3.out.below).mono ?_; rintro e w4 ⟨v4, rfl, hf4, hB4⟩; obtain ⟨fa4, fn4, fc4, fl4, fd4, rfl⟩ := hf4.shape6; clear x0 x1 x2 z0 z1 z2 f0 f1 f2 f3 f4 f5 hW3; have HX4 := Lib.hid (HX3.out.later hB4); have HS4 := Lib.hid (HS3.out.ag (Ag.new _ hB4)); have HF4 := Lib.hid (FilAt.weak (q := fun b => w.heap.size + 3 ≤ b) (fun b hb => Nat.le_trans HX3.out.size hb) hf4); obtain ⟨⟨x0, x1, x2, x3, x4, x5⟩, z0, z1, z2, z3, z4, z5⟩ := can6 HX4.out.k1; obtain ⟨W5, hW5, hx5, hb5⟩ := HX4.out.set1 (.int .i64 (Fil.few f).kind) (.string (Fil.few f).name) (.slice fa4 fn4 fc4) (.int .i64 (Fil.few f).frm) (.int .i64 (Fil.few f).to) (.slice fl4 (Fil.few f).l.length fd4); have HX5 := Lib.hid hx5; have HS5 := Lib.hid (HS4.out.ag hb5); have HF5 := Lib.hid (HF4.out.ag hb5); obtain ⟨⟨f0, f1, f2, f3, f4, f5⟩, _⟩ := can6 hx5.k2; clear hx5 hb5 hf4 hB4 HS4 HF4 HX3 HS3 HX4 HFF)
  go_at_call 12
  refine (HFG.out W5 HX5.out.below).mono ?_
  rintro e w6 ⟨v6, rfl, hf6, hB6⟩
  obtain ⟨ga6, gn6, gc6, gl6, gd6, rfl⟩ := hf6.shape6
  clear x0 x1 x2 x3 x4 x5 z0 z1 z2 z3 z4 z5 f0 f1 f2 f3 f4 f5 hW5
  have HX6 := Lib.hid (HX5.out.later hB6)
  have HG6 := Lib.hid (FilAt.weak (q := fun b => w.heap.size + 3 ≤ b) (fun b hb => Nat.le_trans HX5.out.size hb) hf6)
  obtain ⟨⟨x0, x1, x2, x3, x4, x5⟩, z0, z1, z2, z3, z4, z5⟩ := can6 HX6.out.k2
  obtain ⟨W7, hW7, hx7, hb7⟩ := HX6.out.set2 (.int .i64 (Fil.few g).kind) (.string (Fil.few g).name) (.slice ga6 gn6 gc6) (.int .i64 (Fil.few g).frm) (.int .i64 (Fil.few g).to) (.slice gl6 (Fil.few g).l.length gd6)
  have HX7 := Lib.hid hx7
  have HS7 := Lib.hid ((HS5.out.ag (Ag.new _ hB6)).ag hb7)
  have HF7 := Lib.hid ((HF5.out.ag (Ag.new _ hB6)).ag hb7)
  have HG7 := Lib.hid (HG6.out.ag hb7)
  generalize hSg : cutSch s = S at *
  have HKF := Lib.hid (kinds_few f hKf)
  have HCF := Lib.hid (few_count f)
  generalize hFg : Fil.few f = F at *
  generalize hGg : Fil.few g = G at *
  clear hx7 hb7 hf6 hB6 HS5 HF5 HX5 HG6 HX6 HFG hSg hFg hGg HCUT hKf
  go_wp2_with (fail)
  go_at_call 16
  refine (HVL.out W7 HX7.out.below).mono ?_
  rintro e w8 ⟨v8, rfl, hv8, hB8⟩
  clear x0 x1 x2 x3 x4 x5 z0 z1 z2 z3 z4 z5 hW7
  generalize hDg : cutVals l = D at hv8
  clear hDg
  have hv8q := hv8.weak (q := fun b => w.heap.size + 3 ≤ b) (fun b hb => Nat.le_trans HX7.out.size hb)
  have HD8 := Lib.hid hv8q
  obtain ⟨d8, e8, rfl, _⟩ := hv8
  have HX8 := Lib.hid (HX7.out.later hB8)
  have HS8 := Lib.hid (HS7.out.ag (Ag.new _ hB8))
  have HF8 := Lib.hid (HF7.out.ag (Ag.new _ hB8))
  have HG8 := Lib.hid (HG7.out.ag (Ag.new _ hB8))
  have HV8 := Lib.hid (HV.out.below HX8.out.below)
  clear hv8q hB8
  have HALL := Lib.hid (fun X (hB : Below w8.heap.size w8 X) => And.intro (can3 (HX8.out.later hB).k0).1 (And.intro (can6 (HX8.out.later hB).k1).1 (can6 (HX8.out.later hB).k2).1))
  have HH1 := Lib.hid (fun X (hX : Below w8.heap.size w8 X) => fHolds_any a0 a1 _ 8 _ _ _ S F t D X (HV8.out.below hX) (HS8.out.ag (Ag.new _ hX)) (HF8.out.ag (Ag.new _ hX)) (HD8.out.ag (Ag.new _ hX)) (by omega) HKF.out)
  have HH2 := Lib.hid (fun X (hX : Below w8.heap.size w8 X) => rHoldsE_any _ 8 _ _ _ S F t D X (HS8.out.ag (Ag.new _ hX)) (HF8.out.ag (Ag.new _ hX)) (HD8.out.ag (Ag.new _ hX)) HCF.out)
  have HC1 := Lib.hid (fun X (hX : Below w8.heap.size w8 X) => check_any a0 a1 _ 8 _ _ S F X (HV8.out.below hX) (HS8.out.ag (Ag.new _ hX)) (HF8.out.ag (Ag.new _ hX)) (by omega) HKF.out)
  have HC2 := Lib.hid (fun X (hX : Below w8.heap.size w8 X) => rCheck_any _ 8 _ _ S F X (HS8.out.ag (Ag.new _ hX)) (HF8.out.ag (Ag.new _ hX)) HCF.out)
  have HE1 := Lib.hid (fun X (hX : Below w8.heap.size w8 X) => pSame_any _ _ 8 8 _ _ F G X (HF8.out.ag (Ag.new _ hX)) (HG8.out.ag (Ag.new _ hX)))
  have HE2 := Lib.hid (fun X (hX : Below w8.heap.size w8 X) => rSame_any _ _ 8 8 _ _ F G X (HF8.out.ag (Ag.new _ hX)) (HG8.out.ag (Ag.new _ hX)))
  have HE3 := Lib.hid (fun X (hX : Below w8.heap.size w8 X) => pSame_any _ _ 8 8 _ _ F F X (HF8.out.ag (Ag.new _ hX)) (HF8.out.ag (Ag.new _ hX)))
  rw [sameB_true rfl] at HE3
  generalize Fil.holdsE S t D F = AE at HH1 HH2
  obtain ⟨A, E⟩ := AE
  generalize Fil.checkE S F = ck at HC1 HC2
  generalize sameB F G = sm at HE1 HE2
  obtain ⟨⟨s0, s1, s2⟩, ⟨f0, f1, f2, f3, f4, f5⟩, _⟩ := HALL.out w8 (Below.refl _ _)
  go_wp2_with (fail)
  go_at_call 15
  refine (HH1.out w8 (Below.refl _ _)).mono ?_
  rintro e w9 ⟨rfl, hB9⟩
  have HB9 := Lib.hid hB9
  clear hB9 s0 s1 s2 f0 f1 f2 f3 f4 f5
  obtain ⟨⟨s0, s1, s2⟩, ⟨f0, f1, f2, f3, f4, f5⟩, _⟩ := HALL.out w9 HB9.out
  go_wp2_with (fail)
  go_at_call 17
  refine (HH2.out w9 HB9.out).mono ?_
  rintro e wA ⟨rfl, hBA⟩
  have HBA := Lib.hid (Bt HB9.out hBA)
  clear hBA s0 s1 s2 f0 f1 f2 f3 f4 f5
  obtain ⟨⟨s0, s1, s2⟩, ⟨f0, f1, f2, f3, f4, f5⟩, g0, g1, g2, g3, g4, g5⟩ := HALL.out wA HBA.out
  have hz0 : w.heap.size < wA.heap.size := by have := HX8.out.size; have := HBA.out.size; omega
  have hz1 : w.heap.size + 1 < wA.heap.size := by have := HX8.out.size; have := HBA.out.size; omega
  have hz2 : w.heap.size + 1 + 1 < wA.heap.size := by have := HX8.out.size; have := HBA.out.size; omega
  go_wp2_with (fail)
  refine Flow.wp_region_flow (Flow.specs (.inl ?_ :: .inl ?_ :: .inl ?_ :: .inl ?_ :: .inl (.int .i64 (ck : Nat)) :: .inl ?_ :: .inl ?_ :: .inl (.int .i64 (ck : Nat)) :: .inl ?_ :: .inl ?_ :: .inl ?_ :: .inl ?_ :: .inl ?_ :: .inl ?_ :: .inl ?_ :: .inl ?_ :: .inl ?_ :: .inl ?_ :: .inl ?_ :: .inl ?_ :: .inl ?_ :: .inl ?_ :: .inl ?_ :: .inl (.bool sm) :: .inl ?_ :: .inl ?_ :: .inl (.bool sm) :: .inl ?_ :: .inl ?_ :: .inl ?_ :: .inl ?_ :: .inl ?_ :: .inl (.bool true) :: .inl ?_ :: .inl ?_ :: [])) (by kernel_rfl) (by kernel_rfl) ?_ ?_
  rotate_left 30
  · refine Flow.specs_mono ?_
    repeat (first | exact Flow.lmono_nil | refine Flow.lmono_inl ?_)
  iterate 4 (refine Flow.tree_valK rfl (fun K hK => ⟨fun w hw hG => ?_, ?_⟩); (have hcl := Flow.bcell hw; clear hG hw; unfold Flow.Runs Flow.yields; go_simp; try rfl); go_simp; refine hK _ ?_; clear hK K)
  (refine Flow.tree_valK rfl (fun K hK => ⟨fun w hw hG => ?_, ?_⟩); (have HW := Lib.hid hw; clear hG hw; unfold Flow.Runs Flow.yields; go_simp; refine (HC1.out _ (Bt HBA.out HW.out)).mono ?_; rintro e w3 ⟨rfl, hb3⟩; exact ⟨rfl, hb3⟩); go_simp; refine hK _ ?_; clear hK K)
  iterate 2 (refine Flow.tree_valK rfl (fun K hK => ⟨fun w hw hG => ?_, ?_⟩); (have hcl := Flow.bcell hw; clear hG hw; unfold Flow.Runs Flow.yields; go_simp; try rfl); go_simp; refine hK _ ?_; clear hK K)
  (refine Flow.tree_valK rfl (fun K hK => ⟨fun w hw hG => ?_, ?_⟩); (have HW := Lib.hid hw; clear hG hw; unfold Flow.Runs Flow.yields; go_simp; refine (HC2.out _ (Bt HBA.out HW.out)).mono ?_; rintro e w3 ⟨rfl, hb3⟩; exact ⟨rfl, hb3⟩); go_simp; refine hK _ ?_; clear hK K)
  iterate 15 (refine Flow.tree_valK rfl (fun K hK => ⟨fun w hw hG => ?_, ?_⟩); (have hcl := Flow.bcell hw; clear hG hw; unfold Flow.Runs Flow.yields; go_simp; try rfl); go_simp; refine hK _ ?_; clear hK K)
  (refine Flow.tree_valK rfl (fun K hK => ⟨fun w hw hG => ?_, ?_⟩); (have HW := Lib.hid hw; clear hG hw; unfold Flow.Runs Flow.yields; go_simp; refine (HE1.out _ (Bt HBA.out HW.out)).mono ?_; rintro e w3 ⟨rfl, hb3⟩; exact ⟨rfl, hb3⟩); go_simp; refine hK _ ?_; clear hK K)
  iterate 2 (refine Flow.tree_valK rfl (fun K hK => ⟨fun w hw hG => ?_, ?_⟩); (have hcl := Flow.bcell hw; clear hG hw; unfold Flow.Runs Flow.yields; go_simp; try rfl); go_simp; refine hK _ ?_; clear hK K)
  (refine Flow.tree_valK rfl (fun K hK => ⟨fun w hw hG => ?_, ?_⟩); (have HW := Lib.hid hw; clear hG hw; unfold Flow.Runs Flow.yields; go_simp; refine (HE2.out _ (Bt HBA.out HW.out)).mono ?_; rintro e w3 ⟨rfl, hb3⟩; exact ⟨rfl, hb3⟩); go_simp; refine hK _ ?_; clear hK K)
  iterate 5 (refine Flow.tree_valK rfl (fun K hK => ⟨fun w hw hG => ?_, ?_⟩); (have hcl := Flow.bcell hw; clear hG hw; unfold Flow.Runs Flow.yields; go_simp; try rfl); go_simp; refine hK _ ?_; clear hK K)
  (refine Flow.tree_valK rfl (fun K hK => ⟨fun w hw hG => ?_, ?_⟩); (have HW := Lib.hid hw; clear hG hw; unfold Flow.Runs Flow.yields; go_simp; refine (HE3.out _ (Bt HBA.out HW.out)).mono ?_; rintro e w3 ⟨rfl, hb3⟩; exact ⟨rfl, hb3⟩); go_simp; refine hK _ ?_; clear hK K)
  iterate 2 (refine Flow.tree_valK rfl (fun K hK => ⟨fun w hw hG => ?_, ?_⟩); (have hcl := Flow.bcell hw; clear hG hw; unfold Flow.Runs Flow.yields; go_simp; try rfl); go_simp; refine hK _ ?_; clear hK K)
  refine Flow.tree_nil fun wB hwB hG => ?_
  have HBB := Lib.hid (Bt HX8.out.below (Bt HBA.out hwB))
  clear hG hwB
  go_wp2
  go_ret
  exact ⟨rfl, HBB.out⟩
theorem FilterHolds_any (a0 a1 : Addr) (t : Int) (w : World) (hV : Vars a0 a1 w) {n m : Nat} {vs vf vd vg : Value} {s : Tess.Sch} {f g : Fil} {l : List Tess.Val} (hs : SchAt (fun _ => True) w vs s) (hf : FilAt (fun _ => True) n w vf f) (hKf : kindsOk f) (_ : (Lit.int .i64 t).wf = true) (hd : ValsAt (fun _ => True) w vd l) (hg : FilAt (fun _ => True) m w vg g) (_ : kindsOk g) :
    Calls Tryd.prog 5 #[vs, vf, .int .i64 t, vd, vg] w fun e w' => e = .returned (.bool true) ∧ Below w.heap.size w w' :=
  holdsLaw_any a0 a1 _ n m vs vf vg vd s f g t l w hV hs hf hg hd hKf
end Go.Proofs.YtdfnolgcdododaaDoor
