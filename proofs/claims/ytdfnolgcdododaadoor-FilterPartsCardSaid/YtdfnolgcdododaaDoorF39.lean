/- A cell that shares no list. The program's, walked. -/
import Derived.Test.YtdfnolgcdododaaDoorF38
namespace Go.Proofs.YtdfnolgcdododaaDoor
open Go.RowKit Go.Sort
open Tess (Fil)

/-- What a list must be to be made another's. -/
def CloneOk (w : World) (size : Nat) (v : Value) : Prop := ∃ (a : Option Addr) (n cap : Nat) (xs : List Value), v = .slice a n cap ∧ n ≤ 1000000 ∧ xs.length = n * size ∧ (a = none → n = 0 ∧ cap = 0) ∧ (∀ ad, a = some ad → ∀ j u, xs[j]? = some u → w.cell? (ad.add j) = some u) ∧ ∀ u ∈ xs, u.oneCell' = true
theorem CloneOk.below {w w' : World} {size : Nat} {v : Value} (h : CloneOk w size v) (hb : Below w.heap.size w w') : CloneOk w' size v := by
  obtain ⟨a, n, cap, xs, h1, h2, h3, h4, h5, h6⟩ := h
  exact ⟨a, n, cap, xs, h1, h2, h3, h4, fun ad e j u hj => (hb.cell (World.block_lt_of_cell? w _ (h5 ad e j u hj))).trans (h5 ad e j u hj), h6⟩
theorem CloneOk.shape {w : World} {size : Nat} {v : Value} (h : CloneOk w size v) : ∃ a n c, v = .slice a n c := let ⟨a, n, c, _, h1, _⟩ := h; ⟨a, n, c, h1⟩
theorem CloneOk.nil (w : World) (size : Nat) : CloneOk w size (.slice none 0 0) := ⟨none, 0, 0, [], rfl, Nat.zero_le _, by simp, (fun _ => ⟨rfl, rfl⟩), (fun _ e => by cases e), (fun u hu => by cases hu)⟩
/-- Some slice. -/
def isSl (v : Value) (_ : World) : Prop := ∃ a n c, v = .slice a n c
theorem isSl_mono : Flow.Spec.mono (.inr isSl) := fun _ _ _ h _ => h
theorem vals_clone {w : World} {base : Nat} {t : TypeId} {v : Value} {l : List Tess.Val} (h : w.ownsRow base t 2 v l.length (valCells l)) (hs : ∀ x ∈ l, x.s.size ≤ maxLen) (hl : l.length ≤ maxLen) (hsh : v = .slice none 0 0 ∨ ∃ g c, v = .slice (some ⟨g, 0, none⟩) l.length c) : ValsAt (fun b => base ≤ b) w v l := by
  rcases Nat.eq_zero_or_pos l.length with h0 | h0
  · rcases hsh with rfl | ⟨g, c, rfl⟩
    · exact ⟨none, 0, by rw [h0], hl, hs, fun _ => rfl, fun h => by omega⟩
    · exact ⟨_, c, rfl, hl, hs, (fun e => by cases e), fun h => by omega⟩
  · obtain ⟨g, cap, hv, hb, hg, _, _, hc⟩ := owns_cell_any h h0
    refine ⟨_, _, hv, hl, hs, (fun e => by cases e), fun _ => ⟨g, 0, rfl, hg, hb, fun j hj => ?_⟩⟩
    have := valCells_at l j hj
    exact ⟨by rw [Nat.zero_add, hc _ (by omega)]; exact this.1, by rw [Nat.zero_add, hc _ (by omega)]; exact this.2⟩
theorem valCells_get (l : List Tess.Val) : ∀ (j : Nat) (u : Value), (valCells l)[j]? = some u → ∃ k, ∃ h : k < l.length, (j = k * 2 ∧ u = .string l[k].s) ∨ (j = k * 2 + 1 ∧ u = .bool l[k].null) := by
  intro j u hj
  have hlt : j < l.length * 2 := by
    obtain ⟨h, _⟩ := List.getElem?_eq_some_iff.1 hj
    rwa [valCells_len] at h
  refine ⟨j / 2, by omega, ?_⟩
  have := valCells_at l (j / 2) (by omega)
  rcases Nat.mod_two_eq_zero_or_one j with h | h
  · refine .inl ⟨by omega, ?_⟩
    rw [show j = j / 2 * 2 by omega, this.1] at hj
    exact (Option.some.inj hj).symm
  · refine .inr ⟨by omega, ?_⟩
    rw [show j = j / 2 * 2 + 1 by omega, this.2] at hj
    exact (Option.some.inj hj).symm
theorem cloneV_any (p : Nat → Prop) (v : Value) (l : List Tess.Val) (w : World) (hv : ValsAt p w v l) (hl : l.length ≤ 1000000) :
    Calls Tryd.prog 72 #[v] w fun e w' => ∃ v', e = .returned v' ∧ ValsAt (fun b => w.heap.size ≤ b) w' v' l ∧ Below w.heap.size w w' := by
  obtain ⟨a, cap, rfl, hlm, hs, hnil, hc⟩ := hv
  refine (cloneVals_any a l.length cap (valCells l) w hl (valCells_len l) (fun e => ⟨?_, hnil e⟩) (fun ad e j u hj => ?_) (fun u hu => ?_)).mono ?_
  · rcases Nat.eq_zero_or_pos l.length with h | h
    · exact h
    · obtain ⟨b, off, ha, _⟩ := hc h
      rw [e] at ha; cases ha
  · obtain ⟨k, hk, h⟩ := valCells_get l j u hj
    obtain ⟨b, off, ha, _, _, hcell⟩ := hc (by omega)
    rw [e] at ha
    cases ha
    rw [show (⟨b, off, none⟩ : Addr).add j = ⟨b, off + j, none⟩ by unfold Addr.add; split <;> simp_all]
    rcases h with ⟨rfl, rfl⟩ | ⟨rfl, rfl⟩
    · exact (hcell k hk).1
    · exact (hcell k hk).2
  · obtain ⟨j, hj⟩ := List.getElem?_of_mem hu
    obtain ⟨k, hk, h⟩ := valCells_get l j u hj
    rcases h with ⟨_, rfl⟩ | ⟨_, rfl⟩ <;> rfl
  · rintro e w' ⟨v', rfl, h1, h2, h3⟩
    exact ⟨v', rfl, vals_clone h1 hs hlm h2, h3⟩
theorem cloneI_any (v : Value) (w : World) (hv : CloneOk w 1 v) : Calls Tryd.prog 74 #[v] w fun e w' => ∃ v', e = .returned v' ∧ isSl v' w' ∧ Below w.heap.size w w' := by
  obtain ⟨a, n, cap, xs, rfl, h2, h3, h4, h5, h6⟩ := hv
  refine (cloneInts_any a n cap xs w h2 h3 h4 h5 h6).mono ?_
  rintro e w' ⟨v', rfl, _, h, hb⟩
  refine ⟨v', rfl, ?_, hb⟩
  rcases h with rfl | ⟨g, c, rfl⟩ <;> exact ⟨_, _, _, rfl⟩
theorem cloneW_any (v : Value) (w : World) (hv : CloneOk w 2 v) : Calls Tryd.prog 73 #[v] w fun e w' => ∃ v', e = .returned v' ∧ isSl v' w' ∧ Below w.heap.size w w' := by
  obtain ⟨a, n, cap, xs, rfl, h2, h3, h4, h5, h6⟩ := hv
  refine (cloneWides_any a n cap xs w h2 h3 h4 h5 h6).mono ?_
  rintro e w' ⟨v', rfl, _, h, hb⟩
  refine ⟨v', rfl, ?_, hb⟩
  rcases h with rfl | ⟨g, c, rfl⟩ <;> exact ⟨_, _, _, rfl⟩

/-- Two cells of six turned. -/
theorem two13 {w W : World} {B : Nat} {t : TypeId} {x0 x1 x2 x3 x4 x5 : Value} (y1 y3 : Value) (h : W.heap[B]? = some (.cells #[x0, x1, x2, x3, x4, x5] t (0, 0))) (hb : Below w.heap.size w W) (hB : w.heap.size ≤ B) :
    ∃ W3, ((W.setCell ⟨B, 1, none⟩ y1).setCell ⟨B, 3, none⟩ y3) = W3 ∧ W3.heap[B]? = some (.cells #[x0, y1, x2, y3, x4, x5] t (0, 0)) ∧ (∀ k, k ≠ B → W3.heap[k]? = W.heap[k]?) ∧ W3.heap.size = W.heap.size ∧ Below w.heap.size w W3 :=
  ⟨_, rfl, heap_setCell_same _ _ _ _ _ _ (heap_setCell_same _ _ _ _ _ _ h), fun _ hk => (heap_setCell_other _ _ _ _ hk).trans (heap_setCell_other _ _ _ _ hk), by simp [World.setCell], (hb.setCell hB _).setCell hB _⟩
theorem two45 {w W : World} {B : Nat} {t : TypeId} {x0 x1 x2 x3 x4 x5 : Value} (y4 y5 : Value) (h : W.heap[B]? = some (.cells #[x0, x1, x2, x3, x4, x5] t (0, 0))) (hb : Below w.heap.size w W) (hB : w.heap.size ≤ B) :
    ∃ W3, ((W.setCell ⟨B, 4, none⟩ y4).setCell ⟨B, 5, none⟩ y5) = W3 ∧ W3.heap[B]? = some (.cells #[x0, x1, x2, x3, y4, y5] t (0, 0)) ∧ (∀ k, k ≠ B → W3.heap[k]? = W.heap[k]?) ∧ W3.heap.size = W.heap.size ∧ Below w.heap.size w W3 :=
  ⟨_, rfl, heap_setCell_same _ _ _ _ _ _ (heap_setCell_same _ _ _ _ _ _ h), fun _ hk => (heap_setCell_other _ _ _ _ hk).trans (heap_setCell_other _ _ _ _ hk), by simp [World.setCell], (hb.setCell hB _).setCell hB _⟩
set_option maxRecDepth 100000 in
set_option maxHeartbeats 4000000 in
theorem own_any (p : Nat → Prop) (t c : Int) (vd vs vn vx : Value) (l : List Tess.Val) (w : World) (hd : ValsAt p w vd l) (hl : l.length ≤ 1000000) (hs : CloneOk w 2 vs) (hn : CloneOk w 1 vn) (hx : CloneOk w 1 vx) :
    Calls Tryd.prog 43 #[.agg #[.int .i64 t, vd, .int .i64 c, vs, vn, vx]] w fun e w' => ∃ vd' x3 x4 x5, e = .returned (.agg #[.int .i64 t, vd', .int .i64 c, x3, x4, x5]) ∧ (isSl x3 w' ∧ isSl x4 w' ∧ isSl x5 w') ∧ ValsAt (fun b => w.heap.size ≤ b) w' vd' l ∧ Below w.heap.size w w' := by
  have HD := Lib.hid (fun W (hB : Below w.heap.size w W) => cloneV_any p vd l W (hd.ag (Ag.new p hB)) hl)
  have HS := Lib.hid (fun W (hB : Below w.heap.size w W) => cloneW_any vs W (hs.below hB))
  have HN := Lib.hid (fun W (hB : Below w.heap.size w W) => cloneI_any vn W (hn.below hB))
  have HX := Lib.hid (fun W (hB : Below w.heap.size w W) => cloneI_any vx W (hx.below hB))
  obtain ⟨ad, cd, rfl, _⟩ := hd
  obtain ⟨sa, ls, cs, rfl⟩ := hs.shape
  obtain ⟨an, ln, cn, rfl⟩ := hn.shape
  obtain ⟨ax, lx, cx, rfl⟩ := hx.shape
  clear hs hn hx
  obtain ⟨W0, hW0⟩ : ∃ W0, ((w.alloc (.cells #[.int .i64 t, .slice ad l.length cd, .int .i64 c, .slice sa ls cs, .slice an ln cn, .slice ax lx cx] 84)).alloc (.cells #[.int .i64 0, .slice none 0 0, .int .i64 0, .slice none 0 0, .slice none 0 0, .slice none 0 0] 51)).alloc (.cells #[.int .i64 t, .slice ad l.length cd, .int .i64 c, .slice sa ls cs, .slice an ln cn, .slice ax lx cx] 51) = W0 := ⟨_, rfl⟩
  obtain ⟨h0, h1, h2, hS, hB⟩ := laid3 w (.cells #[.int .i64 t, .slice ad l.length cd, .int .i64 c, .slice sa ls cs, .slice an ln cn, .slice ax lx cx] 84) (.cells #[.int .i64 0, .slice none 0 0, .int .i64 0, .slice none 0 0, .slice none 0 0, .slice none 0 0] 51) (.cells #[.int .i64 t, .slice ad l.length cd, .int .i64 c, .slice sa ls cs, .slice an ln cn, .slice ax lx cx] 51)
  rw [hW0] at h0 h1 h2 hS hB
  rw [show w.heap.size + 2 = w.heap.size + 1 + 1 by omega] at h2
  have H0 := Lib.hid h0
  have H1 := Lib.hid h1
  have H2 := Lib.hid h2
  have HB := Lib.hid hB
  have HSZ := Lib.hid hS
  go_enter Tryd.func43, Tryd.ntmps43
  go_wp2_with (fail)
  clear hW0 h1 h2 hB
  obtain ⟨⟨c0, c1, c2, c3, c4, c5⟩, _⟩ := can6 h0
  have hb0 : w.heap.size < W0.heap.size := by omega
  clear h0 hS
  refine Flow.wp_region_flow_tail 9 (Flow.specs [.inl ?_, .inl ?_, .inl ?_, .inr (isVals W0.heap.size l), .inl ?_, .inl ?_, .inl ?_, .inr isSl, .inl ?_]) (by kernel_rfl) (by kernel_rfl) ?_ ?_
  rotate_left 7
  · refine Flow.specs_mono ?_
    repeat (first | exact Flow.lmono_nil | refine Flow.lmono_inl ?_ | refine Flow.lmono_inr (isVals_mono _ _) ?_ | refine Flow.lmono_inr isSl_mono ?_)
  all_goals try simp only [List.take_succ_cons, List.take_zero, List.drop_succ_cons, List.drop_zero]
  iterate 3 (refine Flow.tree_valK rfl (fun K hK => ⟨fun w hw hG => ?_, ?_⟩); (have hcl := Flow.bcell hw; clear hG hw; unfold Flow.Runs Flow.yields; go_simp; try rfl); go_simp; refine hK _ ?_; clear hK K)
  (refine Flow.tree_varK rfl (fun K hK => ⟨fun w hw hG => ?_, ?_⟩); (have HW := Lib.hid hw; clear hG hw; unfold Flow.Runs Flow.yields; go_simp; refine (HD.out _ (Bt HB.out HW.out)).mono ?_; rintro e w3 ⟨v3, rfl, hf3, hb3⟩; exact ⟨v3, rfl, hb3, hf3.weak fun b hb => Nat.le_trans HW.out.size hb⟩); intro vz; go_simp; refine hK _ _ ?_; clear hK K)
  iterate 3 (refine Flow.tree_valK rfl (fun K hK => ⟨fun w hw hG => ?_, ?_⟩); (have hcl := Flow.bcell hw; clear hG hw; unfold Flow.Runs Flow.yields; go_simp; try rfl); go_simp; refine hK _ ?_; clear hK K)
  (refine Flow.tree_varK rfl (fun K hK => ⟨fun w hw hG => ?_, ?_⟩); (have HW := Lib.hid hw; clear hG hw; unfold Flow.Runs Flow.yields; go_simp; refine (HS.out _ (Bt HB.out HW.out)).mono ?_; rintro e w3 ⟨v3, rfl, hf3, hb3⟩; exact ⟨v3, rfl, hb3, hf3⟩); intro vy; go_simp; refine hK _ _ ?_; clear hK K)
  (refine Flow.tree_valK rfl (fun K hK => ⟨fun w hw hG => ?_, ?_⟩); (clear hG hw; unfold Flow.Runs Flow.yields; go_simp; try rfl); go_simp; refine hK _ ?_; clear hK K)
  refine Flow.tree_nil fun w2 hw2 hG => ?_
  have hvz := (show isVals W0.heap.size l vz w2 by simpa [Flow.upd] using hG 3)
  have hvy := (show isSl vy w2 by simpa [Flow.upd] using hG 7)
  clear hG
  have HVZ := Lib.hid hvz
  obtain ⟨za, zc, rfl, _⟩ := hvz
  obtain ⟨ya, yn, yc, rfl⟩ := hvy
  have hB2 := Bt HB.out hw2
  have h02 := (hw2.block _ (by have := HSZ.out; omega)).trans H0.out
  have h12 := (hw2.block _ (by have := HSZ.out; omega)).trans H1.out
  have h22 := (hw2.block _ (by have := HSZ.out; omega)).trans H2.out
  have hs2 := hw2.size
  obtain ⟨_, f0, f1, f2, f3, f4, f5⟩ := can6 h22
  obtain ⟨W3, hW3, k2, ko, ks, kB⟩ := two13 (.slice za l.length zc) (.slice ya yn yc) h22 hB2 (by omega)
  have HK2 := Lib.hid k2
  have HK0 := Lib.hid ((ko w.heap.size (by omega)).trans h02)
  have HK1 := Lib.hid ((ko (w.heap.size + 1) (by omega)).trans h12)
  have HKB := Lib.hid kB
  have HVZ3 := Lib.hid (HVZ.out.ag (w' := W3) ⟨by rw [ks]; exact Nat.le_refl _, fun b _ hb => ko b (by have := HSZ.out; omega)⟩)
  have hb3 : w.heap.size < W3.heap.size := by have := HSZ.out; omega
  have HS3 := Lib.hid (show W0.heap.size ≤ W3.heap.size by omega)
  clear h02 h12 h22 k2 ko kB hw2 hB2 c0 c1 c2 c3 c4 c5 ks hs2
  obtain ⟨⟨c0, c1, c2, c3, c4, c5⟩, _⟩ := can6 HK0.out
  go_wp2_with (fail)
  refine Flow.wp_region_flow_tail 9 (Flow.specs [.inl ?_, .inl ?_, .inl ?_, .inr isSl, .inl ?_, .inl ?_, .inl ?_, .inr isSl, .inl ?_]) (by kernel_rfl) (by kernel_rfl) ?_ ?_
  rotate_left 7
  · refine Flow.specs_mono ?_
    repeat (first | exact Flow.lmono_nil | refine Flow.lmono_inl ?_ | refine Flow.lmono_inr isSl_mono ?_)
  all_goals try simp only [List.take_succ_cons, List.take_zero, List.drop_succ_cons, List.drop_zero]
  iterate 3 (refine Flow.tree_valK rfl (fun K hK => ⟨fun w hw hG => ?_, ?_⟩); (have hcl := Flow.bcell hw; clear hG hw; unfold Flow.Runs Flow.yields; go_simp; try rfl); go_simp; refine hK _ ?_; clear hK K)
  (refine Flow.tree_varK rfl (fun K hK => ⟨fun w hw hG => ?_, ?_⟩); (have HW := Lib.hid hw; clear hG hw; unfold Flow.Runs Flow.yields; go_simp; refine (HN.out _ (Bt HKB.out HW.out)).mono ?_; rintro e w3 ⟨v3, rfl, hf3, hb3⟩; exact ⟨v3, rfl, hb3, hf3⟩); intro vy; go_simp; refine hK _ _ ?_; clear hK K)
  iterate 3 (refine Flow.tree_valK rfl (fun K hK => ⟨fun w hw hG => ?_, ?_⟩); (have hcl := Flow.bcell hw; clear hG hw; unfold Flow.Runs Flow.yields; go_simp; try rfl); go_simp; refine hK _ ?_; clear hK K)
  (refine Flow.tree_varK rfl (fun K hK => ⟨fun w hw hG => ?_, ?_⟩); (have HW := Lib.hid hw; clear hG hw; unfold Flow.Runs Flow.yields; go_simp; refine (HX.out _ (Bt HKB.out HW.out)).mono ?_; rintro e w3 ⟨v3, rfl, hf3, hb3⟩; exact ⟨v3, rfl, hb3, hf3⟩); intro vx; go_simp; refine hK _ _ ?_; clear hK K)
  (refine Flow.tree_valK rfl (fun K hK => ⟨fun w hw hG => ?_, ?_⟩); (clear hG hw; unfold Flow.Runs Flow.yields; go_simp; try rfl); go_simp; refine hK _ ?_; clear hK K)
  refine Flow.tree_nil fun w4 hw4 hG => ?_
  obtain ⟨qa, qn, qc, rfl⟩ := (show isSl vy w4 by simpa [Flow.upd] using hG 3)
  obtain ⟨ra, rn, rc, rfl⟩ := (show isSl vx w4 by simpa [Flow.upd] using hG 7)
  clear hG c0 c1 c2 c3 c4 c5 hW3 f0 f1 f2 f3 f4 f5
  have hB4 := Bt HKB.out hw4
  have hs4 := hw4.size
  have hSZ := HSZ.out
  have hs3 := HS3.out
  have h24 := (hw4.block _ (by omega)).trans HK2.out
  have h14 := (hw4.block _ (by omega)).trans HK1.out
  obtain ⟨_, f0, f1, f2, f3, f4, f5⟩ := can6 h24
  obtain ⟨W5, hW5, k2, ko, ks5, kB⟩ := two45 (.slice qa qn qc) (.slice ra rn rc) h24 hB4 (by omega)
  obtain ⟨⟨c0, c1, c2, c3, c4, c5⟩, _⟩ := can6 k2
  have k1 := (ko (w.heap.size + 1) (by omega)).trans h14
  obtain ⟨_, g0, g1, g2, g3, g4, g5⟩ := can6 k1
  have HVZ5 := Lib.hid ((HVZ3.out.ag (Ag.new _ hw4)).ag (w' := W5) ⟨by rw [ks5]; exact Nat.le_refl _, fun b _ hb => ko b (by omega)⟩)
  have HK1' := Lib.hid k1
  have HKB5 := Lib.hid kB
  have hs5 : W3.heap.size ≤ W5.heap.size := by omega
  clear h24 h14 k2 ko kB k1 hw4 hB4
  go_wp2_with (fail)
  have q1 := set6 (.int .i64 t) (.slice za l.length zc) (.int .i64 c) (.slice ya yn yc) (.slice qa qn qc) (.slice ra rn rc) HK1'.out
  have qB := set6_below (.int .i64 t) (.slice za l.length zc) (.int .i64 c) (.slice ya yn yc) (.slice qa qn qc) (.slice ra rn rc) HKB5.out (show w.heap.size ≤ w.heap.size + 1 by omega)
  obtain ⟨⟨e0, e1, e2, e3, e4, e5⟩, _⟩ := can6 q1
  have qA : ∀ W6, W6 = ((((((W5.setCell ⟨w.heap.size + 1, 0, none⟩ (.int .i64 t)).setCell ⟨w.heap.size + 1, 1, none⟩ (.slice za l.length zc)).setCell ⟨w.heap.size + 1, 2, none⟩ (.int .i64 c)).setCell ⟨w.heap.size + 1, 3, none⟩ (.slice ya yn yc)).setCell ⟨w.heap.size + 1, 4, none⟩ (.slice qa qn qc)).setCell ⟨w.heap.size + 1, 5, none⟩ (.slice ra rn rc)) → Ag (fun b => W0.heap.size ≤ b) W5 W6 := fun W6 e => by
    rw [e]
    exact ⟨by rw [set6_size]; exact Nat.le_refl _, fun b _ hb => set6_other _ _ _ _ _ _ (by omega)⟩
  refine bodyPost_ret (v := .agg #[.int .i64 t, .slice za l.length zc, .int .i64 c, .slice ya yn yc, .slice qa qn qc, .slice ra rn rc]) (by simp [results, Tryd.results43, go_sem, e0, e1, e2, e3, e4, e5]) rfl ⟨_, _, _, _, rfl, ⟨⟨_, _, _, rfl⟩, ⟨_, _, _, rfl⟩, ⟨_, _, _, rfl⟩⟩, ?_, qB⟩
  exact (HVZ5.out.ag (qA _ rfl)).weak fun b hb => by omega
end Go.Proofs.YtdfnolgcdododaaDoor
