/- The law's schemas: at most ten names each, of at most thirty bytes. -/
import Derived.Test.YtdfnolgcdododaaDoorRows
import Derived.Test.YtdfnolgcdododaaDoorF2
import Derived.Test.YtdfnolgcdododaaDoorF1p
namespace Go.Proofs.YtdfnolgcdododaaDoor
open Go.RowKit Go.Sort

theorem infoStr : (Tryd.prog.info? 9).map (fun i => (i.zero, i.size, i.bytes)) = some (some (.string ByteArray.empty), 1, 16) := by kernel_rfl
/-- The first names, cut. -/
def namesV (m _n : Nat) (l : List ByteArray) (k : Nat) : List Value := ((l.take k).map (cutN m)).map .string
def namesN (m n : Nat) (l : List ByteArray) : List ByteArray := (l.take n).map (cutN m)
theorem names_snoc (m n : Nat) (l : List ByteArray) (k : Nat) (h : k < l.length) (x : ByteArray) (hx : cutN m l[k] = x) : namesV m n l k ++ [.string x] = namesV m n l (k + 1) := by
  unfold namesV
  rw [List.take_succ_eq_append_getElem h, ← hx, List.map_append, List.map_append]; rfl
theorem names_end (m n : Nat) (l : List ByteArray) (k : Nat) (h : ¬ (k < l.length ∧ k < n)) (h1 : k ≤ l.length) (h2 : k ≤ n) : namesV m n l k = (namesN m n l).map .string := by
  unfold namesN namesV
  by_cases e : k = n
  · rw [e]
  · rw [List.take_of_length_le (by omega), List.take_of_length_le (by omega)]
theorem names_small (m n : Nat) (l : List ByteArray) (h : m ≤ 9223372036854775807) : ∀ x ∈ namesN m n l, x.size ≤ maxLen := by
  intro x hx
  obtain ⟨y, _, rfl⟩ := List.mem_map.1 hx
  have := cutN_size m y
  unfold maxLen; omega
def cutSch (s : Tess.Sch) : Tess.Sch := ⟨namesN 30 10 s.dims, namesN 30 10 s.mets, s.grain⟩
/-- A schema in memory. -/
def SchAt (p : Nat → Prop) (w : World) (v : Value) (s : Tess.Sch) : Prop :=
  ∃ vd vm, v = .agg #[vd, vm, .int .i64 s.grain] ∧ SlP p w vd (s.dims.map .string) ∧ SlP p w vm (s.mets.map .string) ∧ (∀ x ∈ s.dims, x.size ≤ maxLen) ∧ (∀ x ∈ s.mets, x.size ≤ maxLen)

theorem SchAt.ag {p : Nat → Prop} {w w' : World} {v : Value} {s : Tess.Sch} (h : SchAt p w v s) (hg : Ag p w w') : SchAt p w' v s :=
  let ⟨vd, vm, h1, h2, h3, h4, h5⟩ := h; ⟨vd, vm, h1, h2.ag hg, h3.ag hg, h4, h5⟩
theorem SchAt.weak {p q : Nat → Prop} {w : World} {v : Value} {s : Tess.Sch} (h : SchAt p w v s) (hpq : ∀ b, p b → q b) : SchAt q w v s :=
  let ⟨vd, vm, h1, h2, h3, h4, h5⟩ := h; ⟨vd, vm, h1, h2.weak hpq, h3.weak hpq, h4, h5⟩
/-- What lies there between two rounds. -/
structure Cs (B : Nat) (vd vm : Value) (g : Int) (od om : Value) (w W : World) : Prop where
  k1 : W.heap[B]? = some (.cells #[vd, vm, .int .i64 g] 24 (0, 0))
  k2 : W.heap[B + 1]? = some (.cells #[.slice none 0 0, .slice none 0 0, .int .i64 0] 24 (0, 0))
  k3 : W.heap[B + 2]? = some (.cells #[od, om, .int .i64 0] 24 (0, 0))
  below : Below w.heap.size w W
  size : w.heap.size = B

section
variable {B : Nat} {vd vm od om od' : Value} {g : Int} {w W W' : World}
theorem Cs.later (h : Cs B vd vm g od om w W) (hb : Below W.heap.size W W') (hs : B + 2 < W.heap.size) : Cs B vd vm g od om w W' :=
  ⟨(hb.block _ (by omega)).trans h.k1, (hb.block _ (by omega)).trans h.k2, (hb.block _ (by omega)).trans h.k3, Bt h.below hb, h.size⟩
theorem Cs.grown (h : Cs B vd vm g od om w W) {o : Option Nat} (hg : W.grownBy W' o) (ho : ∀ k, o = some k → B + 3 ≤ k) (hs : B + 2 < W.heap.size) : Cs B vd vm g od om w W' :=
  ⟨(hg.block _ (by omega) (fun e => by have := ho _ e.symm; omega)).trans h.k1, (hg.block _ (by omega) (fun e => by have := ho _ e.symm; omega)).trans h.k2, (hg.block _ (by omega) (fun e => by have := ho _ e.symm; omega)).trans h.k3,
    h.below.grown hg h.below.size (fun k e => by have := ho k e; have := h.size; omega), h.size⟩
theorem Cs.set0 (h : Cs B vd vm g od om w W) (od' : Value) : Cs B vd vm g od' om w (W.setCell ⟨B + 2, 0, none⟩ od') :=
  ⟨(heap_setCell_other _ _ _ _ (by show _ ≠ B + 2; omega)).trans h.k1, (heap_setCell_other _ _ _ _ (by show _ ≠ B + 2; omega)).trans h.k2, heap_setCell_same _ _ _ _ _ _ h.k3, h.below.setCell (by show _ ≤ B + 2; have := h.size; omega) _, h.size⟩
theorem Cs.set1 (h : Cs B vd vm g od om w W) (om' : Value) : Cs B vd vm g od om' w (W.setCell ⟨B + 2, 1, none⟩ om') :=
  ⟨(heap_setCell_other _ _ _ _ (by show _ ≠ B + 2; omega)).trans h.k1, (heap_setCell_other _ _ _ _ (by show _ ≠ B + 2; omega)).trans h.k2, heap_setCell_same _ _ _ _ _ _ h.k3, h.below.setCell (by show _ ≤ B + 2; have := h.size; omega) _, h.size⟩
end

set_option maxRecDepth 100000 in
set_option maxHeartbeats 2000000 in
theorem cutSch_any (v : Value) (s : Tess.Sch) (w : World) (p : Nat → Prop) (hv : SchAt p w v s) :
    Calls Tryd.prog 11 #[v] w fun e w' => ∃ v', e = .returned v' ∧ SchAt (fun b => w.heap.size ≤ b) w' v' (cutSch s) ∧ Below w.heap.size w w' := by
  obtain ⟨vd, vm, rfl, hd, hm, hds, hms⟩ := hv
  obtain ⟨ds, ms, g⟩ := s
  simp only at hd hm hds hms
  obtain ⟨ad, capd, rfl, hld, hcd⟩ := sls_open hd.1
  obtain ⟨am, capm, rfl, hlm, hcm⟩ := sls_open hm.1
  have HCD := Lib.hid hcd
  have HCM := Lib.hid hcm
  have HDS := Lib.hid hds
  have HMS := Lib.hid hms
  clear hcd hcm hd hm hds hms
  obtain ⟨i0, hi, hz0, hz1, hz2⟩ := info_parts infoStr
  go_enter Tryd.func11, Tryd.ntmps11
  go_wp2
  obtain ⟨W0, hW0⟩ : ∃ W0, ((w.alloc (.cells #[.slice ad ds.length capd, .slice am ms.length capm, .int .i64 g] 24)).alloc (.cells #[.slice none 0 0, .slice none 0 0, .int .i64 0] 24)).alloc (.cells #[.slice none 0 0, .slice none 0 0, .int .i64 0] 24) = W0 := ⟨_, rfl⟩
  have hC0 : Cs w.heap.size (.slice ad ds.length capd) (.slice am ms.length capm) g (.slice none 0 0) (.slice none 0 0) w W0 := by
    rw [← hW0]
    obtain ⟨a1, a2, a3, a4, a5⟩ := laid3 w (.cells #[.slice ad ds.length capd, .slice am ms.length capm, .int .i64 g] 24) (.cells #[.slice none 0 0, .slice none 0 0, .int .i64 0] 24) (.cells #[.slice none 0 0, .slice none 0 0, .int .i64 0] 24)
    exact ⟨a1, a2, a3, a5, rfl⟩
  have hS0 : W0.heap.size = w.heap.size + 3 := by rw [← hW0]; simp
  rw [hW0]
  clear hW0
  obtain ⟨B, hBe⟩ : ∃ B, w.heap.size = B := ⟨_, rfl⟩
  have HBE := Lib.hid hBe
  rw [hBe] at hC0 hS0 ⊢
  clear hBe
  go_loopw [4] (fun i wr => ∃ (k : Nat) (od : Value), k ≤ ds.length ∧ k ≤ 10 ∧ i = .int .i64 k ∧ Cs B (.slice ad ds.length capd) (.slice am ms.length capm) g od (.slice none 0 0) w wr ∧ wr.ownsRow (B + 3) 9 1 od k (namesV 30 10 ds k) ∧ B + 3 ≤ wr.heap.size) (fun i _ => 10 - (intOf i).toNat)
  case atStart => exact ⟨0, _, Nat.zero_le _, Nat.zero_le _, rfl, hC0, by simpa [namesV] using World.ownsRow_nil W0 (B + 3) 9 1, by omega⟩
  case round =>
    obtain ⟨k, od, hk, hk10, rfl, hC, hown, hsz⟩ := hrel
    have HC := Lib.hid hC
    have HO := Lib.hid hown
    clear hC hown hC0 hS0
    have c1 := cell_of_row wr B 0 _ _ _ HC.out.k1
    have c3 := cell_of_row wr (B + 1 + 1) 0 _ _ _ HC.out.k3
    have z3 := frozen_of_row wr (B + 1 + 1) 0 _ _ HC.out.k3
    simp only [List.getElem?_toArray, List.getElem?_cons_zero] at c1 c3
    have s1 : B < wr.heap.size := by omega
    have s3 : B + 1 + 1 < wr.heap.size := by omega
    by_cases hlt : k < ds.length ∧ k < 10
    · obtain ⟨h1, h2⟩ := hlt
      obtain ⟨b, off, rfl, hb, hcell⟩ := HCD.out k h1
      have hck : wr.cell? ⟨b, off + k, none⟩ = some (.string ds[k]) := (HC.out.below.cell (p := ⟨b, off + k, none⟩) (HBE.out ▸ hb)).trans hcell
      have hdk : ds[k].size ≤ 9223372036854775807 := HDS.out _ (List.getElem_mem h1)
      have hbw : b < wr.heap.size := Nat.lt_of_lt_of_le hb HC.out.below.size
      clear hcell hb
      go_wp2
      obtain ⟨x, hx⟩ : ∃ x, x = cutN 30 ds[k] := ⟨_, rfl⟩
      have HX := Lib.hid hx
      clear hx
      rcases (show ((30 : Int) < (ds[k].size : Int) ∧ (¬ (ds[k].size : Int) ≤ 30 ∧ (30 : Int) ≤ (ds[k].size : Int))) ∨ (¬ (30 : Int) < (ds[k].size : Int) ∧ (ds[k].size : Int) ≤ 30) by omega) with ⟨h3i, h3j⟩ | ⟨h3i, h3j⟩
      all_goals
        refine Flow.wp_region_flow_tail 16 (Flow.specs [.inl ?_, .inl ?_, .inl ?_, .inl ?_, .inl ?_, .inl ?_, .inl ?_, .inl ?_, .inl ?_, .inl ?_, .inl ?_, .inl ?_, .inl ?_, .inl ?_, .inl ?_, .inr (newOne (.string x))]) (by kernel_rfl) (by kernel_rfl) ?_ ?_
        rotate_left 15
        · refine Flow.specs_mono ?_
          repeat (first | exact Flow.lmono_nil | refine Flow.lmono_inl ?_ | refine Flow.lmono_inr (newOne_mono _) ?_)
        all_goals try simp only [List.take_succ_cons, List.take_zero, List.drop_succ_cons, List.drop_zero]
        iterate 15 (refine Flow.tree_valK rfl (fun K hK => ⟨fun w hw hG => ?_, ?_⟩); (have hcl := Flow.bcell hw; clear hG hw; unfold Flow.Runs Flow.yields; go_simp; try rfl); go_simp; refine hK _ ?_; clear hK K)
        (refine Flow.tree_varK rfl (fun K hK => ⟨fun w hw hG => ?_, ?_⟩); (clear hG hw; unfold Flow.Runs Flow.yields; go_simp; refine ⟨(Below.refl _ _).alloc (Nat.le_refl _) _, ?_⟩; rw [HX.out]); rotate_left; intro vz; go_simp; refine hK _ _ ?_; clear hK K; rotate_left)
        · first | exact newOne_mk _ _ _ | (rw [cutN_self _ _ (by omega)]; exact newOne_mk _ _ _)
        refine Flow.tree_nil fun w2 hw2 hG => ?_
        obtain ⟨gn, rfl, hgn, hcn⟩ := (show newOne (.string x) vz w2 by simpa [Flow.upd] using hG 15)
        clear hG
        have HO2 := Lib.hid (owns_below HO.out hw2)
        have HE := Lib.hid (names_snoc 30 10 ds k h1 x HX.out.symm)
        have HC2 := Lib.hid (HC.out.later hw2 (by omega))
        have hsz2 := hw2.size
        go_wp2_with (at_builtin; refine wpList_append_own _ rfl _ _ 22 rfl (B + 3) 9 i0 (.string ByteArray.empty) 1 16 Tryd.underlying22 hi hz0 hz1 hz2 rfl (by decide) _ _ _ rfl HO2.out ⟨gn, 0, none⟩ 1 1 [.string x] rfl rfl ?_ ?_ ?_ ?_ ?_ ?_)
        · intro j u hj; rcases j with _ | j <;> simp at hj; subst hj; simpa [Addr.add] using hcn
        · simp [Value.oneCell']
        · unfold maxLen; omega
        · omega
        · omega
        intro v' w3 hown3 hgrow _
        obtain ⟨gg, cp, rfl, _⟩ := owns_cell hown3 (by omega)
        have HC3 := Lib.hid (HC2.out.grown hgrow (fun j e => (HO2.out.lt j e).1) (by omega))
        have HO3 := Lib.hid (joinl_owned hown3 HE.out)
        have hsz3 := hgrow.size
        clear hown3 hgrow
        have z3 := frozen_of_row w3 (B + 1 + 1) 0 _ _ HC3.out.k3
        have c3 := cell_of_row w3 (B + 1 + 1) 0 _ _ _ HC3.out.k3
        simp only [List.getElem?_toArray, List.getElem?_cons_zero] at c3
        go_wp2
        go_roundw
        case rel => exact ⟨k + 1, _, by omega, by omega, by go_num, HC3.out.set0 _, ownsRow_setCell_below HO3.out (by show B + 1 + 1 < _; omega) _, by simp [World.setCell]; omega⟩
        case measure => simp [intOf]; omega
    · have HE := Lib.hid (names_end 30 10 ds k (by omega) hk hk10)
      have HP0 := Lib.hid ((SlP.owned (HE.out ▸ HO.out)).lt)
      obtain ⟨N1, hN1⟩ : ∃ N1, N1 = wr.heap.size := ⟨_, rfl⟩
      rw [← hN1] at HP0
      have HN1 := Lib.hid hN1
      clear hN1
      obtain ⟨wo, rfl⟩ : ∃ wo : World, wo = wr := ⟨_, rfl⟩
      have HCo := Lib.hid HC.out
      clear HO HE HC
      rcases (show (¬ (k : Int) < (ds.length : Int)) ∨ ((k : Int) < (ds.length : Int) ∧ ¬ (k : Int) < 10) by omega) with hni | ⟨hkl, hni⟩
      all_goals
        clear hlt
        go_wp2
        go_loopw [5] (fun i wq => ∃ (k : Nat) (om : Value), k ≤ ms.length ∧ k ≤ 10 ∧ i = .int .i64 k ∧ Cs B (.slice ad ds.length capd) (.slice am ms.length capm) g od om w wq ∧ wq.ownsRow N1 9 1 om k (namesV 30 10 ms k) ∧ SlP (fun b => B + 3 ≤ b ∧ b < N1) wq od ((namesN 30 10 ds).map .string) ∧ N1 ≤ wq.heap.size) (fun i _ => 10 - (intOf i).toNat)
        case atStart => exact ⟨0, _, Nat.zero_le _, Nat.zero_le _, rfl, HCo.out, by simpa [namesV] using World.ownsRow_nil wo N1 9 1, HP0.out, by rw [HN1.out]; exact Nat.le_refl _⟩
        case round =>
          have hNB : B + 3 ≤ N1 := by rw [HN1.out]; exact hsz
          clear HP0 HCo hni c1 c3 z3 s1 s3
          obtain ⟨k, om, hk, hk10, rfl, hC, hown, hP, hszq⟩ := hrel
          have HC := Lib.hid hC
          have HO := Lib.hid hown
          have HP := Lib.hid hP
          clear hC hown hP
          have c1 := cell_of_row wr B 1 _ _ _ HC.out.k1
          have c3 := cell_of_row wr (B + 1 + 1) 1 _ _ _ HC.out.k3
          have z3 := frozen_of_row wr (B + 1 + 1) 1 _ _ HC.out.k3
          simp only [List.getElem?_toArray, List.getElem?_cons_succ, List.getElem?_cons_zero] at c1 c3
          have s1 : B < wr.heap.size := by omega
          have s3 : B + 1 + 1 < wr.heap.size := by omega
          by_cases hlt : k < ms.length ∧ k < 10
          · obtain ⟨h1, h2⟩ := hlt
            obtain ⟨b, off, rfl, hb, hcell⟩ := HCM.out k h1
            have hck : wr.cell? ⟨b, off + k, none⟩ = some (.string ms[k]) := (HC.out.below.cell (p := ⟨b, off + k, none⟩) (HBE.out ▸ hb)).trans hcell
            have hmk : ms[k].size ≤ 9223372036854775807 := HMS.out _ (List.getElem_mem h1)
            have hbw : b < wr.heap.size := Nat.lt_of_lt_of_le hb HC.out.below.size
            clear hcell hb
            go_wp2
            obtain ⟨x, hx⟩ : ∃ x, x = cutN 30 ms[k] := ⟨_, rfl⟩
            have HX := Lib.hid hx
            clear hx
            rcases (show ((30 : Int) < (ms[k].size : Int) ∧ (¬ (ms[k].size : Int) ≤ 30 ∧ (30 : Int) ≤ (ms[k].size : Int))) ∨ (¬ (30 : Int) < (ms[k].size : Int) ∧ (ms[k].size : Int) ≤ 30) by omega) with ⟨h3i, h3j⟩ | ⟨h3i, h3j⟩
            all_goals
              refine Flow.wp_region_flow_tail 16 (Flow.specs [.inl ?_, .inl ?_, .inl ?_, .inl ?_, .inl ?_, .inl ?_, .inl ?_, .inl ?_, .inl ?_, .inl ?_, .inl ?_, .inl ?_, .inl ?_, .inl ?_, .inl ?_, .inr (newOne (.string x))]) (by kernel_rfl) (by kernel_rfl) ?_ ?_
              rotate_left 15
              · refine Flow.specs_mono ?_
                repeat (first | exact Flow.lmono_nil | refine Flow.lmono_inl ?_ | refine Flow.lmono_inr (newOne_mono _) ?_)
              all_goals try simp only [List.take_succ_cons, List.take_zero, List.drop_succ_cons, List.drop_zero]
              iterate 15 (refine Flow.tree_valK rfl (fun K hK => ⟨fun w hw hG => ?_, ?_⟩); (have hcl := Flow.bcell hw; clear hG hw; unfold Flow.Runs Flow.yields; go_simp; try rfl); go_simp; refine hK _ ?_; clear hK K)
              (refine Flow.tree_varK rfl (fun K hK => ⟨fun w hw hG => ?_, ?_⟩); (clear hG hw; unfold Flow.Runs Flow.yields; go_simp; refine ⟨(Below.refl _ _).alloc (Nat.le_refl _) _, ?_⟩; rw [HX.out]); rotate_left; intro vz; go_simp; refine hK _ _ ?_; clear hK K; rotate_left)
              · first | exact newOne_mk _ _ _ | (rw [cutN_self _ _ (by omega)]; exact newOne_mk _ _ _)
              refine Flow.tree_nil fun w2 hw2 hG => ?_
              obtain ⟨gn, rfl, hgn, hcn⟩ := (show newOne (.string x) vz w2 by simpa [Flow.upd] using hG 15)
              clear hG
              have HO2 := Lib.hid (owns_below HO.out hw2)
              have HE := Lib.hid (names_snoc 30 10 ms k h1 x HX.out.symm)
              have HC2 := Lib.hid (HC.out.later hw2 (by omega))
              have hsz2 := hw2.size
              go_wp2_with (at_builtin; refine wpList_append_own _ rfl _ _ 22 rfl N1 9 i0 (.string ByteArray.empty) 1 16 Tryd.underlying22 hi hz0 hz1 hz2 rfl (by decide) _ _ _ rfl HO2.out ⟨gn, 0, none⟩ 1 1 [.string x] rfl rfl ?_ ?_ ?_ ?_ ?_ ?_)
              · intro j u hj; rcases j with _ | j <;> simp at hj; subst hj; simpa [Addr.add] using hcn
              · simp [Value.oneCell']
              · unfold maxLen; omega
              · omega
              · omega
              intro v' w3 hown3 hgrow _
              obtain ⟨gg, cp, rfl, _⟩ := owns_cell hown3 (by omega)
              have HC3 := Lib.hid (HC2.out.grown hgrow (fun j e => by have := (HO2.out.lt j e).1; omega) (by omega))
              have HO3 := Lib.hid (joinl_owned hown3 HE.out)
              have hsz3 := hgrow.size
              have HP3 := Lib.hid ((HP.out.ag (Ag.new _ hw2)).ag (Ag.grown hgrow (fun j e => by have := (HO2.out.lt j e).1; rintro ⟨_, h⟩; omega)))
              clear hown3 hgrow
              have z3 := frozen_of_row w3 (B + 1 + 1) 1 _ _ HC3.out.k3
              have c3 := cell_of_row w3 (B + 1 + 1) 1 _ _ _ HC3.out.k3
              simp only [List.getElem?_toArray, List.getElem?_cons_succ, List.getElem?_cons_zero] at c3
              go_wp2
              go_roundw
              case rel => exact ⟨k + 1, _, by omega, by omega, by go_num, HC3.out.set1 _, ownsRow_setCell_below HO3.out (by show B + 1 + 1 < _; omega) _, HP3.out.ag (Ag.set _ _ _ (by rintro ⟨h, _⟩; have : B + 3 ≤ B + 1 + 1 := h; omega)), by simp [World.setCell]; omega⟩
              case measure => simp [intOf]; omega
          · have HE := Lib.hid (names_end 30 10 ms k (by omega) hk hk10)
            have HQ := Lib.hid ((SlP.owned (HE.out ▸ HO.out)).weak (q := fun b => B + 3 ≤ b) (fun b hb => by have : N1 ≤ b := hb; omega))
            obtain ⟨ao, no, co, rfl⟩ := HP.out.shape
            obtain ⟨am', nm', cm', rfl⟩ := HQ.out.shape
            have c2 := cell_of_row wr B 2 _ _ _ HC.out.k1
            have d0 := cell_of_row wr (B + 1 + 1) 0 _ _ _ HC.out.k3
            have d2 := cell_of_row wr (B + 1 + 1) 2 _ _ _ HC.out.k3
            have z2 := frozen_of_row wr (B + 1 + 1) 2 _ _ HC.out.k3
            have y0 := frozen_of_row wr (B + 1) 0 _ _ HC.out.k2
            have y1 := frozen_of_row wr (B + 1) 1 _ _ HC.out.k2
            have y2 := frozen_of_row wr (B + 1) 2 _ _ HC.out.k2
            have e0 := cell_of_row wr (B + 1) 0 _ _ _ HC.out.k2
            have e1 := cell_of_row wr (B + 1) 1 _ _ _ HC.out.k2
            have e2 := cell_of_row wr (B + 1) 2 _ _ _ HC.out.k2
            simp only [List.getElem?_toArray, List.getElem?_cons_succ, List.getElem?_cons_zero] at c2 d0 d2 e0 e1 e2
            rcases (show (¬ (k : Int) < (ms.length : Int)) ∨ ((k : Int) < (ms.length : Int) ∧ ¬ (k : Int) < 10) by omega) with hni | ⟨hkl, hni⟩
            all_goals
              clear hlt
              go_wp2
              have hAg : ∀ q : Nat → Prop, ¬ q (B + 1 + 1) → ¬ q (B + 1) → Ag q wr ((((wr.setCell ⟨B + 1 + 1, 2, none⟩ (.int .i64 g)).setCell ⟨B + 1, 0, none⟩ (.slice ao no co)).setCell ⟨B + 1, 1, none⟩ (.slice am' nm' cm')).setCell ⟨B + 1, 2, none⟩ (.int .i64 g)) :=
                fun q h2 h1 => (((Ag.set q _ _ h2).trans (Ag.set q _ _ h1)).trans (Ag.set q _ _ h1)).trans (Ag.set q _ _ h1)
              refine bodyPost_ret (v := .agg #[.slice ao no co, .slice am' nm' cm', .int .i64 g]) (by simp [results, Tryd.results11, go_sem, e0, e1, e2]) rfl ⟨_, rfl, ⟨_, _, rfl, ?_, ?_, ?_, ?_⟩, ?_⟩
              · exact ((HP.out.ag (hAg _ (by omega) (by omega))).weak fun b hb => by have := HBE.out; omega)
              · exact ((HQ.out.ag (hAg _ (by omega) (by omega))).weak fun b hb => by have := HBE.out; omega)
              · exact names_small 30 10 ds (by omega)
              · exact names_small 30 10 ms (by omega)
              · have hBE := HBE.out
                exact (((HC.out.below.setCell (by show _ ≤ B + 1 + 1; omega) _).setCell (by show _ ≤ B + 1; omega) _).setCell (by show _ ≤ B + 1; omega) _).setCell (by show _ ≤ B + 1; omega) _
end Go.Proofs.YtdfnolgcdododaaDoor
