/- Is a filter right, but for those of its list? The program's, walked. -/
import Derived.Test.YtdfnolgcdododaaDoorF15
import Derived.Test.YtdfnolgcdododaaDoorFlR
namespace Go.Proofs.YtdfnolgcdododaaDoor
open Go.RowKit Go.Sort
open Tess (Fil)

def isForms (v : Value) (w : World) : Prop := ∃ b, v = .map (some b) ∧ FormsAt w b
theorem FormsAt.below {w w' : World} {b : Nat} (h : FormsAt w b) (hb : Below w.heap.size w w') : FormsAt w' b := World.ownsMap.kept h (Below.grownNone hb) (by simp)
theorem isFormsR_mono {B : Nat} {t : TypeId} {Z Y : Array Value} : FlowR.Spec.mono (FlowR.once B t Z Y) (.inr isForms) := by
  rintro v a b ⟨g, h1, es, clock, hb, hf⟩ hr
  refine ⟨g, h1, es, clock, ?_, hf⟩
  rcases hr.2.2.2.2.2 g (Array.getElem?_eq_some_iff.1 hb).1 with e | ⟨e, _⟩
  · exact e.trans hb
  · rw [hb] at e; cases e
theorem isForms_mono : Flow.Spec.mono (.inr isForms) := fun _ _ _ ⟨b, h1, h2⟩ hb => ⟨b, h1, h2.below hb⟩

theorem once_set6 {B : Nat} {t : TypeId} {Z : Array Value} {w : World} {g : Nat} {x0 x1 x2 x3 x4 x5 y0 y1 y2 y3 y4 y5 : Value} (v : Value) (h : w.heap[g]? = some (.cells #[x0, x1, x2, x3, x4, x5] t (0, 0))) (hx : #[x0, x1, x2, x3, x4, x5] = Z ∨ #[x0, x1, x2, x3, x4, x5] = #[y0, y1, y2, y3, y4, y5]) (hB : B ≤ g) :
    (FlowR.once B t Z #[y0, y1, y2, y3, y4, y5]).r w ((((((w.setCell ⟨g, 0, none⟩ y0).setCell ⟨g, 1, none⟩ y1).setCell ⟨g, 2, none⟩ y2).setCell ⟨g, 3, none⟩ y3).setCell ⟨g, 4, none⟩ y4).setCell ⟨g, 5, none⟩ y5) ∧
      FlowR.Done B t #[y0, y1, y2, y3, y4, y5] (.pointer (some ⟨g, 0, none⟩)) v ((((((w.setCell ⟨g, 0, none⟩ y0).setCell ⟨g, 1, none⟩ y1).setCell ⟨g, 2, none⟩ y2).setCell ⟨g, 3, none⟩ y3).setCell ⟨g, 4, none⟩ y4).setCell ⟨g, 5, none⟩ y5) := by
  have hb := set6_below y0 y1 y2 y3 y4 y5 (Below.refl B w) hB
  have hs := set6 y0 y1 y2 y3 y4 y5 h
  have ho : ∀ k, k ≠ g → _ := fun k e => set6_other (W := w) (g := g) (k := k) y0 y1 y2 y3 y4 y5 e
  generalize ((((((w.setCell ⟨g, 0, none⟩ y0).setCell ⟨g, 1, none⟩ y1).setCell ⟨g, 2, none⟩ y2).setCell ⟨g, 3, none⟩ y3).setCell ⟨g, 4, none⟩ y4).setCell ⟨g, 5, none⟩ y5) = W at *
  refine ⟨⟨hb.os, hb.tape, hb.output, hb.size, hb.block, fun k hk => ?_⟩, g, rfl, hB, hs⟩
  by_cases e : k = g
  · subst e
    rcases hx with hx | hx
    · exact .inr ⟨hx ▸ h, hs⟩
    · exact .inl (hs.trans (hx ▸ h).symm)
  · exact .inl (ho k e)
theorem right_cells {w w' : World} {g b : Nat} {x0 x1 x2 x3 x4 x5 y0 y1 y2 y3 y4 y5 : Value} {t u : TypeId} (hB : Below w.heap.size w w') (hg : w.heap[g]? = some (.cells #[x0, x1, x2, x3, x4, x5] t (0, 0))) (hb : w.heap[b]? = some (.cells #[y0, y1, y2, y3, y4, y5] u (0, 0))) :
    w'.cell? ⟨g, 0, none⟩ = some x0 ∧ w'.cell? ⟨g, 1, none⟩ = some x1 ∧ w'.cell? ⟨g, 2, none⟩ = some x2 ∧ w'.cell? ⟨g, 3, none⟩ = some x3 ∧ w'.cell? ⟨g, 4, none⟩ = some x4 ∧ w'.cell? ⟨g, 5, none⟩ = some x5 ∧
      w'.cell? ⟨b, 1, none⟩ = some y1 ∧ w'.cell? ⟨b, 2, none⟩ = some y2 ∧ w'.cell? ⟨b, 3, none⟩ = some y3 ∧ w'.cell? ⟨b, 4, none⟩ = some y4 ∧ w'.cell? ⟨b, 5, none⟩ = some y5 := by
  have hg' := (hB.block _ (Array.getElem?_eq_some_iff.1 hg).1).trans hg
  have hb' := (hB.block _ (Array.getElem?_eq_some_iff.1 hb).1).trans hb
  exact ⟨cell_of_row _ _ 0 _ _ _ hg', cell_of_row _ _ 1 _ _ _ hg', cell_of_row _ _ 2 _ _ _ hg', cell_of_row _ _ 3 _ _ _ hg', cell_of_row _ _ 4 _ _ _ hg', cell_of_row _ _ 5 _ _ _ hg', cell_of_row _ _ 1 _ _ _ hb', cell_of_row _ _ 2 _ _ _ hb', cell_of_row _ _ 3 _ _ _ hb', cell_of_row _ _ 4 _ _ _ hb', cell_of_row _ _ 5 _ _ _ hb'⟩
theorem forms_run (w : World) : Calls Tryd.prog 87 #[] w fun e w' => ∃ v, e = .returned v ∧ Below w.heap.size w w' ∧ isForms v w' :=
  (forms_any w).mono fun _ _ ⟨b, h1, h2, h3⟩ => ⟨_, h1, h3, b, rfl, h2⟩

set_option maxRecDepth 100000 in
set_option maxHeartbeats 4000000 in
theorem isRight_any (p : Nat → Prop) (n : Nat) (vs v : Value) (s : Tess.Sch) (f : Fil) (w : World) (hs : SchAt p w vs s) (hv : FilAt p n w v f) (hk : -9223372036854775808 ≤ f.kind ∧ f.kind ≤ 9223372036854775807) :
    Calls Tryd.prog 55 #[vs, v] w fun e w' => e = .returned (.bool (Fil.own s f)) ∧ Below w.heap.size w w' := by
  have HDIM := Lib.hid (fun W (hB : Below w.heap.size w W) => dim_any vs s f.name p W (hs.ag (Ag.new p hB)))
  obtain ⟨vd, vm, rfl, hd, hm, _, _⟩ := hs
  obtain ⟨ad, capd, rfl, _⟩ := slp_len hd
  obtain ⟨am, capm, rfl, _⟩ := slp_len hm
  cases n with
  | zero => exact hv.elim
  | succ n =>
  obtain ⟨vw, a, cap, rfl, hnm, hw, _, hll, _, _⟩ := hv
  have HCL := Lib.hid (fun W (hB : Below w.heap.size w W) => contains_long vw f.words W (hw.1.below hB))
  obtain ⟨aw, capw, rfl, hwl⟩ := slp_len hw
  obtain ⟨x, hx⟩ : ∃ x, x = (Fil.form f.kind).getD zeroForm := ⟨_, rfl⟩
  obtain ⟨ok, hok⟩ : ∃ ok, ok = (Fil.form f.kind).isSome := ⟨_, rfl⟩
  have HLOOK : RowKit.Hid (∀ (W : World) (b : Nat), FormsAt W b → (Instr.lookup 136 (.map (some b)) (.int .i64 f.kind) true).run Tryd.prog W = .ok (.tuple #[formV x, .bool ok]) W) := Lib.hid (fun W b h => by rw [hx, hok]; exact h.look f.kind hk)
  have HOWN : RowKit.Hid (Fil.own s f = (ok && ((Tess.dimW s f.name).2 == x.1) && ((Tess.dimW s f.name).2 || f.name.size == 0) && (x.2.1 || (decide (f.frm = 0) && decide (f.to = 0))) && Fil.inW f.words.length x.2.2.1 && Fil.inW f.l.length x.2.2.2 && !f.words.any Tess.isLong)) := Lib.hid (by
    rw [hx, hok]
    unfold Fil.own
    cases Fil.form f.kind with
    | none => rfl
    | some y => obtain ⟨y1, y2, y3, y4⟩ := y; simp only [Option.getD_some, Option.isSome_some, Bool.true_and]; rfl)
  clear hd hm hw hx hok
  obtain ⟨hn, hsp, ⟨w0, w1⟩, l0, l1⟩ := x
  have HW := Lib.hid (fun w => fwithin_any f.words.length w0 w1 w)
  have HL := Lib.hid (fun w => fwithin_any f.l.length l0 l1 w)
  simp only [formV] at HLOOK
  simp only at HOWN
  generalize Fil.own s f = ow at *
  generalize Tess.dimW s f.name = dm at *
  obtain ⟨di, isD⟩ := dm
  simp only at HDIM HOWN
  go_enter Tryd.func55, Tryd.ntmps55
  go_wp2
  obtain ⟨W0, hW0⟩ : ∃ W0, (w.alloc (.cells #[.slice ad s.dims.length capd, .slice am s.mets.length capm, .int .i64 s.grain] 24)).alloc (.cells #[.int .i64 f.kind, .string f.name, .slice aw f.words.length capw, .int .i64 f.frm, .int .i64 f.to, .slice a f.l.length cap] 29) = W0 := ⟨_, rfl⟩
  obtain ⟨hk1, hk2, hS0, hB0⟩ : W0.heap[w.heap.size]? = some (.cells #[.slice ad s.dims.length capd, .slice am s.mets.length capm, .int .i64 s.grain] 24 (0, 0)) ∧ W0.heap[w.heap.size + 1]? = some (.cells #[.int .i64 f.kind, .string f.name, .slice aw f.words.length capw, .int .i64 f.frm, .int .i64 f.to, .slice a f.l.length cap] 29 (0, 0)) ∧ W0.heap.size = w.heap.size + 2 ∧ Below w.heap.size w W0 := by rw [← hW0]; exact laid2 w _ _
  rw [hW0]
  clear hW0
  have s1 : w.heap.size + 1 < W0.heap.size := by omega
  have c0 := cell_of_row W0 (w.heap.size + 1) 0 _ _ _ hk2
  simp only [List.getElem?_toArray, List.getElem?_cons_zero] at c0
  have HS0 := Lib.hid hS0
  have HB0 := Lib.hid hB0
  have HK1 := Lib.hid hk1
  have HK2 := Lib.hid hk2
  clear hS0 hB0 hk1 hk2
  obtain ⟨Z, hZ⟩ : ∃ Z : Array Value, Z = #[.bool false, .bool false, .int .i64 0, .int .i64 0, .int .i64 0, .int .i64 0] := ⟨_, rfl⟩
  obtain ⟨Y, hY⟩ : ∃ Y : Array Value, Y = #[.bool hn, .bool hsp, .int .i64 (w0 : Nat), .int .i64 (w1 : Nat), .int .i64 (l0 : Nat), .int .i64 (l1 : Nat)] := ⟨_, rfl⟩
  have HZ := Lib.hid hZ
  have HY := Lib.hid hY
  clear hZ hY
  refine FlowR.wp_region_flow (R := FlowR.once (w.heap.size + 2) 134 Z Y) (FlowR.specs 8 (fun x => .inr (FlowR.Done (w.heap.size + 2) 134 Y x)) [.inr isForms, .inl ?_, .inl ?_, .inl ?_, .inl ?_, .inl ?_, .inl ?_, .inr (FlowR.One (w.heap.size + 2) 134 Z Y), .inl undef, .inl ?_]) (fun _ => 5) (FlowR.specs_ok (by kernel_rfl)) (by kernel_rfl) (by kernel_rfl) ?_ ?_
  rotate_left 7
  · refine FlowR.specs_mono (fun x => FlowR.done_mono x) ?_
    repeat (first | exact FlowR.lmono_nil | refine FlowR.lmono_inl ?_ | refine FlowR.lmono_inr isFormsR_mono ?_ | refine FlowR.lmono_inr FlowR.one_mono ?_)
  (refine FlowR.tree_varK rfl (fun K hK => ⟨fun w hw hG => ?_, ?_⟩); (have hws := hw.2.2.2.1; rw [HS0.out] at hws; clear hG hw; unfold FlowR.Runs FlowR.yields; go_simp; exact (forms_run w).mono fun e w' ⟨v, h1, h2, h3⟩ => ⟨v, h1, FlowR.once_of h2 hws, h3⟩); intro vb; go_simp; refine hK _ _ ?_; clear hK K)
  iterate 2 (refine FlowR.tree_valK rfl (fun K hK => ⟨fun w hw hG => ?_, ?_⟩); (have hcl := Flow.bcell (HS0.out ▸ FlowR.once_below hw); clear hG hw; unfold FlowR.Runs FlowR.yields; go_simp; try rfl); go_simp; refine hK _ ?_; clear hK K)
  (refine FlowR.tree_valK rfl (fun K hK => ⟨fun w hw hG => ?_, ?_⟩); (obtain ⟨b3, rfl, hf3⟩ := (show isForms vb w by simpa [FlowR.upd] using hG 0 (by kernel_rfl)); have hlk := HLOOK.out w b3 hf3; clear hG hw; unfold FlowR.Runs FlowR.yields; go_simp; try rfl); go_simp; refine hK _ ?_; clear hK K)
  iterate 3 (refine FlowR.tree_valK rfl (fun K hK => ⟨fun w hw hG => ?_, ?_⟩); (clear hG hw; unfold FlowR.Runs FlowR.yields; go_simp; try rfl); go_simp; refine hK _ ?_; clear hK K)
  (refine FlowR.tree_varK rfl (fun K hK => ⟨fun w hw hG => ?_, ?_⟩); (have hws := hw.2.2.2.1; rw [HS0.out] at hws; clear hG hw; unfold FlowR.Runs FlowR.yields; go_simp; exact ⟨FlowR.once_of ((Below.refl _ _).alloc (Nat.le_refl _) _) hws, _, rfl, hws, .inl (by rw [HZ.out]; exact heap_alloc_new _ _)⟩); intro vz; go_simp; refine hK _ _ ?_; clear hK K)
  (refine FlowR.tree_varK rfl (fun K hK => ⟨fun w hw hG => ?_, ?_⟩); (obtain ⟨g, rfl, hgb, hg⟩ := (show FlowR.One _ _ Z Y vz w by simpa [FlowR.upd] using hG 7 (by kernel_rfl)); obtain ⟨x0, x1, x2, x3, x4, x5, hg1, hg2⟩ : ∃ x0 x1 x2 x3 x4 x5, w.heap[g]? = some (.cells #[x0, x1, x2, x3, x4, x5] 134 (0, 0)) ∧ (#[x0, x1, x2, x3, x4, x5] = Z ∨ #[x0, x1, x2, x3, x4, x5] = Y) := (by rcases hg with hg | hg; exact ⟨_, _, _, _, _, _, by rw [hg, HZ.out], .inl HZ.out.symm⟩; exact ⟨_, _, _, _, _, _, by rw [hg, HY.out], .inr HY.out.symm⟩); have HG2 := Lib.hid hg2; have z0 := frozen_of_row w g 0 _ _ hg1; have z1 := frozen_of_row w g 1 _ _ hg1; have z2 := frozen_of_row w g 2 _ _ hg1; have z3 := frozen_of_row w g 3 _ _ hg1; have z4 := frozen_of_row w g 4 _ _ hg1; have z5 := frozen_of_row w g 5 _ _ hg1; have e0 := cell_of_row w g 0 _ _ _ hg1; have e1 := cell_of_row w g 1 _ _ _ hg1; have e2 := cell_of_row w g 2 _ _ _ hg1; have e3 := cell_of_row w g 3 _ _ _ hg1; have e4 := cell_of_row w g 4 _ _ _ hg1; have e5 := cell_of_row w g 5 _ _ _ hg1; simp only [List.getElem?_toArray, List.getElem?_cons_succ, List.getElem?_cons_zero] at e0 e1 e2 e3 e4 e5; have HG1 := Lib.hid hg1; clear hG hw hg hg1 hg2; unfold FlowR.Runs FlowR.yields; go_simp; rw [HY.out]; exact once_set6 undef HG1.out (by rw [← HY.out]; exact HG2.out) hgb); intro vs; go_simp; refine hK _ _ ?_; clear hK K)
  (refine FlowR.tree_valK rfl (fun K hK => ⟨fun w hw hG => ?_, ?_⟩); (clear hG hw; unfold FlowR.Runs FlowR.yields; go_simp; try rfl); go_simp; refine hK _ ?_; clear hK K)
  refine FlowR.tree_nil fun w2 hw2 hG => ?_
  obtain ⟨g, rfl, hgb, hg⟩ := (show FlowR.Done (w.heap.size + 2) 134 Y vz vs w2 by simpa [FlowR.upd] using hG 8)
  rw [HY.out] at hg
  have hB2 := FlowR.once_below hw2
  rw [← HS0.out] at hB2
  have hk1 := (hB2.block _ (by omega)).trans HK1.out
  have hk2 := (hB2.block _ (by omega)).trans HK2.out
  have HBW := Lib.hid (HB0.out.trans (hB2.mono (by omega)))
  have HKG := Lib.hid hg
  have HK1' := Lib.hid hk1
  have HK2' := Lib.hid hk2
  have c0 := cell_of_row w2 w.heap.size 0 _ _ _ hk1
  have c1 := cell_of_row w2 w.heap.size 1 _ _ _ hk1
  have c2 := cell_of_row w2 w.heap.size 2 _ _ _ hk1
  have d1 := cell_of_row w2 (w.heap.size + 1) 1 _ _ _ hk2
  simp only [List.getElem?_toArray, List.getElem?_cons_succ, List.getElem?_cons_zero] at c0 c1 c2 d1
  clear hG hw2 hg hB2 hk1 hk2 HK1 HK2 HB0
  obtain ⟨b3, hb3⟩ : ∃ b3, f.name.toList.isEmpty = b3 := ⟨_, rfl⟩
  have hb3' : (f.name.size == 0) = b3 := by
    rw [← hb3, Tess.tl, Bool.eq_iff_iff, beq_iff_eq, List.isEmpty_iff, Array.toList_eq_nil_iff]
    exact ⟨fun h => Array.eq_empty_of_size_eq_zero h, fun h => by show f.name.data.size = 0; rw [h]; rfl⟩
  obtain ⟨b5, hb5⟩ : ∃ b5, Fil.inW f.words.length (w0, w1) = b5 := ⟨_, rfl⟩
  obtain ⟨b6, hb6⟩ : ∃ b6, Fil.inW f.l.length (l0, l1) = b6 := ⟨_, rfl⟩
  obtain ⟨b7, hb7⟩ : ∃ b7, f.words.any Tess.isLong = b7 := ⟨_, rfl⟩
  rw [hb3', hb5, hb6, hb7] at HOWN
  rw [hb5] at HW
  rw [hb6] at HL
  rw [hb7] at HCL
  clear hb3' hb5 hb6 hb7
  cases ok
  · go_wp2_with (first
      | (go_at_call 61; refine (HDIM.out _ HBW.out).mono ?_; rintro e3 w3 ⟨rfl, hB3⟩; obtain ⟨g0, g1, g2, g3, g4, g5, f1, f2, f3, f4, f5⟩ := right_cells hB3 HKG.out HK2'.out; have HB23 := Lib.hid hB3; clear hB3)
      | (go_at_call 89; ((with_reducible refine (HW.out _).mono ?_); rintro e4 w4 ⟨rfl, hB4⟩; obtain ⟨g0, g1, g2, g3, g4, g5, f1, f2, f3, f4, f5⟩ := right_cells (Bt HB23.out hB4) HKG.out HK2'.out; have HBX := Lib.hid (Bt HB23.out hB4); clear hB4 HB23; have HB23 := HBX; clear HBX))
      | (go_at_call 89; ((with_reducible refine (HL.out _).mono ?_); rintro e4 w4 ⟨rfl, hB4⟩; obtain ⟨g0, g1, g2, g3, g4, g5, f1, f2, f3, f4, f5⟩ := right_cells (Bt HB23.out hB4) HKG.out HK2'.out; have HBX := Lib.hid (Bt HB23.out hB4); clear hB4 HB23; have HB23 := HBX; clear HBX))
      | (go_at_call 90; refine (HCL.out _ (Bt HBW.out HB23.out)).mono ?_; rintro e4 w4 ⟨rfl, hB4⟩; have HBX := Lib.hid (Bt HB23.out hB4); clear hB4 HB23; have HB23 := HBX; clear HBX))
    go_ret
    exact ⟨ret_bool' (by rw [HOWN.out]; simp), Bt HBW.out HB23.out⟩
  · cases isD
    · cases hn
      · cases b3
        · go_wp2_with (first
            | (go_at_call 61; refine (HDIM.out _ HBW.out).mono ?_; rintro e3 w3 ⟨rfl, hB3⟩; obtain ⟨g0, g1, g2, g3, g4, g5, f1, f2, f3, f4, f5⟩ := right_cells hB3 HKG.out HK2'.out; have HB23 := Lib.hid hB3; clear hB3)
            | (go_at_call 89; ((with_reducible refine (HW.out _).mono ?_); rintro e4 w4 ⟨rfl, hB4⟩; obtain ⟨g0, g1, g2, g3, g4, g5, f1, f2, f3, f4, f5⟩ := right_cells (Bt HB23.out hB4) HKG.out HK2'.out; have HBX := Lib.hid (Bt HB23.out hB4); clear hB4 HB23; have HB23 := HBX; clear HBX))
            | (go_at_call 89; ((with_reducible refine (HL.out _).mono ?_); rintro e4 w4 ⟨rfl, hB4⟩; obtain ⟨g0, g1, g2, g3, g4, g5, f1, f2, f3, f4, f5⟩ := right_cells (Bt HB23.out hB4) HKG.out HK2'.out; have HBX := Lib.hid (Bt HB23.out hB4); clear hB4 HB23; have HB23 := HBX; clear HBX))
            | (go_at_call 90; refine (HCL.out _ (Bt HBW.out HB23.out)).mono ?_; rintro e4 w4 ⟨rfl, hB4⟩; have HBX := Lib.hid (Bt HB23.out hB4); clear hB4 HB23; have HB23 := HBX; clear HBX))
          go_ret
          exact ⟨ret_bool' (by rw [HOWN.out]; simp), Bt HBW.out HB23.out⟩
        · cases hsp
          · by_cases hz1 : f.frm = 0
            · by_cases hz2 : f.to = 0
              · cases b5
                · go_wp2_with (first
                    | (go_at_call 61; refine (HDIM.out _ HBW.out).mono ?_; rintro e3 w3 ⟨rfl, hB3⟩; obtain ⟨g0, g1, g2, g3, g4, g5, f1, f2, f3, f4, f5⟩ := right_cells hB3 HKG.out HK2'.out; have HB23 := Lib.hid hB3; clear hB3)
                    | (go_at_call 89; ((with_reducible refine (HW.out _).mono ?_); rintro e4 w4 ⟨rfl, hB4⟩; obtain ⟨g0, g1, g2, g3, g4, g5, f1, f2, f3, f4, f5⟩ := right_cells (Bt HB23.out hB4) HKG.out HK2'.out; have HBX := Lib.hid (Bt HB23.out hB4); clear hB4 HB23; have HB23 := HBX; clear HBX))
                    | (go_at_call 89; ((with_reducible refine (HL.out _).mono ?_); rintro e4 w4 ⟨rfl, hB4⟩; obtain ⟨g0, g1, g2, g3, g4, g5, f1, f2, f3, f4, f5⟩ := right_cells (Bt HB23.out hB4) HKG.out HK2'.out; have HBX := Lib.hid (Bt HB23.out hB4); clear hB4 HB23; have HB23 := HBX; clear HBX))
                    | (go_at_call 90; refine (HCL.out _ (Bt HBW.out HB23.out)).mono ?_; rintro e4 w4 ⟨rfl, hB4⟩; have HBX := Lib.hid (Bt HB23.out hB4); clear hB4 HB23; have HB23 := HBX; clear HBX))
                  go_ret
                  exact ⟨ret_bool' (by rw [HOWN.out]; simp [hz1, hz2]), Bt HBW.out HB23.out⟩
                · cases b6
                  · go_wp2_with (first
                      | (go_at_call 61; refine (HDIM.out _ HBW.out).mono ?_; rintro e3 w3 ⟨rfl, hB3⟩; obtain ⟨g0, g1, g2, g3, g4, g5, f1, f2, f3, f4, f5⟩ := right_cells hB3 HKG.out HK2'.out; have HB23 := Lib.hid hB3; clear hB3)
                      | (go_at_call 89; ((with_reducible refine (HW.out _).mono ?_); rintro e4 w4 ⟨rfl, hB4⟩; obtain ⟨g0, g1, g2, g3, g4, g5, f1, f2, f3, f4, f5⟩ := right_cells (Bt HB23.out hB4) HKG.out HK2'.out; have HBX := Lib.hid (Bt HB23.out hB4); clear hB4 HB23; have HB23 := HBX; clear HBX))
                      | (go_at_call 89; ((with_reducible refine (HL.out _).mono ?_); rintro e4 w4 ⟨rfl, hB4⟩; obtain ⟨g0, g1, g2, g3, g4, g5, f1, f2, f3, f4, f5⟩ := right_cells (Bt HB23.out hB4) HKG.out HK2'.out; have HBX := Lib.hid (Bt HB23.out hB4); clear hB4 HB23; have HB23 := HBX; clear HBX))
                      | (go_at_call 90; refine (HCL.out _ (Bt HBW.out HB23.out)).mono ?_; rintro e4 w4 ⟨rfl, hB4⟩; have HBX := Lib.hid (Bt HB23.out hB4); clear hB4 HB23; have HB23 := HBX; clear HBX))
                    go_ret
                    exact ⟨ret_bool' (by rw [HOWN.out]; simp [hz1, hz2]), Bt HBW.out HB23.out⟩
                  · go_wp2_with (first
                      | (go_at_call 61; refine (HDIM.out _ HBW.out).mono ?_; rintro e3 w3 ⟨rfl, hB3⟩; obtain ⟨g0, g1, g2, g3, g4, g5, f1, f2, f3, f4, f5⟩ := right_cells hB3 HKG.out HK2'.out; have HB23 := Lib.hid hB3; clear hB3)
                      | (go_at_call 89; ((with_reducible refine (HW.out _).mono ?_); rintro e4 w4 ⟨rfl, hB4⟩; obtain ⟨g0, g1, g2, g3, g4, g5, f1, f2, f3, f4, f5⟩ := right_cells (Bt HB23.out hB4) HKG.out HK2'.out; have HBX := Lib.hid (Bt HB23.out hB4); clear hB4 HB23; have HB23 := HBX; clear HBX))
                      | (go_at_call 89; ((with_reducible refine (HL.out _).mono ?_); rintro e4 w4 ⟨rfl, hB4⟩; obtain ⟨g0, g1, g2, g3, g4, g5, f1, f2, f3, f4, f5⟩ := right_cells (Bt HB23.out hB4) HKG.out HK2'.out; have HBX := Lib.hid (Bt HB23.out hB4); clear hB4 HB23; have HB23 := HBX; clear HBX))
                      | (go_at_call 90; refine (HCL.out _ (Bt HBW.out HB23.out)).mono ?_; rintro e4 w4 ⟨rfl, hB4⟩; have HBX := Lib.hid (Bt HB23.out hB4); clear hB4 HB23; have HB23 := HBX; clear HBX))
                    go_ret
                    exact ⟨ret_bool' (by rw [HOWN.out]; simp [hz1, hz2]), Bt HBW.out HB23.out⟩
              · go_wp2_with (first
                  | (go_at_call 61; refine (HDIM.out _ HBW.out).mono ?_; rintro e3 w3 ⟨rfl, hB3⟩; obtain ⟨g0, g1, g2, g3, g4, g5, f1, f2, f3, f4, f5⟩ := right_cells hB3 HKG.out HK2'.out; have HB23 := Lib.hid hB3; clear hB3)
                  | (go_at_call 89; ((with_reducible refine (HW.out _).mono ?_); rintro e4 w4 ⟨rfl, hB4⟩; obtain ⟨g0, g1, g2, g3, g4, g5, f1, f2, f3, f4, f5⟩ := right_cells (Bt HB23.out hB4) HKG.out HK2'.out; have HBX := Lib.hid (Bt HB23.out hB4); clear hB4 HB23; have HB23 := HBX; clear HBX))
                  | (go_at_call 89; ((with_reducible refine (HL.out _).mono ?_); rintro e4 w4 ⟨rfl, hB4⟩; obtain ⟨g0, g1, g2, g3, g4, g5, f1, f2, f3, f4, f5⟩ := right_cells (Bt HB23.out hB4) HKG.out HK2'.out; have HBX := Lib.hid (Bt HB23.out hB4); clear hB4 HB23; have HB23 := HBX; clear HBX))
                  | (go_at_call 90; refine (HCL.out _ (Bt HBW.out HB23.out)).mono ?_; rintro e4 w4 ⟨rfl, hB4⟩; have HBX := Lib.hid (Bt HB23.out hB4); clear hB4 HB23; have HB23 := HBX; clear HBX))
                go_ret
                exact ⟨ret_bool' (by rw [HOWN.out]; simp [hz2]), Bt HBW.out HB23.out⟩
            · go_wp2_with (first
                | (go_at_call 61; refine (HDIM.out _ HBW.out).mono ?_; rintro e3 w3 ⟨rfl, hB3⟩; obtain ⟨g0, g1, g2, g3, g4, g5, f1, f2, f3, f4, f5⟩ := right_cells hB3 HKG.out HK2'.out; have HB23 := Lib.hid hB3; clear hB3)
                | (go_at_call 89; ((with_reducible refine (HW.out _).mono ?_); rintro e4 w4 ⟨rfl, hB4⟩; obtain ⟨g0, g1, g2, g3, g4, g5, f1, f2, f3, f4, f5⟩ := right_cells (Bt HB23.out hB4) HKG.out HK2'.out; have HBX := Lib.hid (Bt HB23.out hB4); clear hB4 HB23; have HB23 := HBX; clear HBX))
                | (go_at_call 89; ((with_reducible refine (HL.out _).mono ?_); rintro e4 w4 ⟨rfl, hB4⟩; obtain ⟨g0, g1, g2, g3, g4, g5, f1, f2, f3, f4, f5⟩ := right_cells (Bt HB23.out hB4) HKG.out HK2'.out; have HBX := Lib.hid (Bt HB23.out hB4); clear hB4 HB23; have HB23 := HBX; clear HBX))
                | (go_at_call 90; refine (HCL.out _ (Bt HBW.out HB23.out)).mono ?_; rintro e4 w4 ⟨rfl, hB4⟩; have HBX := Lib.hid (Bt HB23.out hB4); clear hB4 HB23; have HB23 := HBX; clear HBX))
              go_ret
              exact ⟨ret_bool' (by rw [HOWN.out]; simp [hz1]), Bt HBW.out HB23.out⟩
          · cases b5
            · go_wp2_with (first
                | (go_at_call 61; refine (HDIM.out _ HBW.out).mono ?_; rintro e3 w3 ⟨rfl, hB3⟩; obtain ⟨g0, g1, g2, g3, g4, g5, f1, f2, f3, f4, f5⟩ := right_cells hB3 HKG.out HK2'.out; have HB23 := Lib.hid hB3; clear hB3)
                | (go_at_call 89; ((with_reducible refine (HW.out _).mono ?_); rintro e4 w4 ⟨rfl, hB4⟩; obtain ⟨g0, g1, g2, g3, g4, g5, f1, f2, f3, f4, f5⟩ := right_cells (Bt HB23.out hB4) HKG.out HK2'.out; have HBX := Lib.hid (Bt HB23.out hB4); clear hB4 HB23; have HB23 := HBX; clear HBX))
                | (go_at_call 89; ((with_reducible refine (HL.out _).mono ?_); rintro e4 w4 ⟨rfl, hB4⟩; obtain ⟨g0, g1, g2, g3, g4, g5, f1, f2, f3, f4, f5⟩ := right_cells (Bt HB23.out hB4) HKG.out HK2'.out; have HBX := Lib.hid (Bt HB23.out hB4); clear hB4 HB23; have HB23 := HBX; clear HBX))
                | (go_at_call 90; refine (HCL.out _ (Bt HBW.out HB23.out)).mono ?_; rintro e4 w4 ⟨rfl, hB4⟩; have HBX := Lib.hid (Bt HB23.out hB4); clear hB4 HB23; have HB23 := HBX; clear HBX))
              go_ret
              exact ⟨ret_bool' (by rw [HOWN.out]; simp), Bt HBW.out HB23.out⟩
            · cases b6
              · go_wp2_with (first
                  | (go_at_call 61; refine (HDIM.out _ HBW.out).mono ?_; rintro e3 w3 ⟨rfl, hB3⟩; obtain ⟨g0, g1, g2, g3, g4, g5, f1, f2, f3, f4, f5⟩ := right_cells hB3 HKG.out HK2'.out; have HB23 := Lib.hid hB3; clear hB3)
                  | (go_at_call 89; ((with_reducible refine (HW.out _).mono ?_); rintro e4 w4 ⟨rfl, hB4⟩; obtain ⟨g0, g1, g2, g3, g4, g5, f1, f2, f3, f4, f5⟩ := right_cells (Bt HB23.out hB4) HKG.out HK2'.out; have HBX := Lib.hid (Bt HB23.out hB4); clear hB4 HB23; have HB23 := HBX; clear HBX))
                  | (go_at_call 89; ((with_reducible refine (HL.out _).mono ?_); rintro e4 w4 ⟨rfl, hB4⟩; obtain ⟨g0, g1, g2, g3, g4, g5, f1, f2, f3, f4, f5⟩ := right_cells (Bt HB23.out hB4) HKG.out HK2'.out; have HBX := Lib.hid (Bt HB23.out hB4); clear hB4 HB23; have HB23 := HBX; clear HBX))
                  | (go_at_call 90; refine (HCL.out _ (Bt HBW.out HB23.out)).mono ?_; rintro e4 w4 ⟨rfl, hB4⟩; have HBX := Lib.hid (Bt HB23.out hB4); clear hB4 HB23; have HB23 := HBX; clear HBX))
                go_ret
                exact ⟨ret_bool' (by rw [HOWN.out]; simp), Bt HBW.out HB23.out⟩
              · go_wp2_with (first
                  | (go_at_call 61; refine (HDIM.out _ HBW.out).mono ?_; rintro e3 w3 ⟨rfl, hB3⟩; obtain ⟨g0, g1, g2, g3, g4, g5, f1, f2, f3, f4, f5⟩ := right_cells hB3 HKG.out HK2'.out; have HB23 := Lib.hid hB3; clear hB3)
                  | (go_at_call 89; ((with_reducible refine (HW.out _).mono ?_); rintro e4 w4 ⟨rfl, hB4⟩; obtain ⟨g0, g1, g2, g3, g4, g5, f1, f2, f3, f4, f5⟩ := right_cells (Bt HB23.out hB4) HKG.out HK2'.out; have HBX := Lib.hid (Bt HB23.out hB4); clear hB4 HB23; have HB23 := HBX; clear HBX))
                  | (go_at_call 89; ((with_reducible refine (HL.out _).mono ?_); rintro e4 w4 ⟨rfl, hB4⟩; obtain ⟨g0, g1, g2, g3, g4, g5, f1, f2, f3, f4, f5⟩ := right_cells (Bt HB23.out hB4) HKG.out HK2'.out; have HBX := Lib.hid (Bt HB23.out hB4); clear hB4 HB23; have HB23 := HBX; clear HBX))
                  | (go_at_call 90; refine (HCL.out _ (Bt HBW.out HB23.out)).mono ?_; rintro e4 w4 ⟨rfl, hB4⟩; have HBX := Lib.hid (Bt HB23.out hB4); clear hB4 HB23; have HB23 := HBX; clear HBX))
                go_ret
                exact ⟨ret_bool' (by rw [HOWN.out]; simp), Bt HBW.out HB23.out⟩
      · go_wp2_with (first
          | (go_at_call 61; refine (HDIM.out _ HBW.out).mono ?_; rintro e3 w3 ⟨rfl, hB3⟩; obtain ⟨g0, g1, g2, g3, g4, g5, f1, f2, f3, f4, f5⟩ := right_cells hB3 HKG.out HK2'.out; have HB23 := Lib.hid hB3; clear hB3)
          | (go_at_call 89; ((with_reducible refine (HW.out _).mono ?_); rintro e4 w4 ⟨rfl, hB4⟩; obtain ⟨g0, g1, g2, g3, g4, g5, f1, f2, f3, f4, f5⟩ := right_cells (Bt HB23.out hB4) HKG.out HK2'.out; have HBX := Lib.hid (Bt HB23.out hB4); clear hB4 HB23; have HB23 := HBX; clear HBX))
          | (go_at_call 89; ((with_reducible refine (HL.out _).mono ?_); rintro e4 w4 ⟨rfl, hB4⟩; obtain ⟨g0, g1, g2, g3, g4, g5, f1, f2, f3, f4, f5⟩ := right_cells (Bt HB23.out hB4) HKG.out HK2'.out; have HBX := Lib.hid (Bt HB23.out hB4); clear hB4 HB23; have HB23 := HBX; clear HBX))
          | (go_at_call 90; refine (HCL.out _ (Bt HBW.out HB23.out)).mono ?_; rintro e4 w4 ⟨rfl, hB4⟩; have HBX := Lib.hid (Bt HB23.out hB4); clear hB4 HB23; have HB23 := HBX; clear HBX))
        go_ret
        exact ⟨ret_bool' (by rw [HOWN.out]; simp), Bt HBW.out HB23.out⟩
    · cases hn
      · go_wp2_with (first
          | (go_at_call 61; refine (HDIM.out _ HBW.out).mono ?_; rintro e3 w3 ⟨rfl, hB3⟩; obtain ⟨g0, g1, g2, g3, g4, g5, f1, f2, f3, f4, f5⟩ := right_cells hB3 HKG.out HK2'.out; have HB23 := Lib.hid hB3; clear hB3)
          | (go_at_call 89; ((with_reducible refine (HW.out _).mono ?_); rintro e4 w4 ⟨rfl, hB4⟩; obtain ⟨g0, g1, g2, g3, g4, g5, f1, f2, f3, f4, f5⟩ := right_cells (Bt HB23.out hB4) HKG.out HK2'.out; have HBX := Lib.hid (Bt HB23.out hB4); clear hB4 HB23; have HB23 := HBX; clear HBX))
          | (go_at_call 89; ((with_reducible refine (HL.out _).mono ?_); rintro e4 w4 ⟨rfl, hB4⟩; obtain ⟨g0, g1, g2, g3, g4, g5, f1, f2, f3, f4, f5⟩ := right_cells (Bt HB23.out hB4) HKG.out HK2'.out; have HBX := Lib.hid (Bt HB23.out hB4); clear hB4 HB23; have HB23 := HBX; clear HBX))
          | (go_at_call 90; refine (HCL.out _ (Bt HBW.out HB23.out)).mono ?_; rintro e4 w4 ⟨rfl, hB4⟩; have HBX := Lib.hid (Bt HB23.out hB4); clear hB4 HB23; have HB23 := HBX; clear HBX))
        go_ret
        exact ⟨ret_bool' (by rw [HOWN.out]; simp), Bt HBW.out HB23.out⟩
      · cases hsp
        · by_cases hz1 : f.frm = 0
          · by_cases hz2 : f.to = 0
            · cases b5
              · go_wp2_with (first
                  | (go_at_call 61; refine (HDIM.out _ HBW.out).mono ?_; rintro e3 w3 ⟨rfl, hB3⟩; obtain ⟨g0, g1, g2, g3, g4, g5, f1, f2, f3, f4, f5⟩ := right_cells hB3 HKG.out HK2'.out; have HB23 := Lib.hid hB3; clear hB3)
                  | (go_at_call 89; ((with_reducible refine (HW.out _).mono ?_); rintro e4 w4 ⟨rfl, hB4⟩; obtain ⟨g0, g1, g2, g3, g4, g5, f1, f2, f3, f4, f5⟩ := right_cells (Bt HB23.out hB4) HKG.out HK2'.out; have HBX := Lib.hid (Bt HB23.out hB4); clear hB4 HB23; have HB23 := HBX; clear HBX))
                  | (go_at_call 89; ((with_reducible refine (HL.out _).mono ?_); rintro e4 w4 ⟨rfl, hB4⟩; obtain ⟨g0, g1, g2, g3, g4, g5, f1, f2, f3, f4, f5⟩ := right_cells (Bt HB23.out hB4) HKG.out HK2'.out; have HBX := Lib.hid (Bt HB23.out hB4); clear hB4 HB23; have HB23 := HBX; clear HBX))
                  | (go_at_call 90; refine (HCL.out _ (Bt HBW.out HB23.out)).mono ?_; rintro e4 w4 ⟨rfl, hB4⟩; have HBX := Lib.hid (Bt HB23.out hB4); clear hB4 HB23; have HB23 := HBX; clear HBX))
                go_ret
                exact ⟨ret_bool' (by rw [HOWN.out]; simp [hz1, hz2]), Bt HBW.out HB23.out⟩
              · cases b6
                · go_wp2_with (first
                    | (go_at_call 61; refine (HDIM.out _ HBW.out).mono ?_; rintro e3 w3 ⟨rfl, hB3⟩; obtain ⟨g0, g1, g2, g3, g4, g5, f1, f2, f3, f4, f5⟩ := right_cells hB3 HKG.out HK2'.out; have HB23 := Lib.hid hB3; clear hB3)
                    | (go_at_call 89; ((with_reducible refine (HW.out _).mono ?_); rintro e4 w4 ⟨rfl, hB4⟩; obtain ⟨g0, g1, g2, g3, g4, g5, f1, f2, f3, f4, f5⟩ := right_cells (Bt HB23.out hB4) HKG.out HK2'.out; have HBX := Lib.hid (Bt HB23.out hB4); clear hB4 HB23; have HB23 := HBX; clear HBX))
                    | (go_at_call 89; ((with_reducible refine (HL.out _).mono ?_); rintro e4 w4 ⟨rfl, hB4⟩; obtain ⟨g0, g1, g2, g3, g4, g5, f1, f2, f3, f4, f5⟩ := right_cells (Bt HB23.out hB4) HKG.out HK2'.out; have HBX := Lib.hid (Bt HB23.out hB4); clear hB4 HB23; have HB23 := HBX; clear HBX))
                    | (go_at_call 90; refine (HCL.out _ (Bt HBW.out HB23.out)).mono ?_; rintro e4 w4 ⟨rfl, hB4⟩; have HBX := Lib.hid (Bt HB23.out hB4); clear hB4 HB23; have HB23 := HBX; clear HBX))
                  go_ret
                  exact ⟨ret_bool' (by rw [HOWN.out]; simp [hz1, hz2]), Bt HBW.out HB23.out⟩
                · go_wp2_with (first
                    | (go_at_call 61; refine (HDIM.out _ HBW.out).mono ?_; rintro e3 w3 ⟨rfl, hB3⟩; obtain ⟨g0, g1, g2, g3, g4, g5, f1, f2, f3, f4, f5⟩ := right_cells hB3 HKG.out HK2'.out; have HB23 := Lib.hid hB3; clear hB3)
                    | (go_at_call 89; ((with_reducible refine (HW.out _).mono ?_); rintro e4 w4 ⟨rfl, hB4⟩; obtain ⟨g0, g1, g2, g3, g4, g5, f1, f2, f3, f4, f5⟩ := right_cells (Bt HB23.out hB4) HKG.out HK2'.out; have HBX := Lib.hid (Bt HB23.out hB4); clear hB4 HB23; have HB23 := HBX; clear HBX))
                    | (go_at_call 89; ((with_reducible refine (HL.out _).mono ?_); rintro e4 w4 ⟨rfl, hB4⟩; obtain ⟨g0, g1, g2, g3, g4, g5, f1, f2, f3, f4, f5⟩ := right_cells (Bt HB23.out hB4) HKG.out HK2'.out; have HBX := Lib.hid (Bt HB23.out hB4); clear hB4 HB23; have HB23 := HBX; clear HBX))
                    | (go_at_call 90; refine (HCL.out _ (Bt HBW.out HB23.out)).mono ?_; rintro e4 w4 ⟨rfl, hB4⟩; have HBX := Lib.hid (Bt HB23.out hB4); clear hB4 HB23; have HB23 := HBX; clear HBX))
                  go_ret
                  exact ⟨ret_bool' (by rw [HOWN.out]; simp [hz1, hz2]), Bt HBW.out HB23.out⟩
            · go_wp2_with (first
                | (go_at_call 61; refine (HDIM.out _ HBW.out).mono ?_; rintro e3 w3 ⟨rfl, hB3⟩; obtain ⟨g0, g1, g2, g3, g4, g5, f1, f2, f3, f4, f5⟩ := right_cells hB3 HKG.out HK2'.out; have HB23 := Lib.hid hB3; clear hB3)
                | (go_at_call 89; ((with_reducible refine (HW.out _).mono ?_); rintro e4 w4 ⟨rfl, hB4⟩; obtain ⟨g0, g1, g2, g3, g4, g5, f1, f2, f3, f4, f5⟩ := right_cells (Bt HB23.out hB4) HKG.out HK2'.out; have HBX := Lib.hid (Bt HB23.out hB4); clear hB4 HB23; have HB23 := HBX; clear HBX))
                | (go_at_call 89; ((with_reducible refine (HL.out _).mono ?_); rintro e4 w4 ⟨rfl, hB4⟩; obtain ⟨g0, g1, g2, g3, g4, g5, f1, f2, f3, f4, f5⟩ := right_cells (Bt HB23.out hB4) HKG.out HK2'.out; have HBX := Lib.hid (Bt HB23.out hB4); clear hB4 HB23; have HB23 := HBX; clear HBX))
                | (go_at_call 90; refine (HCL.out _ (Bt HBW.out HB23.out)).mono ?_; rintro e4 w4 ⟨rfl, hB4⟩; have HBX := Lib.hid (Bt HB23.out hB4); clear hB4 HB23; have HB23 := HBX; clear HBX))
              go_ret
              exact ⟨ret_bool' (by rw [HOWN.out]; simp [hz2]), Bt HBW.out HB23.out⟩
          · go_wp2_with (first
              | (go_at_call 61; refine (HDIM.out _ HBW.out).mono ?_; rintro e3 w3 ⟨rfl, hB3⟩; obtain ⟨g0, g1, g2, g3, g4, g5, f1, f2, f3, f4, f5⟩ := right_cells hB3 HKG.out HK2'.out; have HB23 := Lib.hid hB3; clear hB3)
              | (go_at_call 89; ((with_reducible refine (HW.out _).mono ?_); rintro e4 w4 ⟨rfl, hB4⟩; obtain ⟨g0, g1, g2, g3, g4, g5, f1, f2, f3, f4, f5⟩ := right_cells (Bt HB23.out hB4) HKG.out HK2'.out; have HBX := Lib.hid (Bt HB23.out hB4); clear hB4 HB23; have HB23 := HBX; clear HBX))
              | (go_at_call 89; ((with_reducible refine (HL.out _).mono ?_); rintro e4 w4 ⟨rfl, hB4⟩; obtain ⟨g0, g1, g2, g3, g4, g5, f1, f2, f3, f4, f5⟩ := right_cells (Bt HB23.out hB4) HKG.out HK2'.out; have HBX := Lib.hid (Bt HB23.out hB4); clear hB4 HB23; have HB23 := HBX; clear HBX))
              | (go_at_call 90; refine (HCL.out _ (Bt HBW.out HB23.out)).mono ?_; rintro e4 w4 ⟨rfl, hB4⟩; have HBX := Lib.hid (Bt HB23.out hB4); clear hB4 HB23; have HB23 := HBX; clear HBX))
            go_ret
            exact ⟨ret_bool' (by rw [HOWN.out]; simp [hz1]), Bt HBW.out HB23.out⟩
        · cases b5
          · go_wp2_with (first
              | (go_at_call 61; refine (HDIM.out _ HBW.out).mono ?_; rintro e3 w3 ⟨rfl, hB3⟩; obtain ⟨g0, g1, g2, g3, g4, g5, f1, f2, f3, f4, f5⟩ := right_cells hB3 HKG.out HK2'.out; have HB23 := Lib.hid hB3; clear hB3)
              | (go_at_call 89; ((with_reducible refine (HW.out _).mono ?_); rintro e4 w4 ⟨rfl, hB4⟩; obtain ⟨g0, g1, g2, g3, g4, g5, f1, f2, f3, f4, f5⟩ := right_cells (Bt HB23.out hB4) HKG.out HK2'.out; have HBX := Lib.hid (Bt HB23.out hB4); clear hB4 HB23; have HB23 := HBX; clear HBX))
              | (go_at_call 89; ((with_reducible refine (HL.out _).mono ?_); rintro e4 w4 ⟨rfl, hB4⟩; obtain ⟨g0, g1, g2, g3, g4, g5, f1, f2, f3, f4, f5⟩ := right_cells (Bt HB23.out hB4) HKG.out HK2'.out; have HBX := Lib.hid (Bt HB23.out hB4); clear hB4 HB23; have HB23 := HBX; clear HBX))
              | (go_at_call 90; refine (HCL.out _ (Bt HBW.out HB23.out)).mono ?_; rintro e4 w4 ⟨rfl, hB4⟩; have HBX := Lib.hid (Bt HB23.out hB4); clear hB4 HB23; have HB23 := HBX; clear HBX))
            go_ret
            exact ⟨ret_bool' (by rw [HOWN.out]; simp), Bt HBW.out HB23.out⟩
          · cases b6
            · go_wp2_with (first
                | (go_at_call 61; refine (HDIM.out _ HBW.out).mono ?_; rintro e3 w3 ⟨rfl, hB3⟩; obtain ⟨g0, g1, g2, g3, g4, g5, f1, f2, f3, f4, f5⟩ := right_cells hB3 HKG.out HK2'.out; have HB23 := Lib.hid hB3; clear hB3)
                | (go_at_call 89; ((with_reducible refine (HW.out _).mono ?_); rintro e4 w4 ⟨rfl, hB4⟩; obtain ⟨g0, g1, g2, g3, g4, g5, f1, f2, f3, f4, f5⟩ := right_cells (Bt HB23.out hB4) HKG.out HK2'.out; have HBX := Lib.hid (Bt HB23.out hB4); clear hB4 HB23; have HB23 := HBX; clear HBX))
                | (go_at_call 89; ((with_reducible refine (HL.out _).mono ?_); rintro e4 w4 ⟨rfl, hB4⟩; obtain ⟨g0, g1, g2, g3, g4, g5, f1, f2, f3, f4, f5⟩ := right_cells (Bt HB23.out hB4) HKG.out HK2'.out; have HBX := Lib.hid (Bt HB23.out hB4); clear hB4 HB23; have HB23 := HBX; clear HBX))
                | (go_at_call 90; refine (HCL.out _ (Bt HBW.out HB23.out)).mono ?_; rintro e4 w4 ⟨rfl, hB4⟩; have HBX := Lib.hid (Bt HB23.out hB4); clear hB4 HB23; have HB23 := HBX; clear HBX))
              go_ret
              exact ⟨ret_bool' (by rw [HOWN.out]; simp), Bt HBW.out HB23.out⟩
            · go_wp2_with (first
                | (go_at_call 61; refine (HDIM.out _ HBW.out).mono ?_; rintro e3 w3 ⟨rfl, hB3⟩; obtain ⟨g0, g1, g2, g3, g4, g5, f1, f2, f3, f4, f5⟩ := right_cells hB3 HKG.out HK2'.out; have HB23 := Lib.hid hB3; clear hB3)
                | (go_at_call 89; ((with_reducible refine (HW.out _).mono ?_); rintro e4 w4 ⟨rfl, hB4⟩; obtain ⟨g0, g1, g2, g3, g4, g5, f1, f2, f3, f4, f5⟩ := right_cells (Bt HB23.out hB4) HKG.out HK2'.out; have HBX := Lib.hid (Bt HB23.out hB4); clear hB4 HB23; have HB23 := HBX; clear HBX))
                | (go_at_call 89; ((with_reducible refine (HL.out _).mono ?_); rintro e4 w4 ⟨rfl, hB4⟩; obtain ⟨g0, g1, g2, g3, g4, g5, f1, f2, f3, f4, f5⟩ := right_cells (Bt HB23.out hB4) HKG.out HK2'.out; have HBX := Lib.hid (Bt HB23.out hB4); clear hB4 HB23; have HB23 := HBX; clear HBX))
                | (go_at_call 90; refine (HCL.out _ (Bt HBW.out HB23.out)).mono ?_; rintro e4 w4 ⟨rfl, hB4⟩; have HBX := Lib.hid (Bt HB23.out hB4); clear hB4 HB23; have HB23 := HBX; clear HBX))
              go_ret
              exact ⟨ret_bool' (by rw [HOWN.out]; simp), Bt HBW.out HB23.out⟩
end Go.Proofs.YtdfnolgcdododaaDoor
