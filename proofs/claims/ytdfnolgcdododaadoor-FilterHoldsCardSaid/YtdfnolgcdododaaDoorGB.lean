/- Merged by merge.py: G8, G9, G10, G11, G12: the document's functions, walked. -/
import Derived.Test.YtdfnolgcdododaaDoorG7
namespace Go.Proofs.YtdfnolgcdododaaDoor
open Go.RowKit Go.Sort
open Tess (Fil)
theorem all_take_succ {α : Type} (l : List α) (P : α → Bool) (k : Nat) (h : k < l.length) : (l.take (k + 1)).all P = ((l.take k).all P && P l[k]) := by
  rw [List.take_succ_eq_append_getElem h, List.all_append]; simp

set_option maxRecDepth 100000 in
set_option maxHeartbeats 2000000 in
theorem rAll_any (p : Nat → Prop) (s : Tess.Sch) (n : Nat) : ∀ (vs v : Value) (f : Fil) (w : World), SchAt p w vs s → FilAt p n w v f →
    Calls Tryd.prog 36 #[vs, v] w fun e w' => e = .returned (.bool (Fil.allP (Fil.own s) f)) ∧ Below w.heap.size w w' := by
  induction n with
  | zero => intro vs v f w _ h; exact h.elim
  | succ n ih =>
    intro vs v f w hs h
    have HOWN := Lib.hid (fun W (hB : Below w.heap.size w W) => rOwn_any p (n + 1) vs v s f W (hs.ag (Ag.new p hB)) (h.ag (Ag.new p hB)))
    have HS := Lib.hid hs
    obtain ⟨vw, a, cap, rfl, _, hvw, _, hl, _, hc⟩ := h
    obtain ⟨wa, wn, wc, rfl⟩ := hvw.shape
    obtain ⟨vd, vm, rfl, hd, hm, _, _⟩ := hs
    obtain ⟨ad, capd, rfl, _⟩ := slp_len hd
    obtain ⟨am, capm, rfl, _⟩ := slp_len hm
    have HC := Lib.hid hc
    have hlm : f.l.length ≤ 9223372036854775807 := by unfold maxLen at hl; omega
    have HE := Lib.hid (Fil.allP_eq (Fil.own s) f)
    clear hvw hc hl hd hm
    obtain ⟨W0, hW0⟩ : ∃ W0, (w.alloc (.cells #[.slice ad s.dims.length capd, .slice am s.mets.length capm, .int .i64 s.grain] 24)).alloc (.cells #[.int .i64 f.kind, .string f.name, .slice wa wn wc, .int .i64 f.frm, .int .i64 f.to, .slice a f.l.length cap] 29) = W0 := ⟨_, rfl⟩
    obtain ⟨h0, h1, hS, hB⟩ := laid2 w (.cells #[.slice ad s.dims.length capd, .slice am s.mets.length capm, .int .i64 s.grain] 24) (.cells #[.int .i64 f.kind, .string f.name, .slice wa wn wc, .int .i64 f.frm, .int .i64 f.to, .slice a f.l.length cap] 29)
    rw [hW0] at h0 h1 hS hB
    have HB := Lib.hid hB
    have HX := Lib.hid (fun X (hX : Below W0.heap.size W0 X) => And.intro (can3 ((hX.block _ (by omega)).trans h0)).1 (can6 ((hX.block _ (by omega)).trans h1)).1)
    have hlt0 : w.heap.size < W0.heap.size ∧ w.heap.size + 1 < W0.heap.size := ⟨by omega, by omega⟩
    obtain ⟨⟨s0, s1, s2⟩, f0, f1, f2, f3, f4, f5⟩ := HX.out W0 (Below.refl _ _)
    have HLT := Lib.hid hlt0
    clear h0 h1 hS hB hlt0
    cases hown : Fil.own s f
    · rw [hown] at HOWN HE
      go_enter Tryd.func36, Tryd.ntmps36
      go_wp2_with (fail)
      go_at_call 67
      refine (HOWN.out W0 HB.out).mono ?_
      rintro e w1 ⟨rfl, hB1⟩
      have HB1 := Lib.hid (Bt HB.out hB1)
      clear hB1
      go_wp2
      go_ret
      exact ⟨ret_bool' (by rw [HE.out]; simp), HB1.out⟩
    · rw [hown] at HOWN HE
      go_enter Tryd.func36, Tryd.ntmps36
      go_wp2_with (fail)
      go_at_call 67
      refine (HOWN.out W0 HB.out).mono ?_
      rintro e w1 ⟨rfl, hB1⟩
      have HB1 := Lib.hid hB1
      clear hB1 s0 s1 s2 f0 f1 f2 f3 f4 f5 hW0
      go_wp2_with (fail)
      go_loopw [5] (fun i wr => ∃ k : Nat, k ≤ f.l.length ∧ i = .int .i64 k ∧ (f.l.take k).all (Fil.allP (Fil.own s)) = true ∧ Below W0.heap.size W0 wr) (fun i _ => f.l.length - (intOf i).toNat)
      case atStart => exact ⟨0, Nat.zero_le _, rfl, rfl, HB1.out⟩
      case round =>
        obtain ⟨k, hk, rfl, hall, hBr⟩ := hrel
        have HALL := Lib.hid hall
        have HBr := Lib.hid hBr
        clear hall hBr
        obtain ⟨⟨s0, s1, s2⟩, f0, f1, f2, f3, f4, f5⟩ := HX.out wr HBr.out
        by_cases hlt : k < f.l.length
        · obtain ⟨b, off, rfl, hb, hp, hel⟩ := HC.out (by omega)
          obtain ⟨e0, e1, e2, e3, e4, e5, hf, q0, q1, q2, q3, q4, q5⟩ := hel k hlt
          have hBw := Bt HB.out HBr.out
          have hki : (k : Int) < (f.l.length : Int) := by omega
          have r0 := (hBw.cell (p := ⟨b, off + k * 6, none⟩) hb).trans q0
          have r1 := (hBw.cell (p := ⟨b, off + k * 6 + 1, none⟩) hb).trans q1
          have r2 := (hBw.cell (p := ⟨b, off + k * 6 + 2, none⟩) hb).trans q2
          have r3 := (hBw.cell (p := ⟨b, off + k * 6 + 3, none⟩) hb).trans q3
          have r4 := (hBw.cell (p := ⟨b, off + k * 6 + 4, none⟩) hb).trans q4
          have r5 := (hBw.cell (p := ⟨b, off + k * 6 + 5, none⟩) hb).trans q5
          have hbr : b < wr.heap.size := Nat.lt_of_lt_of_le hb hBw.size
          have hsz0 : w.heap.size < wr.heap.size := Nat.lt_of_lt_of_le HLT.out.1 HBr.out.size
          have hsz1 : w.heap.size + 1 < wr.heap.size := Nat.lt_of_lt_of_le HLT.out.2 HBr.out.size
          have HIH := Lib.hid (fun W (hW : Below wr.heap.size wr W) => ih _ _ f.l[k] W (HS.out.ag (Ag.new p (Bt hBw hW))) (hf.ag (Ag.new p (Bt hBw hW))))
          have HTK := Lib.hid (all_take_succ f.l (Fil.allP (Fil.own s)) k hlt)
          clear hel q0 q1 q2 q3 q4 q5 hf hBw
          cases hv : Fil.allP (Fil.own s) f.l[k]
          · have HVF := Lib.hid hv
            rw [hv] at HIH HTK
            clear hv
            go_wp2_with (fail)
            refine Flow.wp_region_flow_tail 7 (Flow.specs [.inl ?_, .inl ?_, .inl ?_, .inl ?_, .inl ?_, .inl ?_, .inl (.bool false)]) (by kernel_rfl) (by kernel_rfl) ?_ ?_
            rotate_left 6
            · refine Flow.specs_mono ?_
              repeat (first | exact Flow.lmono_nil | refine Flow.lmono_inl ?_)
            all_goals try simp only [List.take_succ_cons, List.take_zero, List.drop_succ_cons, List.drop_zero]
            iterate 6 (refine Flow.tree_valK rfl (fun K hK => ⟨fun w hw hG => ?_, ?_⟩); (have hcl := Flow.bcell hw; clear hG hw; unfold Flow.Runs Flow.yields; go_simp; try rfl); go_simp; refine hK _ ?_; clear hK K)
            (refine Flow.tree_valK rfl (fun K hK => ⟨fun w hw hG => ?_, ?_⟩); (have HW := Lib.hid hw; clear hG hw; unfold Flow.Runs Flow.yields; go_simp; refine (HIH.out _ HW.out).mono ?_; rintro e w3 ⟨rfl, hb3⟩; exact ⟨rfl, hb3⟩); go_simp; refine hK _ ?_; clear hK K)
            refine Flow.tree_nil fun w6 hw6 hG => ?_
            have HB6 := Lib.hid (Bt HBr.out hw6)
            clear hG hw6
            go_wp2
            go_ret
            refine ⟨ret_bool' ?_, Bt HB.out HB6.out⟩
            rw [HE.out]
            have : f.l.all (Fil.allP (Fil.own s)) = false := List.all_eq_false.2 ⟨f.l[k], List.getElem_mem hlt, by rw [HVF.out]; simp⟩
            rw [this]; simp
          · rw [hv] at HIH HTK
            clear hv
            go_wp2_with (fail)
            refine Flow.wp_region_flow_tail 7 (Flow.specs [.inl ?_, .inl ?_, .inl ?_, .inl ?_, .inl ?_, .inl ?_, .inl (.bool true)]) (by kernel_rfl) (by kernel_rfl) ?_ ?_
            rotate_left 6
            · refine Flow.specs_mono ?_
              repeat (first | exact Flow.lmono_nil | refine Flow.lmono_inl ?_)
            all_goals try simp only [List.take_succ_cons, List.take_zero, List.drop_succ_cons, List.drop_zero]
            iterate 6 (refine Flow.tree_valK rfl (fun K hK => ⟨fun w hw hG => ?_, ?_⟩); (have hcl := Flow.bcell hw; clear hG hw; unfold Flow.Runs Flow.yields; go_simp; try rfl); go_simp; refine hK _ ?_; clear hK K)
            (refine Flow.tree_valK rfl (fun K hK => ⟨fun w hw hG => ?_, ?_⟩); (have HW := Lib.hid hw; clear hG hw; unfold Flow.Runs Flow.yields; go_simp; refine (HIH.out _ HW.out).mono ?_; rintro e w3 ⟨rfl, hb3⟩; exact ⟨rfl, hb3⟩); go_simp; refine hK _ ?_; clear hK K)
            refine Flow.tree_nil fun w6 hw6 hG => ?_
            have HB6 := Lib.hid (Bt HBr.out hw6)
            clear hG hw6
            go_wp2
            go_roundw
            case rel => exact ⟨k + 1, by omega, by go_num, by rw [HTK.out, HALL.out]; rfl, HB6.out⟩
            case measure => simp [intOf]; omega
        · have hki : ¬ (k : Int) < (f.l.length : Int) := by omega
          have HT := Lib.hid (show f.l.take k = f.l from List.take_of_length_le (by omega))
          go_wp2
          go_ret
          exact ⟨ret_bool' (by rw [HE.out, ← HT.out, HALL.out]; rfl), Bt HB.out HBr.out⟩
end Go.Proofs.YtdfnolgcdododaaDoor
namespace Go.Proofs.YtdfnolgcdododaaDoor
open Go.RowKit Go.Sort
open Tess (Fil)
set_option maxRecDepth 100000 in
set_option maxHeartbeats 2000000 in
theorem rFits_any (p : Nat → Prop) (s : Tess.Sch) (n : Nat) : ∀ (vs v : Value) (f : Fil) (w : World), SchAt p w vs s → FilAt p n w v f →
    Calls Tryd.prog 37 #[vs, v] w fun e w' => e = .returned (.bool (Fil.allP (fun x => !Fil.badGrain s x) f)) ∧ Below w.heap.size w w' := by
  induction n with
  | zero => intro vs v f w _ h; exact h.elim
  | succ n ih =>
    intro vs v f w hs h
    have HG := Lib.hid (fun W => rgFits_any f.frm f.to s.grain W)
    have HS := Lib.hid hs
    obtain ⟨vw, a, cap, rfl, _, hvw, _, hl, _, hc⟩ := h
    obtain ⟨wa, wn, wc, rfl⟩ := hvw.shape
    obtain ⟨vd, vm, rfl, hd, hm, _, _⟩ := hs
    obtain ⟨ad, capd, rfl, _⟩ := slp_len hd
    obtain ⟨am, capm, rfl, _⟩ := slp_len hm
    have HC := Lib.hid hc
    have hlm : f.l.length ≤ 9223372036854775807 := by unfold maxLen at hl; omega
    have HE := Lib.hid (Fil.allP_eq (fun x => !Fil.badGrain s x) f)
    clear hvw hc hl hd hm
    obtain ⟨W0, hW0⟩ : ∃ W0, (w.alloc (.cells #[.slice ad s.dims.length capd, .slice am s.mets.length capm, .int .i64 s.grain] 24)).alloc (.cells #[.int .i64 f.kind, .string f.name, .slice wa wn wc, .int .i64 f.frm, .int .i64 f.to, .slice a f.l.length cap] 29) = W0 := ⟨_, rfl⟩
    obtain ⟨h0, h1, hS, hB⟩ := laid2 w (.cells #[.slice ad s.dims.length capd, .slice am s.mets.length capm, .int .i64 s.grain] 24) (.cells #[.int .i64 f.kind, .string f.name, .slice wa wn wc, .int .i64 f.frm, .int .i64 f.to, .slice a f.l.length cap] 29)
    rw [hW0] at h0 h1 hS hB
    have HB := Lib.hid hB
    have HX := Lib.hid (fun X (hX : Below W0.heap.size W0 X) => And.intro (can3 ((hX.block _ (by omega)).trans h0)).1 (can6 ((hX.block _ (by omega)).trans h1)).1)
    have hlt0 : w.heap.size < W0.heap.size ∧ w.heap.size + 1 < W0.heap.size := ⟨by omega, by omega⟩
    obtain ⟨⟨s0, s1, s2⟩, f0, f1, f2, f3, f4, f5⟩ := HX.out W0 (Below.refl _ _)
    have HLT := Lib.hid hlt0
    clear h0 h1 hS hB hlt0
    have HBG : RowKit.Hid (Fil.badGrain s f = (decide (f.kind = 6) && !Fil.spanFits f.frm f.to s.grain)) := Lib.hid rfl
    by_cases k6 : f.kind = 6
    · have e6 : (f.kind == (6 : Int)) = true := beq_iff_eq.2 k6
      rw [decide_eq_true k6] at HBG
      clear k6
      cases hsf : Fil.spanFits f.frm f.to s.grain
      · rw [hsf] at HG HBG
        go_enter Tryd.func37, Tryd.ntmps37
        go_wp2_with (fail)
        go_at_call 68
        refine (HG.out W0).mono ?_
        rintro e w1 ⟨rfl, hB1⟩
        have HB1 := Lib.hid (Bt HB.out hB1)
        clear hB1
        go_wp2
        go_ret
        exact ⟨ret_bool' (by rw [HE.out, HBG.out]; simp), HB1.out⟩
      · rw [hsf] at HG HBG
        rw [HBG.out] at HE
        go_enter Tryd.func37, Tryd.ntmps37
        go_wp2_with (fail)
        go_at_call 68
        refine (HG.out W0).mono ?_
        rintro e w1 ⟨rfl, hB1⟩
        have HB1 := Lib.hid hB1
        clear hB1 s0 s1 s2 f0 f1 f2 f3 f4 f5 hW0
        go_wp2_with (fail)
        go_loopw [5] (fun i wr => ∃ k : Nat, k ≤ f.l.length ∧ i = .int .i64 k ∧ (f.l.take k).all (Fil.allP (fun x => !Fil.badGrain s x)) = true ∧ Below W0.heap.size W0 wr) (fun i _ => f.l.length - (intOf i).toNat)
        case atStart => exact ⟨0, Nat.zero_le _, rfl, rfl, HB1.out⟩
        case round =>
          obtain ⟨k, hk, rfl, hall, hBr⟩ := hrel
          have HALL := Lib.hid hall
          have HBr := Lib.hid hBr
          clear hall hBr
          obtain ⟨⟨s0, s1, s2⟩, f0, f1, f2, f3, f4, f5⟩ := HX.out wr HBr.out
          by_cases hlt : k < f.l.length
          · obtain ⟨b, off, rfl, hb, hp, hel⟩ := HC.out (by omega)
            obtain ⟨e0, e1, e2, e3, e4, e5, hf, q0, q1, q2, q3, q4, q5⟩ := hel k hlt
            have hBw := Bt HB.out HBr.out
            have hki : (k : Int) < (f.l.length : Int) := by omega
            have r0 := (hBw.cell (p := ⟨b, off + k * 6, none⟩) hb).trans q0
            have r1 := (hBw.cell (p := ⟨b, off + k * 6 + 1, none⟩) hb).trans q1
            have r2 := (hBw.cell (p := ⟨b, off + k * 6 + 2, none⟩) hb).trans q2
            have r3 := (hBw.cell (p := ⟨b, off + k * 6 + 3, none⟩) hb).trans q3
            have r4 := (hBw.cell (p := ⟨b, off + k * 6 + 4, none⟩) hb).trans q4
            have r5 := (hBw.cell (p := ⟨b, off + k * 6 + 5, none⟩) hb).trans q5
            have hbr : b < wr.heap.size := Nat.lt_of_lt_of_le hb hBw.size
            have hsz0 : w.heap.size < wr.heap.size := Nat.lt_of_lt_of_le HLT.out.1 HBr.out.size
            have hsz1 : w.heap.size + 1 < wr.heap.size := Nat.lt_of_lt_of_le HLT.out.2 HBr.out.size
            have HIH := Lib.hid (fun W (hW : Below wr.heap.size wr W) => ih _ _ f.l[k] W (HS.out.ag (Ag.new p (Bt hBw hW))) (hf.ag (Ag.new p (Bt hBw hW))))
            have HTK := Lib.hid (all_take_succ f.l (Fil.allP (fun x => !Fil.badGrain s x)) k hlt)
            clear hel q0 q1 q2 q3 q4 q5 hf hBw
            cases hv : Fil.allP (fun x => !Fil.badGrain s x) f.l[k]
            · have HVF := Lib.hid hv
              rw [hv] at HIH HTK
              clear hv
              go_wp2_with (fail)
              refine Flow.wp_region_flow_tail 7 (Flow.specs [.inl ?_, .inl ?_, .inl ?_, .inl ?_, .inl ?_, .inl ?_, .inl (.bool false)]) (by kernel_rfl) (by kernel_rfl) ?_ ?_
              rotate_left 6
              · refine Flow.specs_mono ?_
                repeat (first | exact Flow.lmono_nil | refine Flow.lmono_inl ?_)
              all_goals try simp only [List.take_succ_cons, List.take_zero, List.drop_succ_cons, List.drop_zero]
              iterate 6 (refine Flow.tree_valK rfl (fun K hK => ⟨fun w hw hG => ?_, ?_⟩); (have hcl := Flow.bcell hw; clear hG hw; unfold Flow.Runs Flow.yields; go_simp; try rfl); go_simp; refine hK _ ?_; clear hK K)
              (refine Flow.tree_valK rfl (fun K hK => ⟨fun w hw hG => ?_, ?_⟩); (have HW := Lib.hid hw; clear hG hw; unfold Flow.Runs Flow.yields; go_simp; refine (HIH.out _ HW.out).mono ?_; rintro e w3 ⟨rfl, hb3⟩; exact ⟨rfl, hb3⟩); go_simp; refine hK _ ?_; clear hK K)
              refine Flow.tree_nil fun w6 hw6 hG => ?_
              have HB6 := Lib.hid (Bt HBr.out hw6)
              clear hG hw6
              go_wp2
              go_ret
              refine ⟨ret_bool' ?_, Bt HB.out HB6.out⟩
              rw [HE.out]
              have : f.l.all (Fil.allP (fun x => !Fil.badGrain s x)) = false := List.all_eq_false.2 ⟨f.l[k], List.getElem_mem hlt, by rw [HVF.out]; simp⟩
              rw [this]; simp
            · rw [hv] at HIH HTK
              clear hv
              go_wp2_with (fail)
              refine Flow.wp_region_flow_tail 7 (Flow.specs [.inl ?_, .inl ?_, .inl ?_, .inl ?_, .inl ?_, .inl ?_, .inl (.bool true)]) (by kernel_rfl) (by kernel_rfl) ?_ ?_
              rotate_left 6
              · refine Flow.specs_mono ?_
                repeat (first | exact Flow.lmono_nil | refine Flow.lmono_inl ?_)
              all_goals try simp only [List.take_succ_cons, List.take_zero, List.drop_succ_cons, List.drop_zero]
              iterate 6 (refine Flow.tree_valK rfl (fun K hK => ⟨fun w hw hG => ?_, ?_⟩); (have hcl := Flow.bcell hw; clear hG hw; unfold Flow.Runs Flow.yields; go_simp; try rfl); go_simp; refine hK _ ?_; clear hK K)
              (refine Flow.tree_valK rfl (fun K hK => ⟨fun w hw hG => ?_, ?_⟩); (have HW := Lib.hid hw; clear hG hw; unfold Flow.Runs Flow.yields; go_simp; refine (HIH.out _ HW.out).mono ?_; rintro e w3 ⟨rfl, hb3⟩; exact ⟨rfl, hb3⟩); go_simp; refine hK _ ?_; clear hK K)
              refine Flow.tree_nil fun w6 hw6 hG => ?_
              have HB6 := Lib.hid (Bt HBr.out hw6)
              clear hG hw6
              go_wp2
              go_roundw
              case rel => exact ⟨k + 1, by omega, by go_num, by rw [HTK.out, HALL.out]; rfl, HB6.out⟩
              case measure => simp [intOf]; omega
          · have hki : ¬ (k : Int) < (f.l.length : Int) := by omega
            have HT := Lib.hid (show f.l.take k = f.l from List.take_of_length_le (by omega))
            go_wp2
            go_ret
            exact ⟨ret_bool' (by rw [HE.out, ← HT.out, HALL.out]; rfl), Bt HB.out HBr.out⟩
    · have e6 : (f.kind == (6 : Int)) = false := beq_eq_false_iff_ne.2 k6
      rw [decide_eq_false k6] at HBG
      rw [HBG.out] at HE
      have HB1 := Lib.hid (Below.refl W0.heap.size W0)
      clear k6
      go_enter Tryd.func37, Tryd.ntmps37
      go_wp2_with (fail)
      clear s0 s1 s2 f0 f1 f2 f3 f4 f5 hW0
      go_loopw [5] (fun i wr => ∃ k : Nat, k ≤ f.l.length ∧ i = .int .i64 k ∧ (f.l.take k).all (Fil.allP (fun x => !Fil.badGrain s x)) = true ∧ Below W0.heap.size W0 wr) (fun i _ => f.l.length - (intOf i).toNat)
      case atStart => exact ⟨0, Nat.zero_le _, rfl, rfl, HB1.out⟩
      case round =>
        obtain ⟨k, hk, rfl, hall, hBr⟩ := hrel
        have HALL := Lib.hid hall
        have HBr := Lib.hid hBr
        clear hall hBr
        obtain ⟨⟨s0, s1, s2⟩, f0, f1, f2, f3, f4, f5⟩ := HX.out wr HBr.out
        by_cases hlt : k < f.l.length
        · obtain ⟨b, off, rfl, hb, hp, hel⟩ := HC.out (by omega)
          obtain ⟨e0, e1, e2, e3, e4, e5, hf, q0, q1, q2, q3, q4, q5⟩ := hel k hlt
          have hBw := Bt HB.out HBr.out
          have hki : (k : Int) < (f.l.length : Int) := by omega
          have r0 := (hBw.cell (p := ⟨b, off + k * 6, none⟩) hb).trans q0
          have r1 := (hBw.cell (p := ⟨b, off + k * 6 + 1, none⟩) hb).trans q1
          have r2 := (hBw.cell (p := ⟨b, off + k * 6 + 2, none⟩) hb).trans q2
          have r3 := (hBw.cell (p := ⟨b, off + k * 6 + 3, none⟩) hb).trans q3
          have r4 := (hBw.cell (p := ⟨b, off + k * 6 + 4, none⟩) hb).trans q4
          have r5 := (hBw.cell (p := ⟨b, off + k * 6 + 5, none⟩) hb).trans q5
          have hbr : b < wr.heap.size := Nat.lt_of_lt_of_le hb hBw.size
          have hsz0 : w.heap.size < wr.heap.size := Nat.lt_of_lt_of_le HLT.out.1 HBr.out.size
          have hsz1 : w.heap.size + 1 < wr.heap.size := Nat.lt_of_lt_of_le HLT.out.2 HBr.out.size
          have HIH := Lib.hid (fun W (hW : Below wr.heap.size wr W) => ih _ _ f.l[k] W (HS.out.ag (Ag.new p (Bt hBw hW))) (hf.ag (Ag.new p (Bt hBw hW))))
          have HTK := Lib.hid (all_take_succ f.l (Fil.allP (fun x => !Fil.badGrain s x)) k hlt)
          clear hel q0 q1 q2 q3 q4 q5 hf hBw
          cases hv : Fil.allP (fun x => !Fil.badGrain s x) f.l[k]
          · have HVF := Lib.hid hv
            rw [hv] at HIH HTK
            clear hv
            go_wp2_with (fail)
            refine Flow.wp_region_flow_tail 7 (Flow.specs [.inl ?_, .inl ?_, .inl ?_, .inl ?_, .inl ?_, .inl ?_, .inl (.bool false)]) (by kernel_rfl) (by kernel_rfl) ?_ ?_
            rotate_left 6
            · refine Flow.specs_mono ?_
              repeat (first | exact Flow.lmono_nil | refine Flow.lmono_inl ?_)
            all_goals try simp only [List.take_succ_cons, List.take_zero, List.drop_succ_cons, List.drop_zero]
            iterate 6 (refine Flow.tree_valK rfl (fun K hK => ⟨fun w hw hG => ?_, ?_⟩); (have hcl := Flow.bcell hw; clear hG hw; unfold Flow.Runs Flow.yields; go_simp; try rfl); go_simp; refine hK _ ?_; clear hK K)
            (refine Flow.tree_valK rfl (fun K hK => ⟨fun w hw hG => ?_, ?_⟩); (have HW := Lib.hid hw; clear hG hw; unfold Flow.Runs Flow.yields; go_simp; refine (HIH.out _ HW.out).mono ?_; rintro e w3 ⟨rfl, hb3⟩; exact ⟨rfl, hb3⟩); go_simp; refine hK _ ?_; clear hK K)
            refine Flow.tree_nil fun w6 hw6 hG => ?_
            have HB6 := Lib.hid (Bt HBr.out hw6)
            clear hG hw6
            go_wp2
            go_ret
            refine ⟨ret_bool' ?_, Bt HB.out HB6.out⟩
            rw [HE.out]
            have : f.l.all (Fil.allP (fun x => !Fil.badGrain s x)) = false := List.all_eq_false.2 ⟨f.l[k], List.getElem_mem hlt, by rw [HVF.out]; simp⟩
            rw [this]; simp
          · rw [hv] at HIH HTK
            clear hv
            go_wp2_with (fail)
            refine Flow.wp_region_flow_tail 7 (Flow.specs [.inl ?_, .inl ?_, .inl ?_, .inl ?_, .inl ?_, .inl ?_, .inl (.bool true)]) (by kernel_rfl) (by kernel_rfl) ?_ ?_
            rotate_left 6
            · refine Flow.specs_mono ?_
              repeat (first | exact Flow.lmono_nil | refine Flow.lmono_inl ?_)
            all_goals try simp only [List.take_succ_cons, List.take_zero, List.drop_succ_cons, List.drop_zero]
            iterate 6 (refine Flow.tree_valK rfl (fun K hK => ⟨fun w hw hG => ?_, ?_⟩); (have hcl := Flow.bcell hw; clear hG hw; unfold Flow.Runs Flow.yields; go_simp; try rfl); go_simp; refine hK _ ?_; clear hK K)
            (refine Flow.tree_valK rfl (fun K hK => ⟨fun w hw hG => ?_, ?_⟩); (have HW := Lib.hid hw; clear hG hw; unfold Flow.Runs Flow.yields; go_simp; refine (HIH.out _ HW.out).mono ?_; rintro e w3 ⟨rfl, hb3⟩; exact ⟨rfl, hb3⟩); go_simp; refine hK _ ?_; clear hK K)
            refine Flow.tree_nil fun w6 hw6 hG => ?_
            have HB6 := Lib.hid (Bt HBr.out hw6)
            clear hG hw6
            go_wp2
            go_roundw
            case rel => exact ⟨k + 1, by omega, by go_num, by rw [HTK.out, HALL.out]; rfl, HB6.out⟩
            case measure => simp [intOf]; omega
        · have hki : ¬ (k : Int) < (f.l.length : Int) := by omega
          have HT := Lib.hid (show f.l.take k = f.l from List.take_of_length_le (by omega))
          go_wp2
          go_ret
          exact ⟨ret_bool' (by rw [HE.out, ← HT.out, HALL.out]; rfl), Bt HB.out HBr.out⟩
end Go.Proofs.YtdfnolgcdododaaDoor
namespace Tess.Fil
theorem deep_le_count : ∀ f : Fil, f.deep ≤ f.count := ind fun f h => by
  rw [deep_eq, count_eq]
  have : ∀ q : List Fil, (∀ x ∈ q, x.deep ≤ x.count) → deepL q ≤ countL q := fun q hq => by
    induction q with
    | nil => simp [deepL, countL]
    | cons a r ih =>
      have h1 := hq a (List.mem_cons_self ..)
      have h2 := ih fun x hx => hq x (List.mem_cons_of_mem _ hx)
      simp only [deepL, countL]
      omega
  have := this f.l h
  omega
end Tess.Fil
namespace Go.Proofs.YtdfnolgcdododaaDoor
open Go.RowKit Go.Sort
open Tess (Fil)
set_option maxRecDepth 100000 in
set_option maxHeartbeats 2000000 in
theorem rCheck_any (p : Nat → Prop) (n : Nat) (vs v : Value) (s : Tess.Sch) (f : Fil) (w : World) (hs : SchAt p w vs s) (hf : FilAt p n w v f) (hcn : f.count ≤ 1000000000) :
    Calls Tryd.prog 18 #[vs, v] w fun e w' => e = .returned (.int .i64 (Fil.checkE s f : Nat)) ∧ Below w.heap.size w w' := by
  have hdp := Nat.le_trans (Fil.deep_le_count f) hcn
  have HR := Lib.hid (fun W (hB : Below w.heap.size w W) => rRight_any p vs s W (hs.ag (Ag.new p hB)))
  have HCO := Lib.hid (fun W (hB : Below w.heap.size w W) => count_any p n v f W (hf.ag (Ag.new p hB)) hcn)
  have HDE := Lib.hid (fun W (hB : Below w.heap.size w W) => rDeep_any p n v f W (hf.ag (Ag.new p hB)) hdp)
  have HAL := Lib.hid (fun W (hB : Below w.heap.size w W) => rAll_any p s n vs v f W (hs.ag (Ag.new p hB)) (hf.ag (Ag.new p hB)))
  have HFI := Lib.hid (fun W (hB : Below w.heap.size w W) => rFits_any p s n vs v f W (hs.ag (Ag.new p hB)) (hf.ag (Ag.new p hB)))
  have HE := Lib.hid (Fil.checkE_eq s f)
  obtain ⟨fa, fn, fc, fla, flc, rfl⟩ := hf.shape6
  obtain ⟨vd, vm, rfl, hd, hm, _, _⟩ := hs
  obtain ⟨ad, capd, rfl, _⟩ := slp_len hd
  obtain ⟨am, capm, rfl, _⟩ := slp_len hm
  clear hd hm hf
  obtain ⟨W0, hW0⟩ : ∃ W0, (w.alloc (.cells #[.slice ad s.dims.length capd, .slice am s.mets.length capm, .int .i64 s.grain] 24)).alloc (.cells #[.int .i64 f.kind, .string f.name, .slice fa fn fc, .int .i64 f.frm, .int .i64 f.to, .slice fla f.l.length flc] 29) = W0 := ⟨_, rfl⟩
  obtain ⟨h0, h1, hS, hB⟩ := laid2 w (.cells #[.slice ad s.dims.length capd, .slice am s.mets.length capm, .int .i64 s.grain] 24) (.cells #[.int .i64 f.kind, .string f.name, .slice fa fn fc, .int .i64 f.frm, .int .i64 f.to, .slice fla f.l.length flc] 29)
  rw [hW0] at h0 h1 hS hB
  have HB := Lib.hid hB
  have HX := Lib.hid (fun X (hX : Below W0.heap.size W0 X) => And.intro (can3 ((hX.block _ (by omega)).trans h0)).1 (can6 ((hX.block _ (by omega)).trans h1)).1)
  obtain ⟨⟨s0, s1, s2⟩, f0, f1, f2, f3, f4, f5⟩ := HX.out W0 (Below.refl _ _)
  clear h0 h1 hS hB
  generalize f.count = cn at HCO HE hcn
  generalize f.deep = dp at HDE HE hdp
  generalize Fil.allP (Fil.own s) f = al at HAL HE
  generalize Fil.allP (fun x => !Fil.badGrain s x) f = fi at HFI HE
  go_enter Tryd.func18, Tryd.ntmps18
  go_wp2_with (fail)
  go_at_call 34
  refine (HR.out W0 HB.out).mono ?_
  rintro e w1 ⟨rfl, hB⟩
  clear hW0
  have HBw1 := Lib.hid (hB)
  clear hB s0 s1 s2 f0 f1 f2 f3 f4 f5
  obtain ⟨⟨s0, s1, s2⟩, f0, f1, f2, f3, f4, f5⟩ := HX.out w1 HBw1.out
  cases hok : Tess.schOk s
  · rw [hok] at HE
    go_wp2
    go_ret
    exact ⟨ret_int (by rw [HE.out]; rfl), Bt HB.out HBw1.out⟩
  · rw [hok] at HE
    go_wp2_with (fail)
    go_at_call 28
    refine (HCO.out w1 (Bt HB.out HBw1.out)).mono ?_
    rintro e w2 ⟨rfl, hB⟩
    have HBw2 := Lib.hid (Bt HBw1.out hB)
    clear hB s0 s1 s2 f0 f1 f2 f3 f4 f5
    obtain ⟨⟨s0, s1, s2⟩, f0, f1, f2, f3, f4, f5⟩ := HX.out w2 HBw2.out
    by_cases hc : 40 < cn
    · have hci : (40 : Int) < (cn : Int) := by omega
      have HCC := Lib.hid (decide_eq_true (show cn > 40 from hc))
      rw [HCC.out] at HE
      clear hc
      go_wp2
      go_ret
      exact ⟨ret_int (by rw [HE.out]; rfl), Bt HB.out HBw2.out⟩
    · have hci : ¬ (40 : Int) < (cn : Int) := by omega
      have HCC := Lib.hid (decide_eq_false (show ¬ cn > 40 from hc))
      rw [HCC.out] at HE
      clear hc
      go_wp2_with (fail)
      go_at_call 35
      refine (HDE.out w2 (Bt HB.out HBw2.out)).mono ?_
      rintro e w3 ⟨rfl, hB⟩
      have HBw3 := Lib.hid (Bt HBw2.out hB)
      clear hB s0 s1 s2 f0 f1 f2 f3 f4 f5
      obtain ⟨⟨s0, s1, s2⟩, f0, f1, f2, f3, f4, f5⟩ := HX.out w3 HBw3.out
      by_cases hc : 6 < dp
      · have hdi : (6 : Int) < (dp : Int) := by omega
        have HDD := Lib.hid (decide_eq_true (show dp > 6 from hc))
        rw [HDD.out] at HE
        clear hc
        go_wp2
        go_ret
        exact ⟨ret_int (by rw [HE.out]; rfl), Bt HB.out HBw3.out⟩
      · have hdi : ¬ (6 : Int) < (dp : Int) := by omega
        have HDD := Lib.hid (decide_eq_false (show ¬ dp > 6 from hc))
        rw [HDD.out] at HE
        clear hc
        go_wp2_with (fail)
        go_at_call 36
        refine (HAL.out w3 (Bt HB.out HBw3.out)).mono ?_
        rintro e w4 ⟨rfl, hB⟩
        have HBw4 := Lib.hid (Bt HBw3.out hB)
        clear hB s0 s1 s2 f0 f1 f2 f3 f4 f5
        obtain ⟨⟨s0, s1, s2⟩, f0, f1, f2, f3, f4, f5⟩ := HX.out w4 HBw4.out
        cases al
        · go_wp2
          go_ret
          exact ⟨ret_int (by rw [HE.out]; rfl), Bt HB.out HBw4.out⟩
        · go_wp2_with (fail)
          go_at_call 37
          refine (HFI.out w4 (Bt HB.out HBw4.out)).mono ?_
          rintro e w5 ⟨rfl, hB⟩
          have HBw5 := Lib.hid (Bt HBw4.out hB)
          clear hB s0 s1 s2 f0 f1 f2 f3 f4 f5
          obtain ⟨⟨s0, s1, s2⟩, f0, f1, f2, f3, f4, f5⟩ := HX.out w5 HBw5.out
          cases fi
          · go_wp2
            go_ret
            exact ⟨ret_int (by rw [HE.out]; rfl), Bt HB.out HBw5.out⟩
          · go_wp2
            go_ret
            exact ⟨ret_int (by rw [HE.out]; rfl), Bt HB.out HBw5.out⟩
end Go.Proofs.YtdfnolgcdododaaDoor
namespace Go.Proofs.YtdfnolgcdododaaDoor
open Go.RowKit Go.Sort
open Tess (Fil)
/-- How many of the first ones hold. -/
def cntH (s : Tess.Sch) (t : Int) (dims : List Tess.Val) (l : List Fil) (k : Nat) : Nat := (l.take k).countP (Fil.holds s t dims)
theorem cntH_succ (s : Tess.Sch) (t : Int) (dims : List Tess.Val) (l : List Fil) (k : Nat) (h : k < l.length) : cntH s t dims l (k + 1) = cntH s t dims l k + (if Fil.holds s t dims l[k] then 1 else 0) := by
  unfold cntH
  rw [List.take_succ_eq_append_getElem h, List.countP_append]
  simp [List.countP_cons]
theorem cntH_le (s : Tess.Sch) (t : Int) (dims : List Tess.Val) (l : List Fil) (k : Nat) : cntH s t dims l k ≤ k := by
  unfold cntH
  exact Nat.le_trans List.countP_le_length (by simp; omega)

set_option maxRecDepth 100000 in
set_option maxHeartbeats 4000000 in
theorem rHolds_any (p : Nat → Prop) (s : Tess.Sch) (t : Int) (dims : List Tess.Val) (vs vd : Value) (hdl : dims.length = s.dims.length) : ∀ (n : Nat) (v : Value) (f : Fil) (w : World), SchAt p w vs s → FilAt p n w v f → ValsAt p w vd dims →
    Fil.allP (Fil.own s) f = true → Calls Tryd.prog 33 #[vs, v, .int .i64 t, vd] w fun e w' => e = .returned (.bool (Fil.holds s t dims f)) ∧ Below w.heap.size w w' := by
  intro n
  induction n with
  | zero => intro v f w _ hf; exact hf.elim
  | succ n ih =>
  intro v f w hs hf hv hown
  have HOWNL := Lib.hid (show ∀ x ∈ f.l, Fil.allP (Fil.own s) x = true from by rw [Fil.allP_eq, Bool.and_eq_true, List.all_eq_true] at hown; exact hown.2)
  have hown : Fil.own s f = true := by rw [Fil.allP_eq, Bool.and_eq_true] at hown; exact hown.1
  have HFN := Lib.hid hf
  have HS := Lib.hid hs
  have HVV := Lib.hid hv
  have HDIM := Lib.hid (fun W (hB : Below w.heap.size w W) => rDim_any p vs s f.name W (hs.ag (Ag.new p hB)))
  have HWORD := Lib.hid (fun (x : ByteArray) W (hB : Below w.heap.size w W) (hx : x.size ≤ maxLen) h4 h5 => rWord_any p (n + 1) v f x W (hf.ag (Ag.new p hB)) hx h4 h5)
  obtain ⟨vw, a, cap, rfl, _, hvw, _, hl, _, hc⟩ := hf
  obtain ⟨wa, wn, wc, rfl⟩ := hvw.shape
  obtain ⟨vd', vm, rfl, hd, hm, _, _⟩ := hs
  obtain ⟨ad, capd, rfl, _⟩ := slp_len hd
  obtain ⟨am, capm, rfl, _⟩ := slp_len hm
  obtain ⟨da, dc, rfl, hdm, hdz, _, hvc⟩ := hv
  have HC := Lib.hid hc
  have hlm : f.l.length ≤ 9223372036854775807 := by unfold maxLen at hl; omega
  have hdm' : dims.length ≤ 9223372036854775807 := by unfold maxLen at hdm; omega
  have HE := Lib.hid (Fil.holds_eq s t dims f)
  have HO := Lib.hid hown
  have HDL := Lib.hid hdl
  have HVC := Lib.hid hvc
  have HDZ := Lib.hid hdz
  clear hvw hc hl hd hm hown hvc hdm hdz
  obtain ⟨W0, hW0⟩ : ∃ W0, (w.alloc (.cells #[.slice ad s.dims.length capd, .slice am s.mets.length capm, .int .i64 s.grain] 24)).alloc (.cells #[.int .i64 f.kind, .string f.name, .slice wa wn wc, .int .i64 f.frm, .int .i64 f.to, .slice a f.l.length cap] 29) = W0 := ⟨_, rfl⟩
  obtain ⟨h0, h1, hS, hB⟩ := laid2 w (.cells #[.slice ad s.dims.length capd, .slice am s.mets.length capm, .int .i64 s.grain] 24) (.cells #[.int .i64 f.kind, .string f.name, .slice wa wn wc, .int .i64 f.frm, .int .i64 f.to, .slice a f.l.length cap] 29)
  rw [hW0] at h0 h1 hS hB
  have HB := Lib.hid hB
  have HX := Lib.hid (fun X (hX : Below W0.heap.size W0 X) => And.intro (can3 ((hX.block _ (by omega)).trans h0)).1 (can6 ((hX.block _ (by omega)).trans h1)).1)
  have HLT := Lib.hid (show w.heap.size < W0.heap.size ∧ w.heap.size + 1 < W0.heap.size from ⟨by omega, by omega⟩)
  obtain ⟨⟨s0, s1, s2⟩, f0, f1, f2, f3, f4, f5⟩ := HX.out W0 (Below.refl _ _)
  clear h0 h1 hS hB hdl
  go_enter Tryd.func33, Tryd.ntmps33
  go_wp2_with (fail)
  clear s0 s1 s2 f0 f1 f2 f3 f4 f5 hW0
  go_loopw [9, 10] (fun c i wr => ∃ k : Nat, k ≤ f.l.length ∧ i = .int .i64 k ∧ c = .int .i64 (cntH s t dims f.l k : Nat) ∧ Below W0.heap.size W0 wr) (fun _ i _ => f.l.length - (intOf i).toNat)
  case atStart => exact ⟨0, Nat.zero_le _, rfl, rfl, Below.refl _ _⟩
  case round =>
    obtain ⟨k, hk, rfl, rfl, hBr⟩ := hrel
    have HBr := Lib.hid hBr
    clear hBr
    obtain ⟨⟨s0, s1, s2⟩, f0, f1, f2, f3, f4, f5⟩ := HX.out wr HBr.out
    by_cases hlt : k < f.l.length
    · obtain ⟨b, off, rfl, hb, hp, hel⟩ := HC.out (by omega)
      obtain ⟨e0, e1, e2, e3, e4, e5, hf, q0, q1, q2, q3, q4, q5⟩ := hel k hlt
      have hBw := Bt HB.out HBr.out
      have hki : (k : Int) < (f.l.length : Int) := by omega
      have r0 := (hBw.cell (p := ⟨b, off + k * 6, none⟩) hb).trans q0
      have r1 := (hBw.cell (p := ⟨b, off + k * 6 + 1, none⟩) hb).trans q1
      have r2 := (hBw.cell (p := ⟨b, off + k * 6 + 2, none⟩) hb).trans q2
      have r3 := (hBw.cell (p := ⟨b, off + k * 6 + 3, none⟩) hb).trans q3
      have r4 := (hBw.cell (p := ⟨b, off + k * 6 + 4, none⟩) hb).trans q4
      have r5 := (hBw.cell (p := ⟨b, off + k * 6 + 5, none⟩) hb).trans q5
      have hbr : b < wr.heap.size := Nat.lt_of_lt_of_le hb hBw.size
      have hsz0 : w.heap.size < wr.heap.size := Nat.lt_of_lt_of_le HLT.out.1 HBr.out.size
      have hsz1 : w.heap.size + 1 < wr.heap.size := Nat.lt_of_lt_of_le HLT.out.2 HBr.out.size
      have HIH := Lib.hid (fun W (hW : Below wr.heap.size wr W) => ih _ f.l[k] W (HS.out.ag (Ag.new p (Bt hBw hW))) (hf.ag (Ag.new p (Bt hBw hW))) (HVV.out.ag (Ag.new p (Bt hBw hW))) (HOWNL.out _ (List.getElem_mem hlt)))
      have HTK := Lib.hid (cntH_succ s t dims f.l k hlt)
      have hcl := cntH_le s t dims f.l k
      clear hel q0 q1 q2 q3 q4 q5 hf hBw
      generalize cntH s t dims f.l k = cn at *
      generalize Fil.holds s t dims f.l[k] = hv at *
      go_wp2_with (fail)
      refine Flow.wp_region_flow (Flow.specs [.inl ?_, .inl ?_, .inl ?_, .inl ?_, .inl ?_, .inl ?_, .inl ?_, .inl ?_, .inl (.bool hv)]) (by kernel_rfl) (by kernel_rfl) ?_ ?_
      rotate_left 8
      · refine Flow.specs_mono ?_
        repeat (first | exact Flow.lmono_nil | refine Flow.lmono_inl ?_)
      iterate 8 (refine Flow.tree_valK rfl (fun K hK => ⟨fun w hw hG => ?_, ?_⟩); (have hcl := Flow.bcell hw; clear hG hw; unfold Flow.Runs Flow.yields; go_simp; try rfl); go_simp; refine hK _ ?_; clear hK K)
      (refine Flow.tree_valK rfl (fun K hK => ⟨fun w hw hG => ?_, ?_⟩); (have HW := Lib.hid hw; clear hG hw; unfold Flow.Runs Flow.yields; go_simp; refine (HIH.out _ HW.out).mono ?_; rintro e w3 ⟨rfl, hb3⟩; exact ⟨rfl, hb3⟩); go_simp; refine hK _ ?_; clear hK K)
      refine Flow.tree_nil fun w6 hw6 hG => ?_
      have HB6 := Lib.hid (Bt HBr.out hw6)
      clear hG hw6
      cases hv
      · go_wp2
        go_roundw
        case rel => exact ⟨k + 1, by omega, by go_num, by rw [HTK.out]; simp, HB6.out⟩
        case measure => simp [intOf]; omega
      · go_wp2
        go_roundw
        case rel => exact ⟨k + 1, by omega, by go_num, by rw [HTK.out]; go_num, HB6.out⟩
        case measure => simp [intOf]; omega
    · have hki : ¬ (k : Int) < (f.l.length : Int) := by omega
      have hkl : k = f.l.length := by omega
      subst hkl
      have HBw := Lib.hid (Bt HB.out HBr.out)
      have HCN : RowKit.Hid (cntH s t dims f.l f.l.length = f.l.countP (Fil.holds s t dims)) := Lib.hid (by unfold cntH; rw [List.take_length])
      have hcl := cntH_le s t dims f.l f.l.length
      generalize cntH s t dims f.l f.l.length = cn at *
      by_cases k1 : f.kind = 1
      · have e1 : (f.kind == (1 : Int)) = true := by rw [k1]; rfl
        have HR := Lib.hid (show Fil.holds s t dims f = true by rw [HE.out]; simp [Fil.holdsW, k1])
        clear k1
        go_wp2
        go_ret
        exact ⟨ret_bool' HR.out.symm, HBw.out⟩
      have e1 : (f.kind == (1 : Int)) = false := by rw [beq_eq_false_iff_ne]; exact k1
      by_cases k6 : f.kind = 6
      · have e6 : (f.kind == (6 : Int)) = true := by rw [k6]; rfl
        have HR := Lib.hid (show Fil.holds s t dims f = Fil.spanHas f.frm f.to t by rw [HE.out]; simp [Fil.holdsW, k6])
        have HX2 := Lib.hid (fun W => rgHas_any f.frm f.to t W)
        clear k1 k6
        go_wp2_with (fail)
        go_at_call 63
        refine (HX2.out _).mono ?_
        rintro e w2 ⟨rfl, hB2⟩
        have HB2 := Lib.hid (Bt HBw.out hB2)
        clear hB2
        go_wp2
        go_ret
        exact ⟨ret_bool' HR.out.symm, HB2.out⟩
      have e6 : (f.kind == (6 : Int)) = false := by rw [beq_eq_false_iff_ne]; exact k6
      by_cases k7 : f.kind = 7
      · have e7 : (f.kind == (7 : Int)) = true := by rw [k7]; rfl
        have HR := Lib.hid (show Fil.holds s t dims f = ((cn : Int) == 0) from by
          have hl1 : f.l.length = 1 := by
            have := HO.out
            simp [Fil.own, k7, Fil.form, Fil.inW] at this
            omega
          rw [HE.out, HCN.out]
          match hq : f.l, hl1 with
          | [y], _ =>
            cases hy : Fil.holds s t dims y <;> simp [Fil.holdsW, k7, hy])
        clear k1 k6 k7
        go_wp2
        go_ret
        exact ⟨ret_bool' HR.out.symm, HBw.out⟩
      have e7 : (f.kind == (7 : Int)) = false := by rw [beq_eq_false_iff_ne]; exact k7
      by_cases k8 : f.kind = 8
      · have e8 : (f.kind == (8 : Int)) = true := by rw [k8]; rfl
        have HR := Lib.hid (show Fil.holds s t dims f = ((cn : Int) == (f.l.length : Int)) from by
          have hr : Fil.holds s t dims f = f.l.all (Fil.holds s t dims) := by rw [HE.out]; simp [Fil.holdsW, k8]
          rw [hr, HCN.out, Bool.eq_iff_iff, List.all_eq_true, beq_iff_eq]
          rw [← List.countP_eq_length]
          omega)
        clear k1 k6 k7 k8
        go_wp2
        go_ret
        exact ⟨ret_bool' HR.out.symm, HBw.out⟩
      have e8 : (f.kind == (8 : Int)) = false := by rw [beq_eq_false_iff_ne]; exact k8
      by_cases k9 : f.kind = 9
      · have e9 : (f.kind == (9 : Int)) = true := by rw [k9]; rfl
        have HR := Lib.hid (show Fil.holds s t dims f = decide (0 < cn) from by
          have hr : Fil.holds s t dims f = f.l.any (Fil.holds s t dims) := by rw [HE.out]; simp [Fil.holdsW, k9]
          rw [hr, HCN.out, Bool.eq_iff_iff, List.any_eq_true, decide_eq_true_eq, List.countP_pos_iff])
        clear k1 k6 k7 k8 k9
        go_wp2
        go_ret
        exact ⟨ret_bool' (by rw [HR.out]), HBw.out⟩
      have e9 : (f.kind == (9 : Int)) = false := by rw [beq_eq_false_iff_ne]; exact k9
      have hown := HO.out
      have hd2 : (Tess.dimW s f.name).2 = true := by
        unfold Fil.own at hown
        split at hown
        · cases hown
        · rename_i hn hs' ws ls hform
          have hhn : hn = true := by
            unfold Fil.form at hform
            simp only [k7, k8, k9, k6, k1, if_false] at hform
            split at hform
            · simp at hform; exact hform.1
            split at hform
            · simp at hform; exact hform.1
            split at hform
            · simp at hform; exact hform.1
            split at hform
            · simp at hform; exact hform.1
            · cases hform
          simp only [Bool.and_eq_true] at hown
          have := hown.1.1.1.1.1
          rw [hhn] at this
          simpa using this
      have hw4 : f.kind = 4 → 1 ≤ f.words.length := fun h => by
        simp [Fil.own, h, Fil.form, Fil.inW] at hown; omega
      have hw5 : f.kind = 5 → 2 ≤ f.words.length := fun h => by
        simp [Fil.own, h, Fil.form, Fil.inW] at hown; omega
      have hlt := dim_lt s f.name hd2
      obtain ⟨i, hi⟩ : ∃ i, i = (Tess.dimW s f.name).1 := ⟨_, rfl⟩
      have hdim : Tess.dimW s f.name = (i, true) := by rw [hi, ← hd2]
      have hil : i < dims.length := by rw [HDL.out, hi]; exact hlt
      rw [hdim] at HDIM
      have hHD : Fil.holdsDim s dims f = (if dims[i].null || decide (f.kind = 3) then dims[i].null && decide (f.kind = 3) else Fil.isWord f dims[i].s) := by
        unfold Fil.holdsDim
        simp only [hdim]
        simp only [List.getD_eq_getElem?_getD, List.getElem?_eq_getElem hil, Option.getD_some]
      have HR := Lib.hid (show Fil.holds s t dims f = _ from (by rw [HE.out]; simp [Fil.holdsW, k7, k8, k9, k6, k1] : Fil.holds s t dims f = Fil.holdsDim s dims f).trans hHD)
      have HWO := Lib.hid (fun W (hB : Below w.heap.size w W) => HWORD.out dims[i].s W hB (HDZ.out _ (List.getElem_mem hil)) hw4 hw5)
      obtain ⟨b, off, rfl, hb, _, hcell⟩ := HVC.out (by omega)
      have hcc := hcell i hil
      obtain ⟨x, hx⟩ : ∃ x, x = dims[i] := ⟨_, rfl⟩
      rw [← hx] at HWO HR hcc
      have HCC := Lib.hid hcc
      have HBI := Lib.hid hb
      have hili : (i : Int) < (dims.length : Int) := by omega
      clear k1 k6 k7 k8 k9 hown hd2 hw4 hw5 hlt hi hdim hHD hx hcell hcc HWORD
      go_wp2_with (fail)
      go_at_call 64
      refine (HDIM.out wr HBw.out).mono ?_
      rintro e w2 ⟨rfl, hB2⟩
      have HB2 := Lib.hid (Bt HBr.out hB2)
      clear hB2 s0 s1 s2 f0 f1 f2 f3 f4 f5
      obtain ⟨⟨s0, s1, s2⟩, f0, f1, f2, f3, f4, f5⟩ := HX.out w2 HB2.out
      have c0 := ((Bt HB.out HB2.out).cell (p := ⟨b, off + i * 2, none⟩) hb).trans HCC.out.1
      have c1 := ((Bt HB.out HB2.out).cell (p := ⟨b, off + i * 2 + 1, none⟩) hb).trans HCC.out.2
      have hbw : b < w2.heap.size := Nat.lt_of_lt_of_le hb (Bt HB.out HB2.out).size
      have hsz1 : w.heap.size + 1 < w2.heap.size := Nat.lt_of_lt_of_le HLT.out.2 HB2.out.size
      by_cases k3 : f.kind = 3
      · have e3 : (f.kind == (3 : Int)) = true := by rw [k3]; rfl
        have HR2 := Lib.hid (show Fil.holds s t dims f = x.null from by rw [HR.out]; simp [k3])
        clear k3
        cases hnu : x.null
        all_goals
          rw [hnu] at c1 HR2
          go_wp2
          go_quiet (fail)
          go_wp2
          go_ret
          exact ⟨ret_bool' HR2.out.symm, below_drewN (Bt HB.out HB2.out) _⟩
      · have e3 : (f.kind == (3 : Int)) = false := by rw [beq_eq_false_iff_ne]; exact k3
        cases hnu : x.null
        · rw [hnu] at c1
          have HR2 := Lib.hid (show Fil.holds s t dims f = Fil.isWord f x.s from by rw [HR.out, hnu]; simp [k3])
          have HWX := Lib.hid (fun W (hW : Below w2.heap.size w2 W) => HWO.out W (Bt (Bt HB.out HB2.out) hW))
          generalize Fil.isWord f x.s = r at HR2 HWX HWO
          clear k3
          go_wp2_with (fail)
          refine Flow.wp_region_flow_tail 7 (Flow.specs [.inl ?_, .inl ?_, .inl ?_, .inl ?_, .inl ?_, .inl ?_, .inl (.bool r)]) (by kernel_rfl) (by kernel_rfl) ?_ ?_
          rotate_left 6
          · refine Flow.specs_mono ?_
            repeat (first | exact Flow.lmono_nil | refine Flow.lmono_inl ?_)
          all_goals try simp only [List.take_succ_cons, List.take_zero, List.drop_succ_cons, List.drop_zero]
          iterate 6 (refine Flow.tree_valK rfl (fun K hK => ⟨fun w hw hG => ?_, ?_⟩); (have hcl := Flow.bcell hw; clear hG hw; unfold Flow.Runs Flow.yields; go_simp; try rfl); go_simp; refine hK _ ?_; clear hK K)
          (refine Flow.tree_valK rfl (fun K hK => ⟨fun w hw hG => ?_, ?_⟩); (have HW := Lib.hid hw; clear hG hw; unfold Flow.Runs Flow.yields; go_simp; refine (HWX.out _ HW.out).mono ?_; rintro e w3 ⟨rfl, hb3⟩; exact ⟨rfl, hb3⟩); go_simp; refine hK _ ?_; clear hK K)
          refine Flow.tree_nil fun w6 hw6 hG => ?_
          have HB6 := Lib.hid (Bt (Bt HB.out HB2.out) hw6)
          clear hG hw6
          go_wp2
          go_ret
          exact ⟨ret_bool' HR2.out.symm, HB6.out⟩
        · rw [hnu] at c1
          have HR2 := Lib.hid (show Fil.holds s t dims f = false from by rw [HR.out, hnu]; simp [k3])
          clear k3
          go_wp2
          go_quiet (fail)
          go_wp2
          go_ret
          exact ⟨ret_bool' HR2.out.symm, below_drewN (Bt HB.out HB2.out) _⟩
end Go.Proofs.YtdfnolgcdododaaDoor
namespace Go.Proofs.YtdfnolgcdododaaDoor
open Go.RowKit Go.Sort
open Tess (Fil)
set_option maxRecDepth 100000 in
set_option maxHeartbeats 2000000 in
theorem rHoldsE_any (p : Nat → Prop) (n : Nat) (vs v vd : Value) (s : Tess.Sch) (f : Fil) (t : Int) (dims : List Tess.Val) (w : World) (hs : SchAt p w vs s) (hf : FilAt p n w v f) (hv : ValsAt p w vd dims) (hcn : f.count ≤ 1000000000) :
    Calls Tryd.prog 17 #[vs, v, .int .i64 t, vd] w fun e w' => e = .returned (.tuple #[.bool (Fil.holdsE s t dims f).1, .int .i64 ((Fil.holdsE s t dims f).2 : Nat)]) ∧ Below w.heap.size w w' := by
  have HCK := Lib.hid (fun W (hB : Below w.heap.size w W) => rCheck_any p n vs v s f W (hs.ag (Ag.new p hB)) (hf.ag (Ag.new p hB)) hcn)
  have HHO := Lib.hid (fun (h1 : dims.length = s.dims.length) (h2 : Fil.allP (Fil.own s) f = true) W (hB : Below w.heap.size w W) => rHolds_any p s t dims vs vd h1 n v f W (hs.ag (Ag.new p hB)) (hf.ag (Ag.new p hB)) (hv.ag (Ag.new p hB)) h2)
  have HE : RowKit.Hid (Fil.holdsE s t dims f = if Fil.checkE s f = 0 then (if dims.length = s.dims.length then (Fil.holds s t dims f, 0) else (false, 140)) else (false, Fil.checkE s f)) := Lib.hid rfl
  have HC0 := Lib.hid (fun h => ((Fil.check0 s f).1 h).2.2.2.1)
  obtain ⟨fa, fn, fc, fla, flc, rfl⟩ := hf.shape6
  obtain ⟨vd', vm, rfl, hd, hm, _, _⟩ := hs
  obtain ⟨ad, capd, rfl, _⟩ := slp_len hd
  obtain ⟨am, capm, rfl, _⟩ := slp_len hm
  obtain ⟨da, dc, rfl, _, _, _, _⟩ := hv
  clear hd hm hf
  obtain ⟨W0, hW0⟩ : ∃ W0, (w.alloc (.cells #[.slice ad s.dims.length capd, .slice am s.mets.length capm, .int .i64 s.grain] 24)).alloc (.cells #[.int .i64 f.kind, .string f.name, .slice fa fn fc, .int .i64 f.frm, .int .i64 f.to, .slice fla f.l.length flc] 29) = W0 := ⟨_, rfl⟩
  obtain ⟨h0, h1, hS, hB⟩ := laid2 w (.cells #[.slice ad s.dims.length capd, .slice am s.mets.length capm, .int .i64 s.grain] 24) (.cells #[.int .i64 f.kind, .string f.name, .slice fa fn fc, .int .i64 f.frm, .int .i64 f.to, .slice fla f.l.length flc] 29)
  rw [hW0] at h0 h1 hS hB
  have HB := Lib.hid hB
  have HX := Lib.hid (fun X (hX : Below W0.heap.size W0 X) => And.intro (can3 ((hX.block _ (by omega)).trans h0)).1 (can6 ((hX.block _ (by omega)).trans h1)).1)
  obtain ⟨⟨s0, s1, s2⟩, f0, f1, f2, f3, f4, f5⟩ := HX.out W0 (Below.refl _ _)
  clear h0 h1 hS hB
  go_enter Tryd.func17, Tryd.ntmps17
  go_wp2_with (fail)
  go_at_call 18
  refine (HCK.out W0 HB.out).mono ?_
  rintro e w1 ⟨rfl, hB⟩
  clear hW0 s0 s1 s2 f0 f1 f2 f3 f4 f5
  obtain ⟨⟨s0, s1, s2⟩, f0, f1, f2, f3, f4, f5⟩ := HX.out w1 hB
  have HB1 := Lib.hid hB
  clear hB
  by_cases hc : Fil.checkE s f = 0
  · have HOWN := Lib.hid (HC0.out hc)
    rw [if_pos hc] at HE
    rw [hc]
    clear hc
    by_cases hl : dims.length = s.dims.length
    · have HHX := Lib.hid (HHO.out hl HOWN.out)
      rw [if_pos hl] at HE
      have hl' : ((dims.length : Int) != (s.dims.length : Int)) = false := by rw [bne_eq_false_iff_eq]; omega
      generalize Fil.holds s t dims f = b at HE HHX
      clear hl
      go_wp2_with (fail)
      go_at_call 33
      refine (HHX.out w1 (Bt HB.out HB1.out)).mono ?_
      rintro e w2 ⟨rfl, hB2⟩
      have HB2 := Lib.hid (Bt (Bt HB.out HB1.out) hB2)
      clear hB2
      go_wp2
      refine bodyPost_ret (v := .tuple #[.bool b, .int .i64 0]) (by simp [results, Tryd.results17, go_sem]) rfl ⟨by rw [HE.out]; rfl, HB2.out⟩
    · rw [if_neg hl] at HE
      have hl' : ((dims.length : Int) != (s.dims.length : Int)) = true := by rw [bne_iff_ne]; omega
      clear hl
      go_wp2
      refine bodyPost_ret (v := .tuple #[.bool false, .int .i64 140]) (by simp [results, Tryd.results17, go_sem]) rfl ⟨by rw [HE.out]; rfl, Bt HB.out HB1.out⟩
  · rw [if_neg hc] at HE
    generalize Fil.checkE s f = c at HE hc
    have hc1 : ((c : Int) == 0) = false := beq_eq_false_iff_ne.2 (by omega)
    have hc2 : ((c : Int) != 0) = true := by rw [bne_iff_ne]; omega
    clear hc
    go_wp2
    refine bodyPost_ret (v := .tuple #[.bool false, .int .i64 (c : Int)]) (by simp [results, Tryd.results17, go_sem]) rfl ⟨by rw [HE.out], Bt HB.out HB1.out⟩
end Go.Proofs.YtdfnolgcdododaaDoor
