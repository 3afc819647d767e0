/- The law's filters, cut: walked. -/
import Derived.Test.YtdfnolgcdododaaDoorF11
namespace Go.Proofs.YtdfnolgcdododaaDoor
open Go.RowKit Go.Sort
open Tess (Fil)

abbrev zeroFil : Array Value := #[.int .i64 0, .string ⟨#[]⟩, .slice none 0 0, .int .i64 0, .int .i64 0, .slice none 0 0]
def CutC (d : Nat) : Prop := ∀ (p : Nat → Prop) (n : Nat) (v : Value) (f : Fil) (w : World), FilAt p n w v f →
  Calls Tryd.prog 27 #[v, .int .i64 ((d + 1 : Nat) : Int)] w fun e w' => ∃ v', e = .returned v' ∧ FilAt (fun b => w.heap.size ≤ b) (d + 1) w' v' (Fil.cut d f) ∧ Below w.heap.size w w'
theorem cut_name (d : Nat) (f : Fil) : (Fil.cut d f).name = cutN 30 f.name := by cases d <;> rfl

set_option maxRecDepth 100000 in
set_option maxHeartbeats 4000000 in
theorem cut_step (d : Nat) (hd7 : d ≤ 100) (hrec : d = 0 ∨ ∃ e, d = e + 1 ∧ CutC e) : CutC d := by
  intro p n v f w hv
  have HREC := Lib.hid hrec
  clear hrec
  cases n with
  | zero => exact hv.elim
  | succ n =>
  obtain ⟨vw, al, capl, rfl, hnm, hw, hws, hll, _, hel⟩ := hv
  obtain ⟨aw, capw, rfl, hlw, hcw⟩ := sls_open hw.1
  have HW := Lib.hid hcw
  have HWS := Lib.hid hws
  have HEL := Lib.hid hel
  have hnm' : f.name.size ≤ 9223372036854775807 := by unfold maxLen at hnm; omega
  have hll' : f.l.length ≤ 9223372036854775807 := by unfold maxLen at hll; omega
  clear hcw hw hws hel hnm hll
  obtain ⟨i0, hi, hz0, hz1, hz2⟩ := info_parts infoStr
  obtain ⟨j0, ji, jz0, jz1, jz2⟩ := info_parts infoFil
  go_enter Tryd.func27, Tryd.ntmps27
  go_wp2
  obtain ⟨W0, hW0⟩ : ∃ W0, (w.alloc (.cells #[.int .i64 f.kind, .string f.name, .slice aw f.words.length capw, .int .i64 f.frm, .int .i64 f.to, .slice al f.l.length capl] 29)).alloc (.cells zeroFil 29) = W0 := ⟨_, rfl⟩
  obtain ⟨hk1, hk2, hS0, hB0⟩ : W0.heap[w.heap.size]? = some (.cells #[.int .i64 f.kind, .string f.name, .slice aw f.words.length capw, .int .i64 f.frm, .int .i64 f.to, .slice al f.l.length capl] 29 (0, 0)) ∧ W0.heap[w.heap.size + 1]? = some (.cells zeroFil 29 (0, 0)) ∧ W0.heap.size = w.heap.size + 2 ∧ Below w.heap.size w W0 := by rw [← hW0]; exact laid2 w _ _
  rw [hW0]
  clear hW0
  have s0 : w.heap.size < W0.heap.size := by omega
  have HS0 := Lib.hid hS0
  clear hS0
  have c0 := cell_of_row W0 w.heap.size 0 _ _ _ hk1
  have c1 := cell_of_row W0 w.heap.size 1 _ _ _ hk1
  have c3 := cell_of_row W0 w.heap.size 3 _ _ _ hk1
  have c4 := cell_of_row W0 w.heap.size 4 _ _ _ hk1
  simp only [List.getElem?_toArray, List.getElem?_cons_succ, List.getElem?_cons_zero] at c0 c1 c3 c4
  rcases (show ((30 : Int) < (f.name.size : Int) ∧ (¬ (f.name.size : Int) ≤ 30 ∧ (30 : Int) ≤ (f.name.size : Int))) ∨ (¬ (30 : Int) < (f.name.size : Int) ∧ (f.name.size : Int) ≤ 30) by omega) with ⟨h3i, h3j⟩ | ⟨h3i, h3j⟩
  all_goals
    refine Flow.wp_region_flow_tail 13 (Flow.specs [.inl ?_, .inl ?_, .inl ?_, .inl ?_, .inl ?_, .inl ?_, .inl ?_, .inl ?_, .inl ?_, .inl ?_, .inl ?_, .inl ?_, .inr (newAt (w.heap.size + 2) zeroFil 29)]) (by kernel_rfl) (by kernel_rfl) ?_ ?_
    rotate_left 12
    · refine Flow.specs_mono ?_
      repeat (first | exact Flow.lmono_nil | refine Flow.lmono_inl ?_ | refine Flow.lmono_inr (newAt_mono _ _ _) ?_)
    simp only [List.take_succ_cons, List.take_zero, List.drop_succ_cons, List.drop_zero]
    iterate 12 (refine Flow.tree_valK rfl (fun K hK => ⟨fun w hw hG => ?_, ?_⟩); (have hcl := Flow.bcell hw; clear hG hw; unfold Flow.Runs Flow.yields; go_simp; try rfl); go_simp; refine hK _ ?_; clear hK K)
    (refine Flow.tree_varK rfl (fun K hK => ⟨fun w hw hG => ?_, ?_⟩); (clear hG; unfold Flow.Runs Flow.yields; go_simp; refine ⟨(Below.refl _ _).alloc (Nat.le_refl _) _, ?_⟩); rotate_left; intro vz; go_simp; refine hK _ _ ?_; clear hK K; rotate_left)
    · exact ⟨_, rfl, by have := hw.size; have := HS0.out; omega, heap_alloc_new _ _⟩
    refine Flow.tree_nil fun w2 hw2 hG => ?_
    obtain ⟨g, rfl, hgb, hk3⟩ := (show newAt (w.heap.size + 2) zeroFil 29 vz w2 by simpa [Flow.upd] using hG 12)
    clear hG
    have z0 := frozen_of_row w2 g 0 _ _ hk3
    have z1 := frozen_of_row w2 g 1 _ _ hk3
    have z2 := frozen_of_row w2 g 2 _ _ hk3
    have z3 := frozen_of_row w2 g 3 _ _ hk3
    have z4 := frozen_of_row w2 g 4 _ _ hk3
    have z5 := frozen_of_row w2 g 5 _ _ hk3
    have e0 := cell_of_row w2 g 0 _ _ _ hk3
    have e1 := cell_of_row w2 g 1 _ _ _ hk3
    have e2 := cell_of_row w2 g 2 _ _ _ hk3
    have e3 := cell_of_row w2 g 3 _ _ _ hk3
    have e4 := cell_of_row w2 g 4 _ _ _ hk3
    have e5 := cell_of_row w2 g 5 _ _ _ hk3
    simp only [List.getElem?_toArray, List.getElem?_cons_succ, List.getElem?_cons_zero] at e0 e1 e2 e3 e4 e5
    clear c0 c1 c3 c4
    go_wp2
    obtain ⟨bx, hbx⟩ : ∃ bx : Array Value, bx = #[.int .i64 f.kind, .string f.name, .slice aw f.words.length capw, .int .i64 f.frm, .int .i64 f.to, .slice al f.l.length capl] := ⟨_, rfl⟩
    have HBX := Lib.hid hbx
    rw [← hbx] at hk1
    clear hbx
    first
      | (obtain ⟨W1, hW1, hC1⟩ := cf_start (k := f.kind) (fr := f.frm) (to := f.to) (f.name.extract 0 30) (cutN 30 f.name) rfl hB0 HS0.out hw2 hk1 hk2 hgb hk3; rw [hW1])
      | (obtain ⟨W1, hW1, hC1⟩ := cf_start (k := f.kind) (fr := f.frm) (to := f.to) f.name (cutN 30 f.name) (cutN_self 30 f.name (by omega)).symm hB0 HS0.out hw2 hk1 hk2 hgb hk3; rw [hW1])
    clear hW1 z0 z1 z2 z3 z4 z5 e0 e1 e2 e3 e4 e5 hk1 hk2 hk3 s0 hB0 hgb hw2
    go_loopw [6] (fun i wr => ∃ (k : Nat) (wv : Value), k ≤ f.words.length ∧ k ≤ 10 ∧ i = .int .i64 k ∧ Cf w g bx f.kind (cutN 30 f.name) wv f.frm f.to (.slice none 0 0) wr ∧ wr.ownsRow (g + 1) 9 1 wv k (namesV 110 10 f.words k)) (fun i _ => 10 - (intOf i).toNat)
    case atStart => exact ⟨0, _, Nat.zero_le _, Nat.zero_le _, rfl, hC1, by simpa [namesV] using World.ownsRow_nil W1 (g + 1) 9 1⟩
    case round =>
      obtain ⟨k, wv, hk, hk10, rfl, hC, hown⟩ := hrel
      have HC := Lib.hid hC
      have HO := Lib.hid hown
      clear hC hown hC1
      have hg2 := HC.out.hg
      have hgl := HC.out.lt
      have hsw : w.heap.size < wr.heap.size := by omega
      have c1 := cell_of_row wr w.heap.size 2 _ _ _ HC.out.k1
      have c3 := cell_of_row wr g 2 _ _ _ HC.out.k3
      have z3 := frozen_of_row wr g 2 _ _ HC.out.k3
      rw [HBX.out] at c1
      simp only [List.getElem?_toArray, List.getElem?_cons_succ, List.getElem?_cons_zero] at c1 c3
      by_cases hlt : k < f.words.length ∧ k < 10
      · obtain ⟨h1, h2⟩ := hlt
        obtain ⟨b, off, rfl, hb, hcell⟩ := HW.out k h1
        have hck : wr.cell? ⟨b, off + k, none⟩ = some (.string f.words[k]) := (HC.out.below.cell (p := ⟨b, off + k, none⟩) hb).trans hcell
        have hdk : f.words[k].size ≤ 9223372036854775807 := HWS.out _ (List.getElem_mem h1)
        have hbw : b < wr.heap.size := Nat.lt_of_lt_of_le hb HC.out.below.size
        clear hcell hb
        go_wp2
        obtain ⟨x, hx⟩ : ∃ x, x = cutN 110 f.words[k] := ⟨_, rfl⟩
        have HX := Lib.hid hx
        clear hx
        rcases (show ((110 : Int) < (f.words[k].size : Int) ∧ (¬ (f.words[k].size : Int) ≤ 110 ∧ (110 : Int) ≤ (f.words[k].size : Int))) ∨ (¬ (110 : Int) < (f.words[k].size : Int) ∧ (f.words[k].size : Int) ≤ 110) by omega) with ⟨h3i, h3j⟩ | ⟨h3i, h3j⟩
        all_goals
          refine Flow.wp_region_flow_tail 16 (Flow.specs [.inl ?_, .inl ?_, .inl ?_, .inl ?_, .inl ?_, .inl ?_, .inl ?_, .inl ?_, .inl ?_, .inl ?_, .inl ?_, .inl ?_, .inl ?_, .inl ?_, .inl ?_, .inr (newOne (.string x))]) (by kernel_rfl) (by kernel_rfl) ?_ ?_
          rotate_left 15
          · refine Flow.specs_mono ?_
            repeat (first | exact Flow.lmono_nil | refine Flow.lmono_inl ?_ | refine Flow.lmono_inr (newOne_mono _) ?_)
          all_goals try simp only [List.take_succ_cons, List.take_zero, List.drop_succ_cons, List.drop_zero]
          iterate 15 (refine Flow.tree_valK rfl (fun K hK => ⟨fun w hw hG => ?_, ?_⟩); (have hcl := Flow.bcell hw; clear hG hw; unfold Flow.Runs Flow.yields; go_simp; try rfl); go_simp; refine hK _ ?_; clear hK K)
          (refine Flow.tree_varK rfl (fun K hK => ⟨fun w hw hG => ?_, ?_⟩); (clear hG hw; unfold Flow.Runs Flow.yields; go_simp; refine ⟨(Below.refl _ _).alloc (Nat.le_refl _) _, ?_⟩; rw [HX.out]); rotate_left; intro vz; go_simp; refine hK _ _ ?_; clear hK K; rotate_left)
          · first | exact newOne_mk _ _ _ | (rw [cutN_self _ _ (by omega)]; exact newOne_mk _ _ _)
          refine Flow.tree_nil fun w2 hw2 hG => ?_
          obtain ⟨gn, rfl, hgn, hcn⟩ := (show newOne (.string x) vz w2 by simpa [Flow.upd] using hG 15)
          clear hG
          have HO2 := Lib.hid (owns_below HO.out hw2)
          have HE := Lib.hid (names_snoc 110 10 f.words k h1 x HX.out.symm)
          have HC2 := Lib.hid (HC.out.later hw2)
          have hsz2 := hw2.size
          go_wp2_with (at_builtin; refine wpList_append_own _ rfl _ _ 22 rfl (g + 1) 9 i0 (.string ByteArray.empty) 1 16 Tryd.underlying22 hi hz0 hz1 hz2 rfl (by decide) _ _ _ rfl HO2.out ⟨gn, 0, none⟩ 1 1 [.string x] rfl rfl ?_ ?_ ?_ ?_ ?_ ?_)
          · intro j u hj; rcases j with _ | j <;> simp at hj; subst hj; simpa [Addr.add] using hcn
          · simp [Value.oneCell']
          · unfold maxLen; omega
          · omega
          · omega
          intro v' w3 hown3 hgrow _
          obtain ⟨gg, cp, rfl, _⟩ := owns_cell hown3 (by omega)
          have HC3 := Lib.hid (HC2.out.grown hgrow (fun j e => by have := (HO2.out.lt j e).1; omega))
          have HO3 := Lib.hid (joinl_owned hown3 HE.out)
          clear hown3 hgrow
          have z3 := frozen_of_row w3 g 2 _ _ HC3.out.k3
          have c3 := cell_of_row w3 g 2 _ _ _ HC3.out.k3
          simp only [List.getElem?_toArray, List.getElem?_cons_succ, List.getElem?_cons_zero] at c3
          go_wp2
          go_roundw
          case rel => exact ⟨k + 1, _, by omega, by omega, by go_num, HC3.out.set2 _, ownsRow_setCell_below HO3.out (by show g < _; omega) _⟩
          case measure => simp [intOf]; omega
      · have HE := Lib.hid (names_end 110 10 f.words k (by omega) hk hk10)
        have HP0 := Lib.hid ((SlP.owned (HE.out ▸ HO.out)).lt)
        obtain ⟨N1, hN1⟩ : ∃ N1, N1 = wr.heap.size := ⟨_, rfl⟩
        rw [← hN1] at HP0
        have hgN : g < N1 := by omega
        have hNB : N1 ≤ wr.heap.size := by omega
        clear hN1
        obtain ⟨wo, rfl⟩ : ∃ wo : World, wo = wr := ⟨_, rfl⟩
        have HCo := Lib.hid HC.out
        clear HO HE HC
        rcases (show (¬ (k : Int) < (f.words.length : Int)) ∨ ((k : Int) < (f.words.length : Int) ∧ ¬ (k : Int) < 10) by omega) with hni | ⟨hkl, hni⟩
        all_goals
          clear hlt
          go_wp2
          go_loopw [7] (fun i wq => ∃ (k : Nat) (lv : Value) (us : List Value), k ≤ f.l.length ∧ k ≤ 10 ∧ (d = 0 → k = 0) ∧ i = .int .i64 k ∧ Cf w g bx f.kind (cutN 30 f.name) wv f.frm f.to lv wq ∧ SlP (fun b => g + 1 ≤ b ∧ b < N1) wq wv (((f.words.take 10).map (cutN 110)).map .string) ∧ Fils N1 (fun b => N1 ≤ b ∧ lv.ownBlock ≠ some b) d wq lv us ((f.l.take k).map (Fil.cut (d - 1))) ∧ N1 ≤ wq.heap.size) (fun i _ => 10 - (intOf i).toNat)
          case atStart => exact ⟨0, _, [], Nat.zero_le _, Nat.zero_le _, fun _ => rfl, rfl, HCo.out, HP0.out, ⟨World.ownsRow_nil wo N1 29 6, rfl, fun j h => absurd h (by simp)⟩, hNB⟩
          case round =>
            clear HP0 HCo hni c1 c3 z3 hsw hgl hNB
            obtain ⟨k, lv, us, hk, hk10, hkd, rfl, hC, hP, hF, hszq⟩ := hrel
            have HC := Lib.hid hC
            have HP := Lib.hid hP
            have HF := Lib.hid hF
            have HKD := Lib.hid hkd
            clear hC hP hF hkd
            have hgl := HC.out.lt
            have hsw : w.heap.size < wr.heap.size := by omega
            have c1 := cell_of_row wr w.heap.size 5 _ _ _ HC.out.k1
            have c3 := cell_of_row wr g 5 _ _ _ HC.out.k3
            have z3 := frozen_of_row wr g 5 _ _ HC.out.k3
            rw [HBX.out] at c1
            simp only [List.getElem?_toArray, List.getElem?_cons_succ, List.getElem?_cons_zero] at c1 c3
            by_cases hlt : k < f.l.length ∧ k < 10 ∧ 0 < d
            · obtain ⟨h1, h2, h3⟩ := hlt
              obtain ⟨e, hde, HCC⟩ : ∃ e, d = e + 1 ∧ RowKit.Hid (CutC e) := by
                rcases HREC.out with h | ⟨e, h, hc⟩
                · omega
                · exact ⟨e, h, Lib.hid hc⟩
              have hdi : (1 : Int) < (d : Int) + 1 := by omega
              have hwr : IntKind.i64.wrap (d : Int) = (d : Int) := by rw [IntKind.wrap_i64]; omega
              obtain ⟨b, off, rfl, hb, hp, hel⟩ := HEL.out (by omega)
              obtain ⟨x0, x1, x2, x3, x4, x5, hfe, q0, q1, q2, q3, q4, q5⟩ := hel k h1
              have HFE := Lib.hid hfe
              have r0 := (HC.out.below.cell (p := ⟨b, off + k * 6, none⟩) hb).trans q0
              have r1 := (HC.out.below.cell (p := ⟨b, off + k * 6 + 1, none⟩) hb).trans q1
              have r2 := (HC.out.below.cell (p := ⟨b, off + k * 6 + 2, none⟩) hb).trans q2
              have r3 := (HC.out.below.cell (p := ⟨b, off + k * 6 + 3, none⟩) hb).trans q3
              have r4 := (HC.out.below.cell (p := ⟨b, off + k * 6 + 4, none⟩) hb).trans q4
              have r5 := (HC.out.below.cell (p := ⟨b, off + k * 6 + 5, none⟩) hb).trans q5
              have hbw : b < wr.heap.size := Nat.lt_of_lt_of_le hb HC.out.below.size
              have HDE := Lib.hid hde
              clear hel q0 q1 q2 q3 q4 q5 hfe hb hde
              go_wp2
              have HBW := Lib.hid HC.out.below
              refine Flow.wp_region_flow_tail 11 (Flow.specs [.inl ?_, .inl ?_, .inl ?_, .inl ?_, .inl ?_, .inl ?_, .inl ?_, .inl ?_, .inl ?_, .inr (isFil wr.heap.size d (Fil.cut (d - 1) f.l[k])), .inr (newFil wr.heap.size d (Fil.cut (d - 1) f.l[k]))]) (by kernel_rfl) (by kernel_rfl) ?_ ?_
              rotate_left 9
              · refine Flow.specs_mono ?_
                repeat (first | exact Flow.lmono_nil | refine Flow.lmono_inl ?_ | refine Flow.lmono_inr (isFil_mono _ _ _) ?_ | refine Flow.lmono_inr (newFil_mono _ _ _) ?_)
              all_goals try simp only [List.take_succ_cons, List.take_zero, List.drop_succ_cons, List.drop_zero]
              iterate 9 (refine Flow.tree_valK rfl (fun K hK => ⟨fun w hw hG => ?_, ?_⟩); (have hcl := Flow.bcell hw; clear hG hw; unfold Flow.Runs Flow.yields; go_simp; try rfl); go_simp; refine hK _ ?_; clear hK K)
              (refine Flow.tree_varK rfl (fun K hK => ⟨fun w hw hG => ?_, ?_⟩); (clear hG; unfold Flow.Runs Flow.yields; go_simp); rotate_left; intro vz; go_simp; refine hK _ _ ?_; clear hK K; rotate_left)
              · have hde := HDE.out
                subst hde
                refine (HCC.out p n _ _ _ (HFE.out.ag (Ag.new p (HBW.out.trans (hw.mono HBW.out.size))))).mono ?_
                rintro e3 w3 ⟨v3, rfl, hf3, hb3⟩
                exact ⟨v3, rfl, hb3, hf3.weak fun b hb => Nat.le_trans hw.size hb⟩
              (refine Flow.tree_varK rfl (fun K hK => ⟨fun w hw hG => ?_, ?_⟩); (have hvz := (show isFil wr.heap.size d (Fil.cut (d - 1) f.l[k]) vz w by simpa [Flow.upd] using hG 9 (by kernel_rfl)); clear hG; obtain ⟨y0, y1, y2, rfl⟩ := FilAt.shape hvz; unfold Flow.Runs Flow.yields; go_simp; refine ⟨(Below.refl _ _).alloc (Nat.le_refl _) _, ?_⟩); rotate_left; intro vy; go_simp; refine hK _ _ ?_; clear hK K; rotate_left)
              · refine ⟨w.heap.size, _, rfl, by simp, FilAt.ag hvz (Ag.new _ ((Below.refl _ _).alloc (Nat.le_refl _) _)), fun j u hj => ?_⟩
                rw [cell_of_row _ _ _ _ _ _ (heap_alloc_new _ _)]
                simpa [cells6] using hj
              refine Flow.tree_nil fun w2 hw2 hG => ?_
              obtain ⟨gn, x, rfl, hgn, hx, hxc⟩ := (show newFil wr.heap.size d (Fil.cut (d - 1) f.l[k]) vy w2 by simpa [Flow.upd] using hG 10)
              clear hG
              have HO2 := Lib.hid (owns_below HF.out.own hw2)
              have HC2 := Lib.hid (HC.out.later hw2)
              have HX := Lib.hid hx
              have HXC := Lib.hid hxc
              have HW2 := Lib.hid hw2
              have hsz2 := hw2.size
              have husl : us.length ≤ 10 := by have := HF.out.len; simp at this; omega
              clear hx hxc hw2
              go_wp2_with (at_builtin; refine wpList_append_own_at _ rfl _ _ 27 rfl N1 29 j0 _ 6 88 Tryd.underlying27 ji jz0 jz1 jz2 rfl (by decide) _ us.length _ rfl HO2.out ⟨gn, 0, none⟩ 1 1 (cells6 x) rfl ?_ ?_ ?_ ?_ ?_ ?_ ?_)
              · rw [cells6_len HX.out]
              · intro j u hj
                rw [show (⟨gn, 0, none⟩ : Addr).add j = ⟨gn, j, none⟩ by unfold Addr.add; split <;> simp_all]
                exact HXC.out j u hj
              · exact cells6_one HX.out
              · unfold maxLen; omega
              · omega
              · omega
              intro v' w3 hown3 hgrow _ hloc
              have HF3 := Lib.hid (Fils.more (HF.out.below HW2.out) HX.out (fun g' e => (HF.out.own.lt g' e).2) hszq hown3 hgrow hloc)
              have HP3 := Lib.hid ((HP.out.ag (Ag.new _ HW2.out)).ag (Ag.grown hgrow (fun j e => by have := (HO2.out.lt j e).1; rintro ⟨_, h⟩; omega)))
              obtain ⟨gg, cp, rfl, _⟩ := owns_cell_any hown3 (by omega)
              have HC3 := Lib.hid (HC2.out.grown hgrow (fun j e => by have := (HO2.out.lt j e).1; omega))
              have hsz3 := hgrow.size
              clear hown3 hgrow hloc
              have z3 := frozen_of_row w3 g 5 _ _ HC3.out.k3
              have c3 := cell_of_row w3 g 5 _ _ _ HC3.out.k3
              simp only [List.getElem?_toArray, List.getElem?_cons_succ, List.getElem?_cons_zero] at c3
              go_wp2
              go_roundw
              case rel =>
                refine ⟨k + 1, _, us ++ [x], by omega, by omega, fun h => by omega, by go_num, HC3.out.set5 _, HP3.out.ag (Ag.set _ _ _ (by rintro ⟨h, _⟩; have : g + 1 ≤ g := h; omega)), ?_, by simp [World.setCell]; omega⟩
                rw [List.take_succ_eq_append_getElem h1, List.map_append, List.map_singleton]
                exact HF3.out.set hgN (fun b hb => hb.1) _
              case measure => simp [intOf]; omega
            · have HCT : RowKit.Hid (Fil.cut d f = Fil.mk f.kind (cutN 30 f.name) ((f.words.take 10).map (cutN 110)) f.frm f.to ((f.l.take k).map (Fil.cut (d - 1)))) := Lib.hid (by
                rcases Nat.eq_zero_or_pos d with h0 | h0
                · have hk0 := HKD.out h0
                  subst h0 hk0; rfl
                · obtain ⟨e, rfl⟩ : ∃ e, d = e + 1 := ⟨d - 1, by omega⟩
                  have : f.l.take k = f.l.take 10 := by
                    by_cases e10 : k = 10
                    · rw [e10]
                    · rw [List.take_of_length_le (by omega), List.take_of_length_le (by omega)]
                  rw [this]; rfl)
              have hFl := HF.out.listed (q := fun b => w.heap.size + 2 ≤ b ∧ b ≠ g) (fun b hb => ⟨by have := hb.1; omega, by have := hb.1; omega⟩) (fun b hb => ⟨by omega, by omega⟩)
              obtain ⟨la, lc, rfl, hl1, hl2, hl3⟩ := hFl
              obtain ⟨wa, wn, wc, rfl⟩ := HP.out.shape
              have HL3 := Lib.hid hl3
              have HL2 := Lib.hid hl2
              clear hl3 hl2
              have d0 := cell_of_row wr g 0 _ _ _ HC.out.k3
              have d1 := cell_of_row wr g 1 _ _ _ HC.out.k3
              have d2 := cell_of_row wr g 2 _ _ _ HC.out.k3
              have d3 := cell_of_row wr g 3 _ _ _ HC.out.k3
              have d4 := cell_of_row wr g 4 _ _ _ HC.out.k3
              have e0 := cell_of_row wr (w.heap.size + 1) 0 _ _ _ HC.out.k2
              have e1 := cell_of_row wr (w.heap.size + 1) 1 _ _ _ HC.out.k2
              have e2 := cell_of_row wr (w.heap.size + 1) 2 _ _ _ HC.out.k2
              have e3 := cell_of_row wr (w.heap.size + 1) 3 _ _ _ HC.out.k2
              have e4 := cell_of_row wr (w.heap.size + 1) 4 _ _ _ HC.out.k2
              have e5 := cell_of_row wr (w.heap.size + 1) 5 _ _ _ HC.out.k2
              have y0 := frozen_of_row wr (w.heap.size + 1) 0 _ _ HC.out.k2
              have y1 := frozen_of_row wr (w.heap.size + 1) 1 _ _ HC.out.k2
              have y2 := frozen_of_row wr (w.heap.size + 1) 2 _ _ HC.out.k2
              have y3 := frozen_of_row wr (w.heap.size + 1) 3 _ _ HC.out.k2
              have y4 := frozen_of_row wr (w.heap.size + 1) 4 _ _ HC.out.k2
              have y5 := frozen_of_row wr (w.heap.size + 1) 5 _ _ HC.out.k2
              simp only [List.getElem?_toArray, List.getElem?_cons_succ, List.getElem?_cons_zero] at d0 d1 d2 d3 d4 e0 e1 e2 e3 e4 e5
              rcases (show (¬ (k : Int) < (f.l.length : Int)) ∨ ((k : Int) < (f.l.length : Int) ∧ ¬ (k : Int) < 10) ∨ ((k : Int) < (f.l.length : Int) ∧ (k : Int) < 10 ∧ ¬ (1 : Int) < (d : Int) + 1) by omega) with hni | ⟨hkl, hni⟩ | ⟨hkl, hk10', hni⟩
              all_goals
                clear hlt
                go_wp2
                refine bodyPost_ret (v := .agg #[.int .i64 f.kind, .string (cutN 30 f.name), .slice wa wn wc, .int .i64 f.frm, .int .i64 f.to, .slice la k lc]) (by simp [results, Tryd.results27, go_sem, e0, e1, e2, e3, e4, e5]) rfl ⟨_, rfl, ?_, set6_below _ _ _ _ _ _ HC.out.below (by omega)⟩
                rw [HCT.out]
                refine FilAt.weak (p := fun b => w.heap.size + 2 ≤ b ∧ b ≠ g) (fun b hb => by have := hb.1; omega) ?_
                refine FilAt.ag ?_ (set6_ag _ _ _ _ _ _ _ (by rintro ⟨h, _⟩; omega))
                refine cut_fil (by simp; omega) (by have := cutN_size 30 f.name; unfold maxLen; omega) (HP.out.weak fun b hb => ⟨by have := hb.1; omega, by have := hb.1; omega⟩) (names_small 110 10 f.words (by omega)) hl1 HL2.out HL3.out
end Go.Proofs.YtdfnolgcdododaaDoor
