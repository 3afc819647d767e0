/- FilterWords, walked. -/
import Derived.Test.YtdfnolgcdododaaDoorF32
import Derived.Test.YtdfnolgcdododaaDoorF35p
import Derived.Maps.AppendAt
namespace Go.Proofs.YtdfnolgcdododaaDoor
open Go.RowKit Go.Sort
open Tess (Fil)

/-- The law's two boxes: a schema, a row. -/
structure Bs (w : World) (c0 c1 : Array Value) (W : World) : Prop where
  k0 : W.heap[w.heap.size]? = some (.cells c0 24 (0, 0))
  k1 : W.heap[w.heap.size + 1]? = some (.cells c1 33 (0, 0))
  below : Below w.heap.size w W
  size : w.heap.size + 2 ≤ W.heap.size
theorem Bs.later {w W W' : World} {c0 c1 : Array Value} (h : Bs w c0 c1 W) (hb : Below W.heap.size W W') : Bs w c0 c1 W' :=
  have := h.size
  ⟨(hb.block _ (by omega)).trans h.k0, (hb.block _ (by omega)).trans h.k1, Bt h.below hb, Nat.le_trans h.size hb.size⟩
theorem Bs.set0 {w W : World} {x0 x1 x2 : Value} {c1 : Array Value} (y0 y1 y2 : Value) (h : Bs w #[x0, x1, x2] c1 W) :
    ∃ W3, (((W.setCell ⟨w.heap.size, 0, none⟩ y0).setCell ⟨w.heap.size, 1, none⟩ y1).setCell ⟨w.heap.size, 2, none⟩ y2) = W3 ∧ Bs w #[y0, y1, y2] c1 W3 ∧ Ag (fun b => w.heap.size + 2 ≤ b) W W3 := by
  obtain ⟨W3, e, q0, qo, qs, qB⟩ := box3 y0 y1 y2 h.k0 h.below (Nat.le_refl _)
  exact ⟨W3, e, ⟨q0, (qo _ (by omega)).trans h.k1, qB, by rw [qs]; exact h.size⟩, by rw [qs]; exact Nat.le_refl _, fun b _ hb => qo b (by omega)⟩
theorem Bs.set1 {w W : World} {x0 x1 x2 : Value} {c0 : Array Value} (y0 y1 y2 : Value) (h : Bs w c0 #[x0, x1, x2] W) :
    ∃ W3, (((W.setCell ⟨w.heap.size + 1, 0, none⟩ y0).setCell ⟨w.heap.size + 1, 1, none⟩ y1).setCell ⟨w.heap.size + 1, 2, none⟩ y2) = W3 ∧ Bs w c0 #[y0, y1, y2] W3 ∧ Ag (fun b => w.heap.size + 2 ≤ b) W W3 := by
  obtain ⟨W3, e, q0, qo, qs, qB⟩ := box3 y0 y1 y2 h.k1 h.below (by omega)
  exact ⟨W3, e, ⟨(qo _ (by omega)).trans h.k0, q0, qB, by rw [qs]; exact h.size⟩, by rw [qs]; exact Nat.le_refl _, fun b _ hb => qo b (by omega)⟩

/-- The words that are asked for, once and twice. -/
def wordsL (ws : List ByteArray) (k : Nat) : List ByteArray := (ws.take k).map (cutN 100)
def wordsT (ws : List ByteArray) (k : Nat) : List ByteArray := (wordsL ws k).reverse.flatMap fun x => [x, x]
theorem wordsL_len (ws : List ByteArray) (k : Nat) (h : k ≤ ws.length) : (wordsL ws k).length = k := by simp [wordsL]; omega
theorem twice_len (l : List ByteArray) : (l.flatMap fun x => [x, x]).length = 2 * l.length := by
  induction l with
  | nil => rfl
  | cons a r ih => simp only [List.flatMap_cons, List.length_append, ih, List.length_cons, List.length_nil]; omega
theorem wordsT_len (ws : List ByteArray) (k : Nat) (h : k ≤ ws.length) : (wordsT ws k).length = 2 * k := by unfold wordsT; rw [twice_len, List.length_reverse, wordsL_len ws k h]
theorem wordsL_snoc (ws : List ByteArray) (k : Nat) (h : k < ws.length) : wordsL ws (k + 1) = wordsL ws k ++ [cutN 100 ws[k]] := by
  unfold wordsL; rw [List.take_succ_eq_append_getElem h, List.map_append]; rfl
theorem wordsT_snoc (ws : List ByteArray) (k : Nat) (h : k < ws.length) : wordsT ws (k + 1) = [cutN 100 ws[k], cutN 100 ws[k]] ++ wordsT ws k := by
  unfold wordsT; rw [wordsL_snoc ws k h, List.reverse_append]; rfl
theorem words_mem (ws : List ByteArray) (k : Nat) (x : ByteArray) : x ∈ wordsL ws k ↔ x ∈ wordsT ws k := by
  unfold wordsT; simp [List.mem_flatMap]
theorem wordsL_small (ws : List ByteArray) (k : Nat) : ∀ x ∈ wordsL ws k, x.size ≤ maxLen := fun x hx => by
  obtain ⟨y, _, rfl⟩ := List.mem_map.1 hx
  exact Nat.le_trans (cutN_size 100 y) (by decide)
theorem cutN_min (n : Nat) (s : ByteArray) : s.extract 0 (min s.size n) = cutN n s := by
  by_cases h : s.size ≤ n
  · rw [Nat.min_eq_left h, cutN_self n s h]; exact cutN_self s.size s (Nat.le_refl _)
  · rw [Nat.min_eq_right (by omega)]; rfl
theorem owns_two (w : World) (N : Nat) (x y : Value) (t : TypeId) (hN : N ≤ w.heap.size) : (w.alloc (.cells #[x, y] t)).ownsRow N t 1 (.slice (some ⟨w.heap.size, 0, none⟩) 2 2) 2 [x, y] :=
  ⟨rfl, .inr ⟨w.heap.size, 2, #[x, y], rfl, hN, (laid1 w _).1, Nat.le_refl _, by decide, rfl, rfl⟩⟩
theorem any_take (l : List ByteArray) (P : ByteArray → Bool) (k : Nat) (h : k < l.length) : (l.take (k + 1)).any P = ((l.take k).any P || P l[k]) := by
  rw [List.take_succ_eq_append_getElem h, List.any_append]; simp
theorem str_dec (x y : ByteArray) (b : Bool) (h : (x.toList == y.toList) = b) : decide (x = y) = b := by
  cases b
  · exact decide_eq_false (str_ne' h)
  · exact decide_eq_true (str_eq' h)
theorem is_at {q : Nat → Prop} {W : World} {nm : ByteArray} {v : Value} {ws : List ByteArray} (hn : nm.size ≤ maxLen) (h : SlP q W v (ws.map .string)) (hz : ∀ x ∈ ws, x.size ≤ maxLen) :
    FilAt q 1 W (.agg #[.int .i64 2, .string nm, v, .int .i64 0, .int .i64 0, .slice none 0 0]) (Fil.fIs nm ws) :=
  ⟨_, _, _, rfl, hn, h, hz, Nat.zero_le _, fun _ => rfl, fun h => absurd h (by simp [Fil.l, Fil.fIs])⟩
theorem is_kinds (nm : ByteArray) (ws : List ByteArray) : kindsOk (Fil.fIs nm ws) := by
  unfold kindsOk
  rw [Fil.allP_eq]
  simp [Fil.fIs, Fil.kind, Fil.l]

set_option maxRecDepth 100000 in
set_option maxHeartbeats 4000000 in
theorem words_any (a0 a1 : Addr) (p : Nat → Prop) (vs vr vw : Value) (s : Tess.Sch) (t : Int) (l : List Tess.Val) (ns : List Int) (ws : List ByteArray) (dim : Int) (w : World) (hV : Vars a0 a1 w) (hs : SchAt p w vs s) (hr : RowAt p w vr t l ns) (hw : SlOf w vw (ws.map .string)) (hwz : ∀ x ∈ ws, x.size ≤ maxLen) (hdm : -9223372036854775808 ≤ dim ∧ dim ≤ 9223372036854775807) :
    Calls Tryd.prog 4 #[vs, vr, vw, .int .i64 dim] w fun e w' => e = .returned (.bool true) ∧ Below w.heap.size w w' := by
  have HV := Lib.hid hV
  have HCUT := Lib.hid (fun W (hB : Below w.heap.size w W) => cutSch_any vs s W p (hs.ag (Ag.new p hB)))
  have HFR := Lib.hid (fun W (hB : Below w.heap.size w W) => fewRow_any p vr t l ns W (hr.ag (Ag.new p hB)))
  obtain ⟨vd, vm, rfl, hd, hm, _, _⟩ := hs
  obtain ⟨ad, capd, rfl, _⟩ := slp_len hd
  obtain ⟨am, capm, rfl, _⟩ := slp_len hm
  obtain ⟨vdr, na, nc, rfl, _, ⟨da, dc, rfl, _, _, _, _⟩, _⟩ := hr
  obtain ⟨wa, wc, rfl, hwl, hwc⟩ := sls_open hw
  have HWC := Lib.hid hwc
  have HWZ := Lib.hid hwz
  clear hd hm hV hw hwc hwz
  obtain ⟨W0, hW0⟩ : ∃ W0, (w.alloc (.cells #[.slice ad s.dims.length capd, .slice am s.mets.length capm, .int .i64 s.grain] 24)).alloc (.cells #[.int .i64 t, .slice da l.length dc, .slice na ns.length nc] 33) = W0 := ⟨_, rfl⟩
  obtain ⟨h0, h1, hS, hB⟩ := laid2 w (.cells #[.slice ad s.dims.length capd, .slice am s.mets.length capm, .int .i64 s.grain] 24) (.cells #[.int .i64 t, .slice da l.length dc, .slice na ns.length nc] 33)
  rw [hW0] at h0 h1 hS hB
  have HSH := Lib.hid (shown_any a0 a1 W0 (HV.out.below hB))
  have HX0 := Lib.hid (show Bs w _ _ W0 from ⟨h0, h1, hB, by omega⟩)
  clear h0 h1 hB hS
  go_enter Tryd.func4, Tryd.ntmps4
  go_wp2_with (go_at_call 10; refine HSH.out.mono ?_; rintro e w1 ⟨rfl, hB1⟩; have HX1 := Lib.hid (HX0.out.later hB1); obtain ⟨⟨x0, x1, x2⟩, _⟩ := can3 HX1.out.k0; clear hB1 hW0 HSH HX0)
  go_at_call 11
  refine (HCUT.out w1 HX1.out.below).mono ?_
  rintro e w2 ⟨v2, rfl, hs2, hB2⟩
  clear x0 x1 x2
  obtain ⟨vd2, vm2, rfl, hd2, hm2, hz2⟩ := hs2
  have HDN := Lib.hid hz2.1
  obtain ⟨ad2, capd2, rfl, _⟩ := slp_len hd2
  obtain ⟨am2, capm2, rfl, _⟩ := slp_len hm2
  have HX2 := Lib.hid (HX1.out.later hB2)
  obtain ⟨⟨x0, x1, x2⟩, z0, z1, z2⟩ := can3 HX2.out.k0
  obtain ⟨W3, hW3, hx3, hb3⟩ := HX2.out.set0 (.slice ad2 (cutSch s).dims.length capd2) (.slice am2 (cutSch s).mets.length capm2) (.int .i64 (cutSch s).grain)
  have HX3 := Lib.hid hx3
  have HS3 := Lib.hid (show SchAt (fun b => w.heap.size + 2 ≤ b) W3 (.agg #[.slice ad2 (cutSch s).dims.length capd2, .slice am2 (cutSch s).mets.length capm2, .int .i64 (cutSch s).grain]) (cutSch s) from (SchAt.weak ⟨_, _, rfl, hd2, hm2, hz2⟩ (fun b hb => Nat.le_trans HX1.out.size hb)).ag hb3)
  obtain ⟨⟨f0, f1, f2⟩, _⟩ := can3 HX3.out.k1
  clear hx3 hb3 hd2 hm2 hz2 HX1 hB2
  go_wp2_with (fail)
  go_at_call 13
  refine (HFR.out W3 HX3.out.below).mono ?_
  rintro e w4 ⟨v4, rfl, hr4, ⟨vd4, n4, e4, hd4⟩, hB4⟩
  generalize ns.take 10 = ns4 at hr4
  obtain ⟨vd4', na4, nc4, rfl, _, _, _⟩ := hr4
  obtain ⟨rfl, rfl⟩ : vd4' = vd4 ∧ _ = n4 := by simpa using e4
  have HD4 := Lib.hid hd4
  obtain ⟨da4, dc4, rfl, _⟩ := hd4
  clear x0 x1 x2 z0 z1 z2 f0 f1 f2 hW3 e4
  have HX4 := Lib.hid (HX3.out.later hB4)
  obtain ⟨⟨x0, x1, x2⟩, z0, z1, z2⟩ := can3 HX4.out.k1
  obtain ⟨W5, hW5, hx5, hb5⟩ := HX4.out.set1 (.int .i64 t) (.slice da4 (cutVals l).length dc4) (.slice na4 ns4.length nc4)
  have HX5 := Lib.hid hx5
  have HS5 := Lib.hid ((HS3.out.ag (Ag.new _ hB4)).ag hb5)
  have HD5 := Lib.hid ((HD4.out.weak (q := fun b => w.heap.size + 2 ≤ b) (fun b hb => Nat.le_trans HX3.out.size hb)).ag hb5)
  have HV5 := Lib.hid (HV.out.below hx5.below)
  obtain ⟨⟨s0, s1, s2⟩, _⟩ := can3 hx5.k0
  obtain ⟨⟨r0, r1, r2⟩, _⟩ := can3 hx5.k1
  generalize hSg : cutSch s = S at *
  generalize hDg : cutVals l = D at *
  clear hx5 hb5 hB4 HS3 HD4 HX3 HX4 HFR HCUT hSg hDg HV
  have HXC := Lib.hid HX5.out.below
  by_cases hd0 : dim < 0
  · have hd0' : decide (dim < 0) = true := decide_eq_true hd0
    go_wp2
    go_ret
    exact ⟨rfl, HXC.out⟩
  obtain ⟨k, rfl⟩ : ∃ k : Nat, dim = k := ⟨dim.toNat, by omega⟩
  have hd0' : decide ((k : Int) < 0) = false := decide_eq_false hd0
  clear hd0
  by_cases hd1 : S.dims.length ≤ k
  · have hd1' : decide (S.dims.length ≤ k) = true := decide_eq_true hd1
    go_wp2
    go_ret
    exact ⟨rfl, HXC.out⟩
  have hd1' : decide (S.dims.length ≤ k) = false := decide_eq_false hd1
  by_cases hw0 : ws.length = 0
  · have hw0' : ((ws.length : Int) == 0) = true := beq_iff_eq.2 (by omega)
    clear hw0
    go_wp2
    go_ret
    exact ⟨rfl, HXC.out⟩
  by_cases hdl : D.length = S.dims.length
  · have hw0' : ((ws.length : Int) == 0) = false := beq_eq_false_iff_ne.2 (by omega)
    have hdl' : ((D.length : Int) != (S.dims.length : Int)) = false := by rw [bne_eq_false_iff_eq]; omega
    have HDL := Lib.hid hdl
    have HWP := Lib.hid (show 0 < ws.length by omega)
    have hk : k < S.dims.length := by omega
    have hkd : k < D.length := by omega
    have HNM := Lib.hid (HDN.out _ (List.getElem_mem hk))
    obtain ⟨nm, hnm⟩ : ∃ nm, nm = S.dims[k] := ⟨_, rfl⟩
    have HSD : RowKit.Hid (∃ b off, ad2 = some ⟨b, off, none⟩ ∧ b < W5.heap.size ∧ W5.cell? ⟨b, off + k, none⟩ = some (.string nm)) := Lib.hid (by
      obtain ⟨vd', vm', e, hd, _, _⟩ := HS5.out
      obtain ⟨a', cap', e1, _, hc⟩ := sls_open hd.1
      simp at e
      obtain ⟨rfl, _⟩ := e
      cases e1
      obtain ⟨b, off, ha, hb, h⟩ := hc k hk
      exact ⟨b, off, ha, hb, hnm ▸ h⟩)
    obtain ⟨dv, hdv⟩ : ∃ dv, dv = D[k] := ⟨_, rfl⟩
    have HDV := Lib.hid hdv
    have HDD : RowKit.Hid (∃ b off, da4 = some ⟨b, off, none⟩ ∧ b < W5.heap.size ∧ W5.cell? ⟨b, off + k * 2, none⟩ = some (.string dv.s) ∧ W5.cell? ⟨b, off + k * 2 + 1, none⟩ = some (.bool dv.null)) := Lib.hid (by
      rw [hdv]
      obtain ⟨a', cap', e1, _, _, _, hc⟩ := HD5.out
      cases e1
      obtain ⟨b, off, ha, hb, _, h⟩ := hc (by omega)
      exact ⟨b, off, ha, hb, h k hkd⟩)
    have HNQ := Lib.hid hnm
    clear hnm
    obtain ⟨sb, so, rfl, hsb, hsc⟩ := HSD.out
    obtain ⟨db, dof, rfl, hdb, hdc0, hdc1⟩ := HDD.out
    have HKD := Lib.hid hkd
    clear hw0 hdl HSD HDD hdv
    go_wp2_with (fail)
    obtain ⟨N, hN⟩ : ∃ N, N = W5.heap.size := ⟨_, rfl⟩
    have HN := Lib.hid hN
    have HSC := Lib.hid hsc
    have HDC := Lib.hid (And.intro hdc0 hdc1)
    clear hsc hdc0 hdc1
    clear hN hdl' hw0' hd0' hd1'
    obtain ⟨i0, hi, hi0, hi1, hi2⟩ := info_parts infoStr
    go_loopw [10, 11, 12] (fun lv tv i wr => ∃ j : Nat, j ≤ ws.length ∧ j ≤ 4 ∧ i = .int .i64 j ∧ Below N W5 wr ∧ wr.ownsRow N 9 1 lv j ((wordsL ws j).map .string) ∧ wr.ownsRow N 9 1 tv (2 * j) ((wordsT ws j).map .string) ∧ (∀ g, lv.ownBlock = some g → tv.ownBlock ≠ some g)) (fun _ _ i _ => 4 - (intOf i).toNat)
    case atStart => exact ⟨0, Nat.zero_le _, Nat.zero_le _, rfl, HN.out ▸ Below.refl _ _, World.ownsRow_nil _ _ _ _, World.ownsRow_nil _ _ _ _, fun g h => by cases h⟩
    case round =>
      obtain ⟨j, hj, hj4, rfl, hB, hol, hot, hne⟩ := hrel
      have HB := Lib.hid hB
      have HOL := Lib.hid hol
      have HOT := Lib.hid hot
      have HNE := Lib.hid hne
      clear hB hol hot hne
      have hNr : N ≤ wr.heap.size := Nat.le_trans (by rw [HN.out]; exact Nat.le_refl _) HB.out.size
      by_cases hlt : j < ws.length ∧ j < 4
      · obtain ⟨h1, h2⟩ := hlt
        obtain ⟨b, off, rfl, hb, hcell⟩ := HWC.out j h1
        have hck : wr.cell? ⟨b, off + j, none⟩ = some (.string ws[j]) := ((Bt HXC.out (HN.out ▸ HB.out)).cell (p := ⟨b, off + j, none⟩) hb).trans hcell
        have hdk : ws[j].size ≤ 9223372036854775807 := HWZ.out _ (List.getElem_mem h1)
        have hbw : b < wr.heap.size := Nat.lt_of_lt_of_le hb (Bt HXC.out (HN.out ▸ HB.out)).size
        clear hcell hb
        obtain ⟨x, hx⟩ : ∃ x, x = cutN 100 ws[j] := ⟨_, rfl⟩
        have HX := Lib.hid hx
        clear hx
        go_wp2_with (fail)
        obtain ⟨m, hm⟩ : ∃ m, m = min ws[j].size 100 := ⟨_, rfl⟩
        have hmi : min (ws[j].size : Int) 100 = (m : Int) := by omega
        have hmc : (m : Int) ≤ (ws[j].size : Int) := by omega
        have HM := Lib.hid hm
        clear hm
        refine Flow.wp_region_flow_tail 11 (Flow.specs [.inl ?_, .inl ?_, .inl ?_, .inl ?_, .inl ?_, .inl ?_, .inl ?_, .inl ?_, .inl ?_, .inl ?_, .inl (.string x)]) (by kernel_rfl) (by kernel_rfl) ?_ ?_
        rotate_left 10
        · refine Flow.specs_mono ?_
          repeat (first | exact Flow.lmono_nil | refine Flow.lmono_inl ?_)
        all_goals try simp only [List.take_succ_cons, List.take_zero, List.drop_succ_cons, List.drop_zero]
        iterate 10 (refine Flow.tree_valK rfl (fun K hK => ⟨fun w hw hG => ?_, ?_⟩); (have hcl := Flow.bcell hw; clear hG hw; unfold Flow.Runs Flow.yields; go_simp; try rfl); go_simp; refine hK _ ?_; clear hK K)
        (refine Flow.tree_valK rfl (fun K hK => ⟨fun w hw hG => ?_, ?_⟩); (have hcl := Flow.bcell hw; clear hG hw; unfold Flow.Runs Flow.yields; go_simp; rw [HX.out, HM.out, cutN_min]); go_simp; refine hK _ ?_; clear hK K)
        refine Flow.tree_nil fun w2 hw2 hG => ?_
        clear hG hmi hmc hck hdk
        have hs2 := hw2.size
        have HOL2 := Lib.hid (owns_below (owns_below HOL.out hw2) (laid1 w2 (.cells #[.string x] 9)).2.2)
        have HOT2 := Lib.hid (owns_below (owns_below HOT.out hw2) (laid1 w2 (.cells #[.string x] 9)).2.2)
        have HB2 := Lib.hid (show Below N W5 (w2.alloc (.cells #[.string x] 9)) from (HB.out.trans (hw2.mono hNr)).trans ((laid1 w2 (.cells #[.string x] 9)).2.2.mono (by omega)))
        go_wp2_with (have hxx := HOL2; clear hxx; at_builtin; refine wpList_append_own_at _ rfl _ _ 22 rfl N 9 i0 (.string ByteArray.empty) 1 16 Tryd.underlying22 hi hi0 hi1 hi2 rfl (by decide) _ j _ rfl HOL2.out ⟨w2.heap.size, 0, none⟩ 1 1 [.string x] rfl rfl (cell_one_new _ _ _) ?_ ?_ ?_ ?_ ?_)
        · simp [Value.oneCell']
        · unfold maxLen; omega
        · omega
        · simp; omega
        intro v3 w3 hown3 hgrow3 _ hat3
        have hs3 := hgrow3.size
        have hs4 : (w2.alloc (.cells #[.string x] 9)).heap.size = w2.heap.size + 1 := (laid1 w2 _).2.1
        have hlo := HOL2.out.lt
        have hlt2 := HOT2.out.lt
        have hne2 : ∀ g, u10.ownBlock = some g → u11.ownBlock ≠ some g := HNE.out
        have hl3 : ∀ g, v3.ownBlock = some g → g < w3.heap.size := fun g h => (hown3.lt g h).2
        have hn3 : ∀ g, v3.ownBlock = some g → u11.ownBlock ≠ some g := fun g h h' => by
          rcases hat3 with e | e
          · exact hne2 g (e ▸ h) h'
          · have e2 := e ▸ h
            have := (hlt2 g h').2
            cases e2
            omega
        have HOT3 := Lib.hid (HOT2.out.kept hgrow3 (by
          cases h : u11.ownBlock with
          | none => exact .inl rfl
          | some g => exact .inr fun e => hne2 g e.symm h))
        have HOL3 := Lib.hid (joinl_owned hown3 (show _ = (wordsL ws (j + 1)).map Value.string by rw [wordsL_snoc ws j h1, List.map_append, ← HX.out]; rfl))
        have HB3 := Lib.hid (HB2.out.grown hgrow3 (by omega) (fun g e => (hlo g e).1))
        have HOD := Lib.hid (owns_two w3 N (.string x) (.string x) 9 (by omega))
        have HOL4 := Lib.hid (owns_below HOL3.out (laid1 w3 (.cells #[.string x, .string x] 9)).2.2)
        have HOT4 := Lib.hid (owns_below HOT3.out (laid1 w3 (.cells #[.string x, .string x] 9)).2.2)
        have HB4 := Lib.hid (show Below N W5 (w3.alloc (.cells #[.string x, .string x] 9)) from HB3.out.trans ((laid1 w3 (.cells #[.string x, .string x] 9)).2.2.mono (by omega)))
        have HT := Lib.hid (show [Value.string x, .string x] ++ (wordsT ws j).map Value.string = (wordsT ws (j + 1)).map .string by rw [wordsT_snoc ws j h1, List.map_append, ← HX.out]; rfl)
        have hs5 : (w3.alloc (.cells #[.string x, .string x] 9)).heap.size = w3.heap.size + 1 := (laid1 w3 _).2.1
        have HN3 := Lib.hid hn3
        have HL3 := Lib.hid hl3
        clear hgrow3 hown3 hat3 hlo hlt2 hne2 hl3 hn3 HOT2 HOL2 HB2 HOT HOL HB HOT3 HB3 HNE
        rcases HOT4.out.2 with ⟨rfl, hj0⟩ | ⟨g, cap, cur, rfl, _, _, hcap, hcapm, _, _⟩
        · go_wp2_with (have hxx := HOD; clear hxx; at_builtin; refine wpList_append_own_none rfl _ _ 22 rfl N 9 i0 1 Tryd.underlying22 hi _ _ _ rfl HOD.out rfl ?_; clear HOT4)
          go_roundw
          case rel =>
            have hj0' : j = 0 := by omega
            subst hj0'
            exact ⟨1, by omega, by omega, by go_num, HB4.out, HOL4.out, joinl_owned HOD.out HT.out, fun g h h' => by have e : w3.heap.size = g := Option.some.inj h'; have := HL3.out _ h; omega⟩
          case measure => simp [intOf]; omega
        · have HTL := Lib.hid (show ((wordsT ws j).map Value.string).length = 2 * j * 1 by rw [List.length_map, wordsT_len ws j hj, Nat.mul_one])
          go_wp2_with (have hxx := HOD; clear hxx; at_builtin; refine wpList_append_own_at _ rfl _ _ 22 rfl N 9 i0 (.string ByteArray.empty) 1 16 Tryd.underlying22 hi hi0 hi1 hi2 rfl (by decide) _ 2 _ rfl HOD.out ⟨g, 0, none⟩ (2 * j) cap ((wordsT ws j).map .string) rfl HTL.out (HOT4.out.cells (g := g) rfl) ?_ ?_ ?_ ?_ ?_)
          · intro u hu; obtain ⟨y, _, rfl⟩ := List.mem_map.1 hu; rfl
          · unfold maxLen; omega
          · omega
          · omega
          intro v5 w5 hown5 hgrow5 _ hat5
          have HB5 := Lib.hid (HB4.out.grown hgrow5 (by omega) (fun g e => (HOD.out.lt g e).1))
          have HOL5 := Lib.hid (HOL4.out.kept hgrow5 (by
            cases h : v3.ownBlock with
            | none => exact .inl rfl
            | some g => exact .inr fun e => by have := HL3.out g h; have e : g = w3.heap.size := Option.some.inj e; omega))
          have HOT5 := Lib.hid (joinl_owned (show w5.ownsRow N 9 1 v5 (2 * (j + 1)) _ from (by omega : 2 + 2 * j = 2 * (j + 1)) ▸ hown5) HT.out)
          have HN5 := Lib.hid (show ∀ g, v3.ownBlock = some g → v5.ownBlock ≠ some g from fun g h h' => by
            have := HL3.out g h
            rcases hat5 with e | e
            · have e2 : w3.heap.size = g := Option.some.inj (e.symm.trans h')
              omega
            · have e2 : w3.heap.size + 1 = g := Option.some.inj (e.symm.trans h')
              omega)
          clear hown5 hgrow5 hat5 HOT4 HOD
          go_wp2
          go_roundw
          case rel => exact ⟨j + 1, by omega, by omega, by go_num, HB5.out, HOL5.out, HOT5.out, HN5.out⟩
          case measure => simp [intOf]; omega
      · have hj1 : 1 ≤ j := by have := HWP.out; omega
        obtain ⟨lg, lc, rfl, _, hlg, _, hlcell⟩ := owns_cell HOL.out (by omega)
        obtain ⟨tg, tc, rfl, _, _, _, _⟩ := owns_cell HOT.out (by omega)
        have HLC := Lib.hid hlcell
        have HBr := Lib.hid (show Below W5.heap.size W5 wr from HN.out ▸ HB.out)
        have hSL := (SlP.owned HOL.out).lt
        have hST := (SlP.owned HOT.out).lt
        have HXr := Lib.hid (HX5.out.later HBr.out)
        have hNw : w.heap.size + 2 ≤ N := by rw [HN.out]; exact HX5.out.size
        have hq : ∀ b, N ≤ b ∧ b < wr.heap.size → w.heap.size + 2 ≤ b := fun b hb => by omega
        have hsr := HS5.out.ag (Ag.new _ HBr.out)
        have hdr := HD5.out.ag (Ag.new _ HBr.out)
        have hvr := HV5.out.below HBr.out
        have hnz : nm.size ≤ maxLen := HNQ.out ▸ HNM.out
        have hfl := is_at hnz (hSL.weak hq) (wordsL_small ws j)
        have hft := is_at hnz (hST.weak hq) (fun x hx => wordsL_small ws j x ((words_mem ws j x).2 hx))
        have hsame := Fil.is_same S t D nm (wordsL ws j) (wordsT ws j) (by rw [wordsL_len ws j hj]; omega) (by rw [wordsT_len ws j hj]; omega) (words_mem ws j)
        have htold := Fil.is_told S t D k hk (wordsL ws j) HDL.out
        rw [← HNQ.out, ← HDV.out] at htold
        have HH1 := Lib.hid (fun X (hX : Below wr.heap.size wr X) => fHolds_any a0 a1 _ 1 _ _ _ S _ t D X (hvr.below hX) (hsr.ag (Ag.new _ hX)) (hfl.ag (Ag.new _ hX)) (hdr.ag (Ag.new _ hX)) (by omega) (is_kinds nm (wordsL ws j)))
        have HH2 := Lib.hid (fun X (hX : Below wr.heap.size wr X) => fHolds_any a0 a1 _ 1 _ _ _ S _ t D X (hvr.below hX) (hsr.ag (Ag.new _ hX)) (hft.ag (Ag.new _ hX)) (hdr.ag (Ag.new _ hX)) (by omega) (is_kinds nm (wordsT ws j)))
        rw [← hsame] at HH2
        generalize Fil.holdsE S t D (Fil.fIs nm (wordsL ws j)) = AE at HH1 HH2 htold
        obtain ⟨A, E⟩ := AE
        have HT := Lib.hid htold
        obtain ⟨⟨s0, s1, s2⟩, _⟩ := can3 HXr.out.k0
        obtain ⟨⟨r0, r1, r2⟩, _⟩ := can3 HXr.out.k1
        have b0 : w.heap.size < wr.heap.size := by have := HXr.out.size; omega
        have b1 : w.heap.size + 1 < wr.heap.size := by have := HXr.out.size; omega
        have b2 : sb < wr.heap.size := Nat.lt_of_lt_of_le hsb HBr.out.size
        have hsc := (HBr.out.cell (p := ⟨sb, so + k, none⟩) hsb).trans HSC.out
        clear hSL hST hq hsr hdr hvr hfl hft hsame htold HOT HNE HB hnz hlcell
        rcases (show (¬ (j : Int) < (ws.length : Int)) ∨ ((j : Int) < (ws.length : Int) ∧ ¬ (j : Int) < 4) by omega) with hni | ⟨hkl, hni⟩
        all_goals
          clear hlt
          go_wp2_with (fail)
          refine Flow.wp_region_flow (Flow.specs [.inl ?_, .inl ?_, .inl ?_, .inl ?_, .inl ?_, .inl ?_, .inl ?_, .inl ?_, .inl ?_, .inl ?_, .inl ?_, .inl ?_, .inl (.tuple #[.bool A, .int .i64 E]), .inl ?_, .inl ?_, .inl ?_, .inl ?_, .inl ?_]) (by kernel_rfl) (by kernel_rfl) ?_ ?_
          rotate_left 17
          · refine Flow.specs_mono ?_
            repeat (first | exact Flow.lmono_nil | refine Flow.lmono_inl ?_)
          iterate 12 (refine Flow.tree_valK rfl (fun K hK => ⟨fun w hw hG => ?_, ?_⟩); (have hcl := Flow.bcell hw; clear hG hw; unfold Flow.Runs Flow.yields; go_simp; try rfl); go_simp; refine hK _ ?_; clear hK K)
          (refine Flow.tree_valK rfl (fun K hK => ⟨fun w hw hG => ?_, ?_⟩); (have HW := Lib.hid hw; clear hG hw; unfold Flow.Runs Flow.yields; go_simp; refine (HH1.out _ HW.out).mono ?_; rintro e w3 ⟨rfl, hb3⟩; exact ⟨rfl, hb3⟩); go_simp; refine hK _ ?_; clear hK K)
          iterate 5 (refine Flow.tree_valK rfl (fun K hK => ⟨fun w hw hG => ?_, ?_⟩); (clear hG hw; unfold Flow.Runs Flow.yields; go_simp; try rfl); go_simp; refine hK _ ?_; clear hK K)
          refine Flow.tree_nil fun w6 hw6 hG => ?_
          clear hG
          have HB6 := Lib.hid hw6
          clear hw6 s0 s1 s2 r0 r1 r2 hsc
          obtain ⟨⟨s0, s1, s2⟩, _⟩ := can3 (HXr.out.later HB6.out).k0
          obtain ⟨⟨r0, r1, r2⟩, _⟩ := can3 (HXr.out.later HB6.out).k1
          have hsc := (HB6.out.cell (p := ⟨sb, so + k, none⟩) b2).trans ((HBr.out.cell (p := ⟨sb, so + k, none⟩) hsb).trans HSC.out)
          have c0 : w.heap.size < w6.heap.size := Nat.lt_of_lt_of_le b0 HB6.out.size
          have c1 : w.heap.size + 1 < w6.heap.size := Nat.lt_of_lt_of_le b1 HB6.out.size
          have c2 : sb < w6.heap.size := Nat.lt_of_lt_of_le b2 HB6.out.size
          go_wp2_with (fail)
          refine Flow.wp_region_flow (Flow.specs [.inl ?_, .inl ?_, .inl ?_, .inl ?_, .inl ?_, .inl ?_, .inl ?_, .inl ?_, .inl ?_, .inl ?_, .inl ?_, .inl ?_, .inl (.tuple #[.bool A, .int .i64 E]), .inl ?_, .inl ?_, .inl ?_, .inl ?_, .inl ?_]) (by kernel_rfl) (by kernel_rfl) ?_ ?_
          rotate_left 17
          · refine Flow.specs_mono ?_
            repeat (first | exact Flow.lmono_nil | refine Flow.lmono_inl ?_)
          iterate 12 (refine Flow.tree_valK rfl (fun K hK => ⟨fun w hw hG => ?_, ?_⟩); (have hcl := Flow.bcell hw; clear hG hw; unfold Flow.Runs Flow.yields; go_simp; try rfl); go_simp; refine hK _ ?_; clear hK K)
          (refine Flow.tree_valK rfl (fun K hK => ⟨fun w hw hG => ?_, ?_⟩); (have HW := Lib.hid hw; clear hG hw; unfold Flow.Runs Flow.yields; go_simp; refine (HH2.out _ (Bt HB6.out HW.out)).mono ?_; rintro e w3 ⟨rfl, hb3⟩; exact ⟨rfl, hb3⟩); go_simp; refine hK _ ?_; clear hK K)
          iterate 5 (refine Flow.tree_valK rfl (fun K hK => ⟨fun w hw hG => ?_, ?_⟩); (clear hG hw; unfold Flow.Runs Flow.yields; go_simp; try rfl); go_simp; refine hK _ ?_; clear hK K)
          refine Flow.tree_nil fun w7 hw7 hG => ?_
          have HB7 := Lib.hid (Bt HB6.out hw7)
          clear hG hw7 s0 s1 s2 r0 r1 r2 hsc c0 c1 c2 HH1 HH2
          go_wp2_with (fail)
          go_loopw [18, 19] (fun is i wq => ∃ j2 : Nat, j2 ≤ j ∧ i = .int .i64 j2 ∧ is = .bool (((wordsL ws j).take j2).any fun x => !dv.null && decide (dv.s = x)) ∧ Below wr.heap.size wr wq) (fun _ i _ => j - (intOf i).toNat)
          case atStart => exact ⟨0, Nat.zero_le _, rfl, rfl, HB7.out⟩
          case round =>
            obtain ⟨j2, hj2, rfl, rfl, hBq⟩ := hrel
            have HBq := Lib.hid hBq
            clear hBq
            have hLl := wordsL_len ws j hj
            by_cases hlt : j2 < j
            · obtain ⟨y, hy⟩ : ∃ y, y = (wordsL ws j)[j2]'(by omega) := ⟨_, rfl⟩
              have hly := (HLC.out j2 hlt).1
              rw [List.getElem?_map, List.getElem?_eq_getElem (by omega), ← hy, Nat.zero_add] at hly
              have HNX := Lib.hid (any_take (wordsL ws j) (fun x => !dv.null && decide (dv.s = x)) j2 (by omega))
              rw [← hy] at HNX
              generalize ((wordsL ws j).take j2).any (fun x => !dv.null && decide (dv.s = x)) = bo at HNX
              have hlq := (HBq.out.cell (p := ⟨lg, j2, none⟩) hlg).trans hly
              obtain ⟨⟨r0, r1, r2⟩, _⟩ := can3 (HXr.out.later HBq.out).k1
              have q0 := (HBq.out.cell (p := ⟨db, dof + k * 2, none⟩) (Nat.lt_of_lt_of_le hdb HBr.out.size)).trans ((HBr.out.cell (p := ⟨db, dof + k * 2, none⟩) hdb).trans HDC.out.1)
              have q1 := (HBq.out.cell (p := ⟨db, dof + k * 2 + 1, none⟩) (Nat.lt_of_lt_of_le hdb HBr.out.size)).trans ((HBr.out.cell (p := ⟨db, dof + k * 2 + 1, none⟩) hdb).trans HDC.out.2)
              have HJ := Lib.hid hj2
              clear hy hly hLl
              cases hnu : dv.null
              · rw [hnu] at q1
                cases he : (dv.s.toList == y.toList)
                all_goals
                  have HQ := Lib.hid (str_dec _ _ _ he)
                  rw [hnu, HQ.out] at HNX
                  cases bo
                  all_goals
                    go_wp2
                    go_quiet (fail)
                    go_wp2
                    go_roundw
                    case rel => exact ⟨j2 + 1, by omega, by go_num, by rw [HNX.out]; rfl, below_drewN HBq.out _⟩
                    case measure => simp [intOf]; omega
              · rw [hnu] at q1 HNX
                cases bo
                all_goals
                  go_wp2
                  go_quiet (fail)
                  go_wp2
                  go_roundw
                  case rel => exact ⟨j2 + 1, by omega, by go_num, by rw [HNX.out]; rfl, below_drewN HBq.out _⟩
                  case measure => simp [intOf]; omega
            · have hjj : j2 = j := by omega
              subst hjj
              have hA := HT.out
              rw [List.take_of_length_le (by omega)]
              generalize (wordsL ws j2).any (fun x => !dv.null && decide (dv.s = x)) = bo at hA
              have HBF := Lib.hid (Bt HXC.out (Bt HBr.out HBq.out))
              rcases hA with hA | ⟨rfl, rfl⟩
              · have hE : ((E : Int) == 0) = false := beq_eq_false_iff_ne.2 (by omega)
                have hE' : ((E : Int) != 0) = true := by rw [bne_iff_ne]; omega
                clear hA
                cases A <;> cases bo <;> go_wp2 <;> go_ret <;> exact ⟨rfl, HBF.out⟩
              · cases A <;> go_wp2 <;> go_ret <;> exact ⟨rfl, HBF.out⟩
  · have hw0' : ((ws.length : Int) == 0) = false := beq_eq_false_iff_ne.2 (by omega)
    have hdl' : ((D.length : Int) != (S.dims.length : Int)) = true := by rw [bne_iff_ne]; omega
    clear hw0 hdl
    go_wp2
    go_ret
    exact ⟨rfl, HXC.out⟩
theorem FilterWords_any (a0 a1 : Addr) (vw : Value) (ws : List ByteArray) (dim : Int) (w : World) (hV : Vars a0 a1 w) {vs vr : Value} {s : Tess.Sch} {t : Int} {l : List Tess.Val} {ns : List Int} (hs : SchAt (fun _ => True) w vs s) (hr : RowAt (fun _ => True) w vr t l ns) (hw : SlOf w vw (ws.map .string) ∧ ∀ x ∈ ws, x.size ≤ maxLen) (hdm : (Lit.int .i64 dim).wf = true) :
    Calls Tryd.prog 4 #[vs, vr, vw, .int .i64 dim] w fun e w' => e = .returned (.bool true) ∧ Below w.heap.size w w' :=
  words_any a0 a1 _ vs vr vw s t l ns ws dim w hV hs hr hw.1 hw.2 (by have h := hdm; simp only [Lit.wf, Bool.and_eq_true, decide_eq_true_eq] at h; exact ⟨h.1, h.2⟩)
end Go.Proofs.YtdfnolgcdododaaDoor
