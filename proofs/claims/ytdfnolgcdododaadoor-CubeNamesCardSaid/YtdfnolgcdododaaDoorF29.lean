/- The first ten values. -/
import Derived.Test.YtdfnolgcdododaaDoorF28
namespace Go.Proofs.YtdfnolgcdododaaDoor
open Go.RowKit Go.Sort
open Tess (Fil)

theorem infoVal : (Tryd.prog.info? 44).map (fun i => (i.zero, i.size, i.bytes)) = some (some (.agg #[.string ByteArray.empty, .bool false]), 2, 24) := by kernel_rfl
def cutVal (x : Tess.Val) : Tess.Val := ⟨cutN 110 x.s, x.null⟩
def cutVals (l : List Tess.Val) : List Tess.Val := (l.take 10).map cutVal
def valCells : List Tess.Val → List Value
  | [] => []
  | x :: r => .string x.s :: .bool x.null :: valCells r
theorem valCells_app (a b : List Tess.Val) : valCells (a ++ b) = valCells a ++ valCells b := by
  induction a with
  | nil => rfl
  | cons x r ih => simp [valCells, ih]
theorem valCells_len (a : List Tess.Val) : (valCells a).length = a.length * 2 := by
  induction a with
  | nil => rfl
  | cons x r ih => simp [valCells, ih]; omega
theorem valCells_at (a : List Tess.Val) : ∀ (j : Nat) (h : j < a.length), (valCells a)[j * 2]? = some (.string a[j].s) ∧ (valCells a)[j * 2 + 1]? = some (.bool a[j].null) := by
  induction a with
  | nil => intro j h; simp at h
  | cons x r ih =>
    intro j h
    cases j with
    | zero => simp [valCells]
    | succ j =>
      have := ih j (by simpa using h)
      rw [show (j + 1) * 2 = j * 2 + 1 + 1 by omega]
      simpa [valCells] using this
def newTwo (a b : Value) (v : Value) (w : World) : Prop := ∃ g, v = .slice (some ⟨g, 0, none⟩) 1 1 ∧ g < w.heap.size ∧ w.cell? ⟨g, 0, none⟩ = some a ∧ w.cell? ⟨g, 1, none⟩ = some b
theorem newTwo_mono (a b : Value) : Flow.Spec.mono (.inr (newTwo a b)) := fun _ _ _ ⟨g, h1, h2, h3, h4⟩ hb => ⟨g, h1, Nat.lt_of_lt_of_le h2 hb.size, (hb.cell (p := ⟨g, 0, none⟩) h2).trans h3, (hb.cell (p := ⟨g, 1, none⟩) h2).trans h4⟩
theorem newTwo_mk (a b : Value) (w : World) (t : TypeId) : newTwo a b (.slice (some ⟨w.heap.size, 0, none⟩) 1 1) (w.alloc (.cells #[a, b] t)) := ⟨_, rfl, by simp, by simp, by simp⟩
theorem vals_snoc (l : List Tess.Val) (k : Nat) (h : k < l.length) : valCells ((l.take k).map cutVal) ++ [.string (cutN 110 l[k].s), .bool l[k].null] = valCells ((l.take (k + 1)).map cutVal) := by
  rw [List.take_succ_eq_append_getElem h, List.map_append, valCells_app]; rfl
theorem vals_owned {w : World} {base : Nat} {t : TypeId} {v : Value} {l : List Tess.Val} (h : w.ownsRow base t 2 v l.length (valCells l)) (hs : ∀ x ∈ l, x.s.size ≤ maxLen) (hl : l.length ≤ maxLen) (hn : l = [] → v = .slice none 0 0) : ValsAt (fun b => base ≤ b) w v l := by
  rcases Nat.eq_zero_or_pos l.length with h0 | h0
  · have : l = [] := List.length_eq_zero_iff.1 h0
    subst this
    rw [hn rfl]
    exact ⟨_, _, rfl, by simp, hs, fun _ => rfl, fun h => absurd h (by simp)⟩
  · obtain ⟨g, cap, hv, hb, hg, _, _, hc⟩ := owns_cell_any h h0
    refine ⟨_, _, hv, hl, hs, (fun e => by cases e), fun _ => ⟨g, 0, rfl, hg, hb, fun j hj => ?_⟩⟩
    have := valCells_at l j hj
    exact ⟨by rw [Nat.zero_add, hc _ (by omega)]; exact this.1, by rw [Nat.zero_add, hc _ (by omega)]; exact this.2⟩

set_option maxRecDepth 100000 in
set_option maxHeartbeats 2000000 in
theorem vals_any (p : Nat → Prop) (v : Value) (l : List Tess.Val) (w : World) (hv : ValsAt p w v l) :
    Calls Tryd.prog 16 #[v] w fun e w' => ∃ v', e = .returned v' ∧ ValsAt (fun b => w.heap.size ≤ b) w' v' (cutVals l) ∧ Below w.heap.size w w' := by
  obtain ⟨a, cap, rfl, hl, hs, _, hc⟩ := hv
  have hl : l.length ≤ 9223372036854775807 := by unfold maxLen at hl; omega
  have HC := Lib.hid hc
  have HS := Lib.hid hs
  clear hc hs
  obtain ⟨i0, hi, hz0, hz1, hz2⟩ := info_parts infoVal
  go_enter Tryd.func16, Tryd.ntmps16
  go_wp2
  go_loopw [3, 4] (fun v i wr => ∃ k : Nat, k ≤ l.length ∧ k ≤ 10 ∧ i = .int .i64 k ∧ wr.ownsRow w.heap.size 44 2 v k (valCells ((l.take k).map cutVal)) ∧ (k = 0 → v = .slice none 0 0) ∧ Below w.heap.size w wr) (fun _ i _ => 10 - (intOf i).toNat)
  case atStart => exact ⟨0, Nat.zero_le _, Nat.zero_le _, rfl, by simpa [valCells] using World.ownsRow_nil w w.heap.size 44 2, fun _ => rfl, Below.refl _ _⟩
  case round =>
    obtain ⟨k, hk, hkn, rfl, hown, hnil, hB⟩ := hrel
    have HN := Lib.hid hnil
    clear hnil
    by_cases hlt : k < l.length ∧ k < 10
    · obtain ⟨h1, h2⟩ := hlt
      obtain ⟨b, off, rfl, hb, _, hel⟩ := HC.out (by omega)
      have hck : wr.cell? ⟨b, off + k * 2, none⟩ = some (.string l[k].s) := (hB.cell (p := ⟨b, off + k * 2, none⟩) hb).trans (hel k h1).1
      have hcb : wr.cell? ⟨b, off + k * 2 + 1, none⟩ = some (.bool l[k].null) := (hB.cell (p := ⟨b, off + k * 2 + 1, none⟩) hb).trans (hel k h1).2
      have hsz : l[k].s.size ≤ 9223372036854775807 := HS.out _ (List.getElem_mem h1)
      have HO := Lib.hid hown
      have HB := Lib.hid hB
      have hbw : b < wr.heap.size := Nat.lt_of_lt_of_le hb HB.out.size
      have HE := Lib.hid (vals_snoc l k h1)
      clear hown hB hel hb
      obtain ⟨x, hx⟩ : ∃ x, x = cutN 110 l[k].s := ⟨_, rfl⟩
      rw [← hx] at HE
      have HX := Lib.hid hx
      clear hx
      generalize l[k].s = xs at *
      generalize l[k].null = xb at *
      go_wp2
      rcases (show ((110 : Int) < (xs.size : Int) ∧ (¬ (xs.size : Int) ≤ 110 ∧ (110 : Int) ≤ (xs.size : Int)) ∧ min (xs.size : Int) 110 = 110) ∨ (¬ (110 : Int) < (xs.size : Int) ∧ (xs.size : Int) ≤ 110 ∧ min (xs.size : Int) 110 = (xs.size : Int)) by omega) with ⟨h3i, h3j, hmin⟩ | ⟨h3i, h3j, hmin⟩
      all_goals
        refine Flow.wp_region_flow_tail 21 (Flow.specs [.inl ?_, .inl ?_, .inl ?_, .inl ?_, .inl ?_, .inl ?_, .inl ?_, .inl ?_, .inl ?_, .inl ?_, .inl ?_, .inl ?_, .inl ?_, .inl ?_, .inl ?_, .inl ?_, .inl ?_, .inl ?_, .inl ?_, .inl ?_, .inr (newTwo (.string x) (.bool xb))]) (by kernel_rfl) (by kernel_rfl) ?_ ?_
        rotate_left 20
        · refine Flow.specs_mono ?_
          repeat (first | exact Flow.lmono_nil | refine Flow.lmono_inl ?_ | refine Flow.lmono_inr (newTwo_mono _ _) ?_)
        all_goals try simp only [List.take_succ_cons, List.take_zero, List.drop_succ_cons, List.drop_zero]
        iterate 20 (refine Flow.tree_valK rfl (fun K hK => ⟨fun w hw hG => ?_, ?_⟩); (have hcl := Flow.bcell hw; clear hG hw; unfold Flow.Runs Flow.yields; go_simp; try rfl); go_simp; refine hK _ ?_; clear hK K)
        (refine Flow.tree_varK rfl (fun K hK => ⟨fun w hw hG => ?_, ?_⟩); (clear hG hw; unfold Flow.Runs Flow.yields; go_simp; refine ⟨(Below.refl _ _).alloc (Nat.le_refl _) _, ?_⟩; rw [HX.out]); rotate_left; intro vz; go_simp; refine hK _ _ ?_; clear hK K; rotate_left)
        · first | exact newTwo_mk _ _ _ _ | (rw [cutN_self _ _ (by omega)]; exact newTwo_mk _ _ _ _)
        refine Flow.tree_nil fun w2 hw2 hG => ?_
        obtain ⟨gn, rfl, hgn, hcn, hcm⟩ := (show newTwo (.string x) (.bool xb) vz w2 by simpa [Flow.upd] using hG 20)
        clear hG
        have HO2 := Lib.hid (owns_below HO.out hw2)
        have hB2 := HB.out.trans (hw2.mono HB.out.size)
        go_wp2_with (at_builtin; refine wpList_append_own _ rfl _ _ 30 rfl w.heap.size 44 i0 (.agg #[.string ByteArray.empty, .bool false]) 2 24 Tryd.underlying30 hi hz0 hz1 hz2 rfl (by decide) _ _ _ rfl HO2.out ⟨gn, 0, none⟩ 1 1 [.string x, .bool xb] rfl rfl ?_ ?_ ?_ ?_ ?_ ?_)
        · intro j u hj; rcases j with _ | _ | j <;> simp at hj <;> subst hj; simpa [Addr.add] using hcn; simpa [Addr.add] using hcm
        · simp [Value.oneCell']
        · unfold maxLen; omega
        · omega
        · exact hB2.size
        intro v' w3 hown3 hgrow hnil3
        have hB3 : Below w.heap.size w w3 := hB2.grown hgrow hB2.size (fun j e => (HO2.out.lt j e).1)
        have hown3 : w3.ownsRow w.heap.size 44 2 v' (k + 1) (valCells ((l.take (k + 1)).map cutVal)) := by rw [← HE.out, List.map_take]; exact hown3
        have HO3 := Lib.hid hown3
        have HB3 := Lib.hid hB3
        clear hown3 hgrow hB3 hB2
        go_wp2
        go_roundw
        case rel => exact ⟨k + 1, by omega, by omega, by go_num, HO3.out, fun h => by omega, HB3.out⟩
        case measure => simp [intOf]; omega
    · have he : (l.take k).map cutVal = cutVals l := by
        unfold cutVals
        by_cases e : k = 10
        · rw [e]
        · rw [List.take_of_length_le (by omega), List.take_of_length_le (by omega)]
      have hlen : (cutVals l).length = k := by rw [← he]; simp; omega
      rw [he] at hown
      have HO := Lib.hid (vals_owned (l := cutVals l) (by rw [hlen]; exact hown) (fun x hx => by
        obtain ⟨y, _, rfl⟩ := List.mem_map.1 hx
        have := cutN_size 110 y.s
        show (cutN 110 y.s).size ≤ maxLen
        unfold maxLen; omega) (by unfold maxLen; omega) (fun h => HN.out (by rw [← hlen, h]; rfl)))
      have HB := Lib.hid hB
      clear hown hB he hlen
      rcases (show (¬ (k : Int) < (l.length : Int)) ∨ ((k : Int) < (l.length : Int) ∧ ¬ (k : Int) < 10) by omega) with hni | ⟨hkl, hni⟩
      all_goals
        clear hlt
        go_wp2
        go_ret
        exact ⟨_, rfl, HO.out, HB.out⟩
end Go.Proofs.YtdfnolgcdododaaDoor
