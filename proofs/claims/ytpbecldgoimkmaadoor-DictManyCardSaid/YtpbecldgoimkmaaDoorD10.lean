/- Which words are a dictionary: the program's, walked. -/
import Derived.Test.YtpbecldgoimkmaaDoorD9
import Derived.Test.YtpbecldgoimkmaaDoorRf
import Derived.Test.YtpbecldgoimkmaaDoorFlI
import Derived.RegionIn
import Derived.Stop.RegionWithIn
import Derived.OwnWalkIn
import Derived.TacticsInMore
import Derived.LoopNIn
import Derived.LoopIn
import Derived.Shelf.Abstract
import Derived.Shelf.RegionOpen
namespace Go.Proofs.YtpbecldgoimkmaaDoor
open Go.RowKit Go.Sort Go.Shelf
attribute [local go_sem] Oper.semAt_some

theorem cell_of_box {W : World} {B : Nat} {v : Value} {t : TypeId} (h : W.heap[B]? = some (.cells #[v] t (0, 0))) : W.cell? ⟨B, 0, none⟩ = some v ∧ W.frozen? ⟨B, 0, none⟩ = false := by
  constructor <;> simp [World.cell?, World.frozen?, h]
theorem heap_setCell_box {W : World} {B : Nat} {v : Value} {t : TypeId} (v' : Value) (h : W.heap[B]? = some (.cells #[v] t (0, 0))) : (W.setCell ⟨B, 0, none⟩ v').heap[B]? = some (.cells #[v'] t (0, 0)) := by
  obtain ⟨hlt, hk⟩ := Array.getElem?_eq_some_iff.1 h
  show (W.heap.modify B _)[B]? = _
  rw [Array.getElem?_eq_getElem (by rw [Array.size_modify]; exact hlt), Array.getElem_modify_self, hk]
  rfl
theorem hs_ne {W : World} {B k : Nat} {u : Value} (h : k ≠ B) : (W.setCell ⟨B, 0, none⟩ u).heap[k]? = W.heap[k]? := Below.heap_setCell _ _ _ _ h
theorem grownBy_putObj (W : World) (l : Nat) (o : Obj) : W.grownBy (W.putObj l o) (some l) :=
  ⟨rfl, rfl, rfl, by simp, fun k _ hk => World.putObj_heap_other (fun e => hk (by rw [e]))⟩
/-- What lies in sight between two rounds. -/
structure Rp (w : World) (rec : Loop) (v : Value) (e : Bool) (W : World) : Prop where
  k0 : W.heap[w.heap.size]? = some (.cells #[.bool e] 4 (0, 0))
  k1 : W.heap[w.heap.size + 1]? = some (.cells #[v] 22 (0, 0))
  kD : W.heap[w.heap.size + 2]? = some (.deferred (some []))
  kL : W.heap[w.heap.size + 3]? = some (.loop rec)
  below : Below w.heap.size w W
section
variable {w W W' : World} {rec rec' : Loop} {v : Value} {e e' : Bool}
theorem Rp.set0 (h : Rp w rec v e W) (e' : Bool) : Rp w rec v e' (W.setCell ⟨w.heap.size, 0, none⟩ (.bool e')) :=
  ⟨heap_setCell_box _ h.k0, (hs_ne (by omega)).trans h.k1, (hs_ne (by omega)).trans h.kD, (hs_ne (by omega)).trans h.kL, h.below.setCell (Nat.le_refl _) _⟩
theorem Rp.but (h : Rp w rec v e W) (hs : Rf.SameBut (w.heap.size + 2 + 1) W W') (hl : W'.heap[w.heap.size + 2 + 1]? = some (.loop rec')) : Rp w rec' v e W' :=
  ⟨(hs.block _ (by omega)).trans h.k0, (hs.block _ (by omega)).trans h.k1, (hs.block _ (by omega)).trans h.kD, hl, h.below.trans (hs.below (by omega))⟩
theorem Rp.later (h : Rp w rec v e W) (hB : Below W.heap.size W W') : Rp w rec v e W' :=
  ⟨(hB.block _ (Array.getElem?_eq_some_iff.1 h.k0).1).trans h.k0, (hB.block _ (Array.getElem?_eq_some_iff.1 h.k1).1).trans h.k1, (hB.block _ (Array.getElem?_eq_some_iff.1 h.kD).1).trans h.kD, (hB.block _ (Array.getElem?_eq_some_iff.1 h.kL).1).trans h.kL, h.below.trans (hB.mono h.below.size)⟩
end

set_option maxRecDepth 100000 in
set_option maxHeartbeats 2000000 in
theorem right_any (v : Value) (l : List ByteArray) (w : World) (hv : SlOf w v (l.map .string)) :
    Calls Tryd.prog 26 #[v] w fun e w' => e = .returned (.bool (Tess.right l)) ∧ Below w.heap.size w w' := by
  have HCL := Lib.hid (contains_long v l w hv)
  have HP := Lib.hid (Tess.right_parts l)
  obtain ⟨a, cap, rfl, hlen, hc⟩ := sls_open hv
  have HC := Lib.hid hc
  clear hc hv
  refine (callsIn_wide (n := 5)).1 ?_
  refine callsIn_of_wp_marks Tryd.func26 rfl trivial ?_ rfl
  simp only [Tryd.ntmps26, List.size_toArray, List.length_cons, List.length_nil, Nat.reduceAdd, Nat.reduceSub, Array.replicate_succ, Array.replicate_zero, List.push_toArray, List.append_toArray, List.nil_append, List.cons_append]
  gi_wp2
  refine Rf.wpIn_scope_straight ?_
  by_cases h1000 : l.length ≤ 1000
  · have h1i : (l.length : Int) ≤ 1000 := by omega
    have h1d : decide ((l.length : Int) ≤ 1000) = true := decide_eq_true h1i
    have hp := HP.out
    rw [decide_eq_true h1000, Bool.true_and] at hp
    have HP := Lib.hid hp
    clear hp
    cases hany : l.any Tess.isLong
    · rw [hany] at HCL HP
      have HPF : RowKit.Hid (Tess.right l = Tess.chainTo l l.length) := Lib.hid (by rw [HP.out]; rfl)
      clear HP
      gi_wp2_with (refine ⟨trivial, ?_⟩; gi_at_call 48; refine (callsIn_wide.2 HCL.out).mono ?_; rintro e w1 ⟨rfl, hB1⟩; have HB := Lib.hid hB1; clear hB1)
      refine wpIn_label ?_
      gi_wp2_with (refine ⟨trivial, ?_⟩; gi_at_call 52; refine (callsIn_wide.2 (pairs_any _ _ _ _)).mono ?_; rintro e w' ⟨rfl, rfl⟩)
      obtain ⟨w0, hw0⟩ : ∃ w0, ((w1.alloc (.cells #[.bool true] 4)).alloc (.cells #[.slice a l.length cap] 22)) = w0 := ⟨_, rfl⟩
      have hA : w0.heap.size = w1.heap.size + 2 := by rw [← hw0]; simp
      have hB0 : Below w1.heap.size w1 w0 := by rw [← hw0]; exact ((Below.refl _ _).alloc (Nat.le_refl _) _).alloc (by simp) _
      have h0 : w0.heap[w1.heap.size]? = some (.cells #[.bool true] 4 (0, 0)) := by rw [← hw0]; exact (Below.heap_alloc _ _ _ (by simp)).trans (World.alloc_heap_new w1 _)
      have h1 : w0.heap[w1.heap.size + 1]? = some (.cells #[.slice a l.length cap] 22 (0, 0)) := by
        rw [← hw0]; have := World.alloc_heap_new (w1.alloc (.cells #[.bool true] 4)) (.cells #[.slice a l.length cap] 22); rwa [World.size_alloc] at this
      rw [hw0]
      clear hw0
      refine Rf.range_wide (gf := 66) (lb := #[.pointer (some ⟨w1.heap.size + 1, 0, none⟩)]) rfl (enters_of Tryd.func66 (by kernel_rfl) rfl) ?_
      intro fn W2 hL hD hB1 hS1
      rw [hA] at hL hD hS1 ⊢
      obtain ⟨rec, hrec, hL⟩ : ∃ rec : Loop, rec = _ ∧ W2.heap[w1.heap.size + 2 + 1]? = some (.loop rec) := ⟨_, rfl, hL⟩
      have HREC := Lib.hid hrec
      have hst : rec.state = .ready ∧ rec.params.size = 2 ∧ rec.pending = none := by rw [hrec]; exact ⟨rfl, rfl, rfl⟩
      clear hrec
      obtain ⟨hst, hps, hpe⟩ := hst
      have hI : Rp w1 rec (.slice a l.length cap) true W2 := ⟨(hB1.block _ (by omega)).trans h0, (hB1.block _ (by omega)).trans h1, hD, hL, Bt hB0 hB1⟩
      clear hB0 hB1 h0 h1 hD hL
      refine callsIn_of_wp Tryd.func66 rfl trivial ?_ rfl
      simp only [Tryd.ntmps66, List.size_toArray, List.length_cons, List.length_nil, Nat.reduceAdd, Nat.reduceSub, Array.replicate_succ, Array.replicate_zero, List.push_toArray, List.append_toArray, List.nil_append, List.cons_append]
      gi_wp2
      gi_loopw [3] (fun i wr => ∃ k : Nat, 1 ≤ k ∧ k ≤ max 1 l.length ∧ i = .int .i64 k ∧ Tess.chainTo l k = true ∧ Rp w1 rec (.slice a l.length cap) true wr) (fun i _ => l.length - (intOf i).toNat)
      case atStart => exact ⟨1, Nat.le_refl _, by omega, rfl, rfl, hI⟩
      case round =>
        obtain ⟨k, hk1, hk, rfl, hch, hS⟩ := hrel
        have HCH := Lib.hid hch
        have HS := Lib.hid hS
        clear hch hS
        obtain ⟨c1, z1⟩ := cell_of_box HS.out.k1
        by_cases hlt : k < l.length
        · obtain ⟨j, rfl⟩ : ∃ j, k = j + 1 := ⟨k - 1, by omega⟩
          have hj : j < l.length := by omega
          obtain ⟨b, off, rfl, hb, hcell⟩ := HC.out (j + 1) hlt
          obtain ⟨b', off', hbo, hb', hcell'⟩ := HC.out j hj
          obtain ⟨rfl, rfl⟩ : b' = b ∧ off' = off := by cases hbo; exact ⟨rfl, rfl⟩
          have hBw := Bt HB.out HS.out.below
          have hck : wr.cell? ⟨b', off' + (j + 1), none⟩ = some (.string l[j + 1]) := (hBw.cell (p := ⟨b', off' + (j + 1), none⟩) hb).trans hcell
          have hcj : wr.cell? ⟨b', off' + j, none⟩ = some (.string l[j]) := (hBw.cell (p := ⟨b', off' + j, none⟩) hb').trans hcell'
          have hbr : b' < wr.heap.size := Nat.lt_of_lt_of_le hb hBw.size
          have h1r : w1.heap.size + 1 < wr.heap.size := (Array.getElem?_eq_some_iff.1 HS.out.k1).1
          have hord : Tess.ord l (j + 1) = Tess.bl l[j] l[j + 1] := by unfold Tess.ord; rw [Nat.add_sub_cancel, Tess.getD_lt l j hj, Tess.getD_lt l (j + 1) hlt]; rfl
          obtain ⟨x, hx⟩ : ∃ x, x = l[j] := ⟨_, rfl⟩
          obtain ⟨y, hy⟩ : ∃ y, y = l[j + 1] := ⟨_, rfl⟩
          rw [← hx, ← hy] at hord
          rw [← hx] at hcj
          rw [← hy] at hck
          have hki : (j : Int) + 1 < (l.length : Int) := by omega
          have hk0 : (0 : Int) ≤ (j : Int) + 1 := by omega
          have hsub : (j : Int) + 1 - 1 = (j : Int) := by omega
          have hji : (j : Int) < (l.length : Int) := by omega
          have hwr : IntKind.i64.wrap (j : Int) = (j : Int) := by go_bits; trivial
          have hwr1 : IntKind.i64.wrap ((j : Int) + 1) = (j : Int) + 1 := by go_bits; trivial
          have HYL := Lib.hid (fun w2 (hw2 : Below wr.heap.size wr w2) => run_yield (P := Tryd.prog) (w := w2) (l := w1.heap.size + 2 + 1) (r := rec) (args := #[.string x, .string y]) (HS.out.later hw2).kL (by rw [hps]; rfl))
          have HCK := Lib.hid hck
          have HCJ := Lib.hid hcj
          clear hx hy hcell hcell' hbo hBw hck hcj
          gi_wp2
          have HC1 := Lib.hid c1
          clear c1 z1
          refine Flow.wpIn_region_flow_tail 10 (Flow.specs [.inl (.func (.yield (w1.heap.size + 2 + 1)) #[] #[]), .inl (.slice (some ⟨b', off', none⟩) l.length cap), .inl (.int .i64 ((j : Int) + 1)), .inl (.int .i64 j), .inl (.pointer (some ⟨b', off' + j, none⟩)), .inl (.string x), .inl (.slice (some ⟨b', off', none⟩) l.length cap), .inl (.int .i64 ((j : Int) + 1)), .inl (.pointer (some ⟨b', off' + (j + 1), none⟩)), .inl (.string y)]) (by kernel_rfl) (by kernel_rfl) ?_ ?_
          · apply Flow.specs_mono; intro s hs; simp only [List.mem_cons, List.not_mem_nil, or_false] at hs
            rcases hs with rfl | rfl | rfl | rfl | rfl | rfl | rfl | rfl | rfl | rfl
            all_goals exact Flow.mono_inl _
          iterate 1 (refine Flow.tree_valK rfl (fun K hK => ⟨fun w hw hG => ?_, ?_⟩); (clear hG hw; unfold Flow.Runs Flow.yields; go_simp); go_simp; refine hK _ ?_; clear hK K)
          (refine Flow.tree_valK rfl (fun K hK => ⟨fun w hw hG => ?_, ?_⟩); (have hcw := (hw.cell (p := ⟨w1.heap.size + 1, 0, none⟩) h1r).trans HC1.out; clear hG hw; unfold Flow.Runs Flow.yields; go_simp); go_simp; refine hK _ ?_; clear hK K)
          iterate 3 (refine Flow.tree_valK rfl (fun K hK => ⟨fun w hw hG => ?_, ?_⟩); (clear hG hw; unfold Flow.Runs Flow.yields; go_simp); go_simp; refine hK _ ?_; clear hK K)
          (refine Flow.tree_valK rfl (fun K hK => ⟨fun w hw hG => ?_, ?_⟩); (have hcw := (hw.cell (p := ⟨b', off' + j, none⟩) hbr).trans HCJ.out; clear hG hw; unfold Flow.Runs Flow.yields; go_simp); go_simp; refine hK _ ?_; clear hK K)
          (refine Flow.tree_valK rfl (fun K hK => ⟨fun w hw hG => ?_, ?_⟩); (have hcw := (hw.cell (p := ⟨w1.heap.size + 1, 0, none⟩) h1r).trans HC1.out; clear hG hw; unfold Flow.Runs Flow.yields; go_simp); go_simp; refine hK _ ?_; clear hK K)
          iterate 2 (refine Flow.tree_valK rfl (fun K hK => ⟨fun w hw hG => ?_, ?_⟩); (clear hG hw; unfold Flow.Runs Flow.yields; go_simp); go_simp; refine hK _ ?_; clear hK K)
          (refine Flow.tree_valK rfl (fun K hK => ⟨fun w hw hG => ?_, ?_⟩); (have hcw := (hw.cell (p := ⟨b', off' + (j + 1), none⟩) hbr).trans HCK.out; clear hG hw; unfold Flow.Runs Flow.yields; go_simp); go_simp; refine hK _ ?_; clear hK K)
          refine Flow.tree_nil fun w2 hw2 hG => ?_
          clear hG
          have HS2 := Lib.hid (HS.out.later hw2)
          have hyl := HYL.out w2 hw2
          clear hw2 HS
          simp only [List.drop_succ_cons, List.drop_zero]
          gi_wp2
          refine Rf.round_wide (r := rec) ?_
          have hrr := HREC.out
          subst hrr
          dsimp only
          gi_wp2_with (rw [Oper.semAt_eq _ _ _ (fun c h => by cases h)]; go_simp; try go_bits)
          refine ⟨HS2.out.kL, fun W4 hs4 hl4 => ?_⟩
          have HS4 := Lib.hid (HS2.out.but hs4 hl4)
          clear hs4 hl4 hyl hL
          cases hxy : Tess.bl x y
          · have hbl : Op.bytesLess x.toList y.toList = false := hxy
            rw [hxy] at hord
            have HO := Lib.hid (Tess.chainTo_not l (j + 1) hlt hord)
            clear hxy hord
            obtain ⟨c0, z0⟩ := cell_of_box HS4.out.k0
            gi_wp2_with (rw [Oper.semAt_eq _ _ _ (fun c h => by cases h)]; go_simp; try go_bits)
            refine ⟨(HS4.out.set0 false).kL, fun W5 hs5 hl5 => ?_⟩
            have HS5 := Lib.hid ((HS4.out.set0 false).but hs5 hl5)
            clear hs5 hl5 HS4 HS2 c0 z0
            dsimp only
            gi_wp2
            refine bodyPost_ret (results_none (by rfl) _ _ _) rfl ?_
            refine ⟨⟨_, rfl⟩, _, HS5.out.kL, by simp, ?_⟩
            intro W6 hW6
            dsimp only
            obtain ⟨q0, y0⟩ := cell_of_box ((hW6.block w1.heap.size (by omega)).trans HS5.out.k0)
            have hK6 := (hW6.block (w1.heap.size + 2) (by omega)).trans HS5.out.kD
            gi_wp2
            refine ⟨by simp, .inl ⟨_, _, rfl, run_takeDeferred hK6, ?_⟩⟩
            refine ⟨_, results_tmp rfl _ _ _, by rw [HPF.out, HO.out]; rfl, ?_⟩
            exact Bt HB.out ((HS5.out.below.trans (hW6.below (by omega))).grown (grownBy_putObj W6 (w1.heap.size + 2) (.deferred none)) (by have := HS5.out.below.size; rw [hW6.size]; omega) (fun k e => by cases e; omega))
          · have hbl : Op.bytesLess x.toList y.toList = true := hxy
            rw [hxy] at hord
            have HO := Lib.hid (Tess.chainTo_succ l (j + 1) HCH.out hord)
            clear hxy hord
            gi_wp2_with (rw [Oper.semAt_eq _ _ _ (fun c h => by cases h)]; go_simp; try go_bits)
            refine ⟨HS4.out.kL, fun W5 hs5 hl5 => ?_⟩
            have HS5 := Lib.hid (HS4.out.but hs5 hl5)
            clear hs5 hl5 HS4 HS2
            dsimp only
            gi_wp2
            go_roundw
            case rel => exact ⟨j + 1 + 1, by omega, by omega, by go_num, HO.out, HS5.out⟩
            case measure => simp [intOf]; omega
        · have hki : ¬ (k : Int) < (l.length : Int) := by omega
          have HN := Lib.hid (Tess.chain_end l k HCH.out hk hlt)
          gi_wp2
          go_end0
          refine ⟨⟨_, rfl⟩, rec, HS.out.kL, by rw [hst]; decide, ?_⟩
          intro W4 hW4
          rw [hpe]
          dsimp only
          obtain ⟨q0, y0⟩ := cell_of_box ((hW4.block w1.heap.size (by omega)).trans HS.out.k0)
          have hK4 := (hW4.block (w1.heap.size + 2) (by omega)).trans HS.out.kD
          gi_wp2
          refine ⟨by simp, .inl ⟨_, _, rfl, run_takeDeferred hK4, ?_⟩⟩
          refine ⟨_, results_tmp rfl _ _ _, by rw [HPF.out, HN.out]; rfl, ?_⟩
          exact Bt HB.out ((HS.out.below.trans (hW4.below (by omega))).grown (grownBy_putObj W4 (w1.heap.size + 2) (.deferred none)) (by have := HS.out.below.size; rw [hW4.size]; omega) (fun k e => by cases e; omega))
    · rw [hany] at HCL HP
      have HPF : RowKit.Hid (Tess.right l = false) := Lib.hid (by rw [HP.out]; rfl)
      clear HP
      gi_wp2_with (refine ⟨trivial, ?_⟩; gi_at_call 48; refine (callsIn_wide.2 HCL.out).mono ?_; rintro e w1 ⟨rfl, hB1⟩; have HB := Lib.hid hB1; clear hB1)
      refine wpIn_label ?_
      gi_wp2_with (refine ⟨trivial, ?_⟩; gi_at_call 52; refine (callsIn_wide.2 (pairs_any _ _ _ _)).mono ?_; rintro e w' ⟨rfl, rfl⟩)
      obtain ⟨w0, hw0⟩ : ∃ w0, ((w1.alloc (.cells #[.bool false] 4)).alloc (.cells #[.slice a l.length cap] 22)) = w0 := ⟨_, rfl⟩
      have hA : w0.heap.size = w1.heap.size + 2 := by rw [← hw0]; simp
      have hB0 : Below w1.heap.size w1 w0 := by rw [← hw0]; exact ((Below.refl _ _).alloc (Nat.le_refl _) _).alloc (by simp) _
      have h0 : w0.heap[w1.heap.size]? = some (.cells #[.bool false] 4 (0, 0)) := by rw [← hw0]; exact (Below.heap_alloc _ _ _ (by simp)).trans (World.alloc_heap_new w1 _)
      have h1 : w0.heap[w1.heap.size + 1]? = some (.cells #[.slice a l.length cap] 22 (0, 0)) := by
        rw [← hw0]; have := World.alloc_heap_new (w1.alloc (.cells #[.bool false] 4)) (.cells #[.slice a l.length cap] 22); rwa [World.size_alloc] at this
      rw [hw0]
      clear hw0
      refine Rf.range_wide (gf := 66) (lb := #[.pointer (some ⟨w1.heap.size + 1, 0, none⟩)]) rfl (enters_of Tryd.func66 (by kernel_rfl) rfl) ?_
      intro fn W2 hL hD hB1 hS1
      rw [hA] at hL hD hS1 ⊢
      obtain ⟨rec, hrec, hL⟩ : ∃ rec : Loop, rec = _ ∧ W2.heap[w1.heap.size + 2 + 1]? = some (.loop rec) := ⟨_, rfl, hL⟩
      have HREC := Lib.hid hrec
      have hst : rec.state = .ready ∧ rec.params.size = 2 ∧ rec.pending = none := by rw [hrec]; exact ⟨rfl, rfl, rfl⟩
      clear hrec
      obtain ⟨hst, hps, hpe⟩ := hst
      have hI : Rp w1 rec (.slice a l.length cap) false W2 := ⟨(hB1.block _ (by omega)).trans h0, (hB1.block _ (by omega)).trans h1, hD, hL, Bt hB0 hB1⟩
      clear hB0 hB1 h0 h1 hD hL
      refine callsIn_of_wp Tryd.func66 rfl trivial ?_ rfl
      simp only [Tryd.ntmps66, List.size_toArray, List.length_cons, List.length_nil, Nat.reduceAdd, Nat.reduceSub, Array.replicate_succ, Array.replicate_zero, List.push_toArray, List.append_toArray, List.nil_append, List.cons_append]
      gi_wp2
      gi_loopw [3] (fun i wr => ∃ k : Nat, 1 ≤ k ∧ k ≤ max 1 l.length ∧ i = .int .i64 k ∧ Tess.chainTo l k = true ∧ Rp w1 rec (.slice a l.length cap) false wr) (fun i _ => l.length - (intOf i).toNat)
      case atStart => exact ⟨1, Nat.le_refl _, by omega, rfl, rfl, hI⟩
      case round =>
        obtain ⟨k, hk1, hk, rfl, hch, hS⟩ := hrel
        have HCH := Lib.hid hch
        have HS := Lib.hid hS
        clear hch hS
        obtain ⟨c1, z1⟩ := cell_of_box HS.out.k1
        by_cases hlt : k < l.length
        · obtain ⟨j, rfl⟩ : ∃ j, k = j + 1 := ⟨k - 1, by omega⟩
          have hj : j < l.length := by omega
          obtain ⟨b, off, rfl, hb, hcell⟩ := HC.out (j + 1) hlt
          obtain ⟨b', off', hbo, hb', hcell'⟩ := HC.out j hj
          obtain ⟨rfl, rfl⟩ : b' = b ∧ off' = off := by cases hbo; exact ⟨rfl, rfl⟩
          have hBw := Bt HB.out HS.out.below
          have hck : wr.cell? ⟨b', off' + (j + 1), none⟩ = some (.string l[j + 1]) := (hBw.cell (p := ⟨b', off' + (j + 1), none⟩) hb).trans hcell
          have hcj : wr.cell? ⟨b', off' + j, none⟩ = some (.string l[j]) := (hBw.cell (p := ⟨b', off' + j, none⟩) hb').trans hcell'
          have hbr : b' < wr.heap.size := Nat.lt_of_lt_of_le hb hBw.size
          have h1r : w1.heap.size + 1 < wr.heap.size := (Array.getElem?_eq_some_iff.1 HS.out.k1).1
          have hord : Tess.ord l (j + 1) = Tess.bl l[j] l[j + 1] := by unfold Tess.ord; rw [Nat.add_sub_cancel, Tess.getD_lt l j hj, Tess.getD_lt l (j + 1) hlt]; rfl
          obtain ⟨x, hx⟩ : ∃ x, x = l[j] := ⟨_, rfl⟩
          obtain ⟨y, hy⟩ : ∃ y, y = l[j + 1] := ⟨_, rfl⟩
          rw [← hx, ← hy] at hord
          rw [← hx] at hcj
          rw [← hy] at hck
          have hki : (j : Int) + 1 < (l.length : Int) := by omega
          have hk0 : (0 : Int) ≤ (j : Int) + 1 := by omega
          have hsub : (j : Int) + 1 - 1 = (j : Int) := by omega
          have hji : (j : Int) < (l.length : Int) := by omega
          have hwr : IntKind.i64.wrap (j : Int) = (j : Int) := by go_bits; trivial
          have hwr1 : IntKind.i64.wrap ((j : Int) + 1) = (j : Int) + 1 := by go_bits; trivial
          have HYL := Lib.hid (fun w2 (hw2 : Below wr.heap.size wr w2) => run_yield (P := Tryd.prog) (w := w2) (l := w1.heap.size + 2 + 1) (r := rec) (args := #[.string x, .string y]) (HS.out.later hw2).kL (by rw [hps]; rfl))
          have HCK := Lib.hid hck
          have HCJ := Lib.hid hcj
          clear hx hy hcell hcell' hbo hBw hck hcj
          gi_wp2
          have HC1 := Lib.hid c1
          clear c1 z1
          refine Flow.wpIn_region_flow_tail 10 (Flow.specs [.inl (.func (.yield (w1.heap.size + 2 + 1)) #[] #[]), .inl (.slice (some ⟨b', off', none⟩) l.length cap), .inl (.int .i64 ((j : Int) + 1)), .inl (.int .i64 j), .inl (.pointer (some ⟨b', off' + j, none⟩)), .inl (.string x), .inl (.slice (some ⟨b', off', none⟩) l.length cap), .inl (.int .i64 ((j : Int) + 1)), .inl (.pointer (some ⟨b', off' + (j + 1), none⟩)), .inl (.string y)]) (by kernel_rfl) (by kernel_rfl) ?_ ?_
          · apply Flow.specs_mono; intro s hs; simp only [List.mem_cons, List.not_mem_nil, or_false] at hs
            rcases hs with rfl | rfl | rfl | rfl | rfl | rfl | rfl | rfl | rfl | rfl
            all_goals exact Flow.mono_inl _
          iterate 1 (refine Flow.tree_valK rfl (fun K hK => ⟨fun w hw hG => ?_, ?_⟩); (clear hG hw; unfold Flow.Runs Flow.yields; go_simp); go_simp; refine hK _ ?_; clear hK K)
          (refine Flow.tree_valK rfl (fun K hK => ⟨fun w hw hG => ?_, ?_⟩); (have hcw := (hw.cell (p := ⟨w1.heap.size + 1, 0, none⟩) h1r).trans HC1.out; clear hG hw; unfold Flow.Runs Flow.yields; go_simp); go_simp; refine hK _ ?_; clear hK K)
          iterate 3 (refine Flow.tree_valK rfl (fun K hK => ⟨fun w hw hG => ?_, ?_⟩); (clear hG hw; unfold Flow.Runs Flow.yields; go_simp); go_simp; refine hK _ ?_; clear hK K)
          (refine Flow.tree_valK rfl (fun K hK => ⟨fun w hw hG => ?_, ?_⟩); (have hcw := (hw.cell (p := ⟨b', off' + j, none⟩) hbr).trans HCJ.out; clear hG hw; unfold Flow.Runs Flow.yields; go_simp); go_simp; refine hK _ ?_; clear hK K)
          (refine Flow.tree_valK rfl (fun K hK => ⟨fun w hw hG => ?_, ?_⟩); (have hcw := (hw.cell (p := ⟨w1.heap.size + 1, 0, none⟩) h1r).trans HC1.out; clear hG hw; unfold Flow.Runs Flow.yields; go_simp); go_simp; refine hK _ ?_; clear hK K)
          iterate 2 (refine Flow.tree_valK rfl (fun K hK => ⟨fun w hw hG => ?_, ?_⟩); (clear hG hw; unfold Flow.Runs Flow.yields; go_simp); go_simp; refine hK _ ?_; clear hK K)
          (refine Flow.tree_valK rfl (fun K hK => ⟨fun w hw hG => ?_, ?_⟩); (have hcw := (hw.cell (p := ⟨b', off' + (j + 1), none⟩) hbr).trans HCK.out; clear hG hw; unfold Flow.Runs Flow.yields; go_simp); go_simp; refine hK _ ?_; clear hK K)
          refine Flow.tree_nil fun w2 hw2 hG => ?_
          clear hG
          have HS2 := Lib.hid (HS.out.later hw2)
          have hyl := HYL.out w2 hw2
          clear hw2 HS
          simp only [List.drop_succ_cons, List.drop_zero]
          gi_wp2
          refine Rf.round_wide (r := rec) ?_
          have hrr := HREC.out
          subst hrr
          dsimp only
          gi_wp2_with (rw [Oper.semAt_eq _ _ _ (fun c h => by cases h)]; go_simp; try go_bits)
          refine ⟨HS2.out.kL, fun W4 hs4 hl4 => ?_⟩
          have HS4 := Lib.hid (HS2.out.but hs4 hl4)
          clear hs4 hl4 hyl hL
          cases hxy : Tess.bl x y
          · have hbl : Op.bytesLess x.toList y.toList = false := hxy
            rw [hxy] at hord
            have HO := Lib.hid (Tess.chainTo_not l (j + 1) hlt hord)
            clear hxy hord
            obtain ⟨c0, z0⟩ := cell_of_box HS4.out.k0
            gi_wp2_with (rw [Oper.semAt_eq _ _ _ (fun c h => by cases h)]; go_simp; try go_bits)
            refine ⟨(HS4.out.set0 false).kL, fun W5 hs5 hl5 => ?_⟩
            have HS5 := Lib.hid ((HS4.out.set0 false).but hs5 hl5)
            clear hs5 hl5 HS4 HS2 c0 z0
            dsimp only
            gi_wp2
            refine bodyPost_ret (results_none (by rfl) _ _ _) rfl ?_
            refine ⟨⟨_, rfl⟩, _, HS5.out.kL, by simp, ?_⟩
            intro W6 hW6
            dsimp only
            obtain ⟨q0, y0⟩ := cell_of_box ((hW6.block w1.heap.size (by omega)).trans HS5.out.k0)
            have hK6 := (hW6.block (w1.heap.size + 2) (by omega)).trans HS5.out.kD
            gi_wp2
            refine ⟨by simp, .inl ⟨_, _, rfl, run_takeDeferred hK6, ?_⟩⟩
            refine ⟨_, results_tmp rfl _ _ _, by rw [HPF.out]; rfl, ?_⟩
            exact Bt HB.out ((HS5.out.below.trans (hW6.below (by omega))).grown (grownBy_putObj W6 (w1.heap.size + 2) (.deferred none)) (by have := HS5.out.below.size; rw [hW6.size]; omega) (fun k e => by cases e; omega))
          · have hbl : Op.bytesLess x.toList y.toList = true := hxy
            rw [hxy] at hord
            have HO := Lib.hid (Tess.chainTo_succ l (j + 1) HCH.out hord)
            clear hxy hord
            gi_wp2_with (rw [Oper.semAt_eq _ _ _ (fun c h => by cases h)]; go_simp; try go_bits)
            refine ⟨HS4.out.kL, fun W5 hs5 hl5 => ?_⟩
            have HS5 := Lib.hid (HS4.out.but hs5 hl5)
            clear hs5 hl5 HS4 HS2
            dsimp only
            gi_wp2
            go_roundw
            case rel => exact ⟨j + 1 + 1, by omega, by omega, by go_num, HO.out, HS5.out⟩
            case measure => simp [intOf]; omega
        · have hki : ¬ (k : Int) < (l.length : Int) := by omega
          have HN := Lib.hid (Tess.chain_end l k HCH.out hk hlt)
          gi_wp2
          go_end0
          refine ⟨⟨_, rfl⟩, rec, HS.out.kL, by rw [hst]; decide, ?_⟩
          intro W4 hW4
          rw [hpe]
          dsimp only
          obtain ⟨q0, y0⟩ := cell_of_box ((hW4.block w1.heap.size (by omega)).trans HS.out.k0)
          have hK4 := (hW4.block (w1.heap.size + 2) (by omega)).trans HS.out.kD
          gi_wp2
          refine ⟨by simp, .inl ⟨_, _, rfl, run_takeDeferred hK4, ?_⟩⟩
          refine ⟨_, results_tmp rfl _ _ _, by rw [HPF.out]; rfl, ?_⟩
          exact Bt HB.out ((HS.out.below.trans (hW4.below (by omega))).grown (grownBy_putObj W4 (w1.heap.size + 2) (.deferred none)) (by have := HS.out.below.size; rw [hW4.size]; omega) (fun k e => by cases e; omega))
  · have h1i : ¬ (l.length : Int) ≤ 1000 := by omega
    have h1d : decide ((l.length : Int) ≤ 1000) = false := decide_eq_false h1i
    have HPF : RowKit.Hid (Tess.right l = false) := Lib.hid (by rw [HP.out, decide_eq_false h1000]; rfl)
    clear HP HCL
    obtain ⟨w1, hw1⟩ : ∃ w1, w1 = w := ⟨_, rfl⟩
    have HB := Lib.hid (show Below w.heap.size w w1 by rw [hw1]; exact Below.refl _ _)
    have HW1 := Lib.hid hw1
    clear hw1
    gi_wp2
    refine ⟨trivial, ?_⟩
    gi_wp2
    rw [← HW1.out]
    refine wpIn_label ?_
    gi_wp2_with (refine ⟨trivial, ?_⟩; gi_at_call 52; refine (callsIn_wide.2 (pairs_any _ _ _ _)).mono ?_; rintro e w' ⟨rfl, rfl⟩)
    obtain ⟨w0, hw0⟩ : ∃ w0, ((w1.alloc (.cells #[.bool false] 4)).alloc (.cells #[.slice a l.length cap] 22)) = w0 := ⟨_, rfl⟩
    have hA : w0.heap.size = w1.heap.size + 2 := by rw [← hw0]; simp
    have hB0 : Below w1.heap.size w1 w0 := by rw [← hw0]; exact ((Below.refl _ _).alloc (Nat.le_refl _) _).alloc (by simp) _
    have h0 : w0.heap[w1.heap.size]? = some (.cells #[.bool false] 4 (0, 0)) := by rw [← hw0]; exact (Below.heap_alloc _ _ _ (by simp)).trans (World.alloc_heap_new w1 _)
    have h1 : w0.heap[w1.heap.size + 1]? = some (.cells #[.slice a l.length cap] 22 (0, 0)) := by
      rw [← hw0]; have := World.alloc_heap_new (w1.alloc (.cells #[.bool false] 4)) (.cells #[.slice a l.length cap] 22); rwa [World.size_alloc] at this
    rw [hw0]
    clear hw0
    refine Rf.range_wide (gf := 66) (lb := #[.pointer (some ⟨w1.heap.size + 1, 0, none⟩)]) rfl (enters_of Tryd.func66 (by kernel_rfl) rfl) ?_
    intro fn W2 hL hD hB1 hS1
    rw [hA] at hL hD hS1 ⊢
    obtain ⟨rec, hrec, hL⟩ : ∃ rec : Loop, rec = _ ∧ W2.heap[w1.heap.size + 2 + 1]? = some (.loop rec) := ⟨_, rfl, hL⟩
    have HREC := Lib.hid hrec
    have hst : rec.state = .ready ∧ rec.params.size = 2 ∧ rec.pending = none := by rw [hrec]; exact ⟨rfl, rfl, rfl⟩
    clear hrec
    obtain ⟨hst, hps, hpe⟩ := hst
    have hI : Rp w1 rec (.slice a l.length cap) false W2 := ⟨(hB1.block _ (by omega)).trans h0, (hB1.block _ (by omega)).trans h1, hD, hL, Bt hB0 hB1⟩
    clear hB0 hB1 h0 h1 hD hL
    refine callsIn_of_wp Tryd.func66 rfl trivial ?_ rfl
    simp only [Tryd.ntmps66, List.size_toArray, List.length_cons, List.length_nil, Nat.reduceAdd, Nat.reduceSub, Array.replicate_succ, Array.replicate_zero, List.push_toArray, List.append_toArray, List.nil_append, List.cons_append]
    gi_wp2
    gi_loopw [3] (fun i wr => ∃ k : Nat, 1 ≤ k ∧ k ≤ max 1 l.length ∧ i = .int .i64 k ∧ Tess.chainTo l k = true ∧ Rp w1 rec (.slice a l.length cap) false wr) (fun i _ => l.length - (intOf i).toNat)
    case atStart => exact ⟨1, Nat.le_refl _, by omega, rfl, rfl, hI⟩
    case round =>
      obtain ⟨k, hk1, hk, rfl, hch, hS⟩ := hrel
      have HCH := Lib.hid hch
      have HS := Lib.hid hS
      clear hch hS
      obtain ⟨c1, z1⟩ := cell_of_box HS.out.k1
      by_cases hlt : k < l.length
      · obtain ⟨j, rfl⟩ : ∃ j, k = j + 1 := ⟨k - 1, by omega⟩
        have hj : j < l.length := by omega
        obtain ⟨b, off, rfl, hb, hcell⟩ := HC.out (j + 1) hlt
        obtain ⟨b', off', hbo, hb', hcell'⟩ := HC.out j hj
        obtain ⟨rfl, rfl⟩ : b' = b ∧ off' = off := by cases hbo; exact ⟨rfl, rfl⟩
        have hBw := Bt HB.out HS.out.below
        have hck : wr.cell? ⟨b', off' + (j + 1), none⟩ = some (.string l[j + 1]) := (hBw.cell (p := ⟨b', off' + (j + 1), none⟩) hb).trans hcell
        have hcj : wr.cell? ⟨b', off' + j, none⟩ = some (.string l[j]) := (hBw.cell (p := ⟨b', off' + j, none⟩) hb').trans hcell'
        have hbr : b' < wr.heap.size := Nat.lt_of_lt_of_le hb hBw.size
        have h1r : w1.heap.size + 1 < wr.heap.size := (Array.getElem?_eq_some_iff.1 HS.out.k1).1
        have hord : Tess.ord l (j + 1) = Tess.bl l[j] l[j + 1] := by unfold Tess.ord; rw [Nat.add_sub_cancel, Tess.getD_lt l j hj, Tess.getD_lt l (j + 1) hlt]; rfl
        obtain ⟨x, hx⟩ : ∃ x, x = l[j] := ⟨_, rfl⟩
        obtain ⟨y, hy⟩ : ∃ y, y = l[j + 1] := ⟨_, rfl⟩
        rw [← hx, ← hy] at hord
        rw [← hx] at hcj
        rw [← hy] at hck
        have hki : (j : Int) + 1 < (l.length : Int) := by omega
        have hk0 : (0 : Int) ≤ (j : Int) + 1 := by omega
        have hsub : (j : Int) + 1 - 1 = (j : Int) := by omega
        have hji : (j : Int) < (l.length : Int) := by omega
        have hwr : IntKind.i64.wrap (j : Int) = (j : Int) := by go_bits; trivial
        have hwr1 : IntKind.i64.wrap ((j : Int) + 1) = (j : Int) + 1 := by go_bits; trivial
        have HYL := Lib.hid (fun w2 (hw2 : Below wr.heap.size wr w2) => run_yield (P := Tryd.prog) (w := w2) (l := w1.heap.size + 2 + 1) (r := rec) (args := #[.string x, .string y]) (HS.out.later hw2).kL (by rw [hps]; rfl))
        have HCK := Lib.hid hck
        have HCJ := Lib.hid hcj
        clear hx hy hcell hcell' hbo hBw hck hcj
        gi_wp2
        have HC1 := Lib.hid c1
        clear c1 z1
        refine Flow.wpIn_region_flow_tail 10 (Flow.specs [.inl (.func (.yield (w1.heap.size + 2 + 1)) #[] #[]), .inl (.slice (some ⟨b', off', none⟩) l.length cap), .inl (.int .i64 ((j : Int) + 1)), .inl (.int .i64 j), .inl (.pointer (some ⟨b', off' + j, none⟩)), .inl (.string x), .inl (.slice (some ⟨b', off', none⟩) l.length cap), .inl (.int .i64 ((j : Int) + 1)), .inl (.pointer (some ⟨b', off' + (j + 1), none⟩)), .inl (.string y)]) (by kernel_rfl) (by kernel_rfl) ?_ ?_
        · apply Flow.specs_mono; intro s hs; simp only [List.mem_cons, List.not_mem_nil, or_false] at hs
          rcases hs with rfl | rfl | rfl | rfl | rfl | rfl | rfl | rfl | rfl | rfl
          all_goals exact Flow.mono_inl _
        iterate 1 (refine Flow.tree_valK rfl (fun K hK => ⟨fun w hw hG => ?_, ?_⟩); (clear hG hw; unfold Flow.Runs Flow.yields; go_simp); go_simp; refine hK _ ?_; clear hK K)
        (refine Flow.tree_valK rfl (fun K hK => ⟨fun w hw hG => ?_, ?_⟩); (have hcw := (hw.cell (p := ⟨w1.heap.size + 1, 0, none⟩) h1r).trans HC1.out; clear hG hw; unfold Flow.Runs Flow.yields; go_simp); go_simp; refine hK _ ?_; clear hK K)
        iterate 3 (refine Flow.tree_valK rfl (fun K hK => ⟨fun w hw hG => ?_, ?_⟩); (clear hG hw; unfold Flow.Runs Flow.yields; go_simp); go_simp; refine hK _ ?_; clear hK K)
        (refine Flow.tree_valK rfl (fun K hK => ⟨fun w hw hG => ?_, ?_⟩); (have hcw := (hw.cell (p := ⟨b', off' + j, none⟩) hbr).trans HCJ.out; clear hG hw; unfold Flow.Runs Flow.yields; go_simp); go_simp; refine hK _ ?_; clear hK K)
        (refine Flow.tree_valK rfl (fun K hK => ⟨fun w hw hG => ?_, ?_⟩); (have hcw := (hw.cell (p := ⟨w1.heap.size + 1, 0, none⟩) h1r).trans HC1.out; clear hG hw; unfold Flow.Runs Flow.yields; go_simp); go_simp; refine hK _ ?_; clear hK K)
        iterate 2 (refine Flow.tree_valK rfl (fun K hK => ⟨fun w hw hG => ?_, ?_⟩); (clear hG hw; unfold Flow.Runs Flow.yields; go_simp); go_simp; refine hK _ ?_; clear hK K)
        (refine Flow.tree_valK rfl (fun K hK => ⟨fun w hw hG => ?_, ?_⟩); (have hcw := (hw.cell (p := ⟨b', off' + (j + 1), none⟩) hbr).trans HCK.out; clear hG hw; unfold Flow.Runs Flow.yields; go_simp); go_simp; refine hK _ ?_; clear hK K)
        refine Flow.tree_nil fun w2 hw2 hG => ?_
        clear hG
        have HS2 := Lib.hid (HS.out.later hw2)
        have hyl := HYL.out w2 hw2
        clear hw2 HS
        simp only [List.drop_succ_cons, List.drop_zero]
        gi_wp2
        refine Rf.round_wide (r := rec) ?_
        have hrr := HREC.out
        subst hrr
        dsimp only
        gi_wp2_with (rw [Oper.semAt_eq _ _ _ (fun c h => by cases h)]; go_simp; try go_bits)
        refine ⟨HS2.out.kL, fun W4 hs4 hl4 => ?_⟩
        have HS4 := Lib.hid (HS2.out.but hs4 hl4)
        clear hs4 hl4 hyl hL
        cases hxy : Tess.bl x y
        · have hbl : Op.bytesLess x.toList y.toList = false := hxy
          rw [hxy] at hord
          have HO := Lib.hid (Tess.chainTo_not l (j + 1) hlt hord)
          clear hxy hord
          obtain ⟨c0, z0⟩ := cell_of_box HS4.out.k0
          gi_wp2_with (rw [Oper.semAt_eq _ _ _ (fun c h => by cases h)]; go_simp; try go_bits)
          refine ⟨(HS4.out.set0 false).kL, fun W5 hs5 hl5 => ?_⟩
          have HS5 := Lib.hid ((HS4.out.set0 false).but hs5 hl5)
          clear hs5 hl5 HS4 HS2 c0 z0
          dsimp only
          gi_wp2
          refine bodyPost_ret (results_none (by rfl) _ _ _) rfl ?_
          refine ⟨⟨_, rfl⟩, _, HS5.out.kL, by simp, ?_⟩
          intro W6 hW6
          dsimp only
          obtain ⟨q0, y0⟩ := cell_of_box ((hW6.block w1.heap.size (by omega)).trans HS5.out.k0)
          have hK6 := (hW6.block (w1.heap.size + 2) (by omega)).trans HS5.out.kD
          gi_wp2
          refine ⟨by simp, .inl ⟨_, _, rfl, run_takeDeferred hK6, ?_⟩⟩
          refine ⟨_, results_tmp rfl _ _ _, by rw [HPF.out]; rfl, ?_⟩
          exact Bt HB.out ((HS5.out.below.trans (hW6.below (by omega))).grown (grownBy_putObj W6 (w1.heap.size + 2) (.deferred none)) (by have := HS5.out.below.size; rw [hW6.size]; omega) (fun k e => by cases e; omega))
        · have hbl : Op.bytesLess x.toList y.toList = true := hxy
          rw [hxy] at hord
          have HO := Lib.hid (Tess.chainTo_succ l (j + 1) HCH.out hord)
          clear hxy hord
          gi_wp2_with (rw [Oper.semAt_eq _ _ _ (fun c h => by cases h)]; go_simp; try go_bits)
          refine ⟨HS4.out.kL, fun W5 hs5 hl5 => ?_⟩
          have HS5 := Lib.hid (HS4.out.but hs5 hl5)
          clear hs5 hl5 HS4 HS2
          dsimp only
          gi_wp2
          go_roundw
          case rel => exact ⟨j + 1 + 1, by omega, by omega, by go_num, HO.out, HS5.out⟩
          case measure => simp [intOf]; omega
      · have hki : ¬ (k : Int) < (l.length : Int) := by omega
        have HN := Lib.hid (Tess.chain_end l k HCH.out hk hlt)
        gi_wp2
        go_end0
        refine ⟨⟨_, rfl⟩, rec, HS.out.kL, by rw [hst]; decide, ?_⟩
        intro W4 hW4
        rw [hpe]
        dsimp only
        obtain ⟨q0, y0⟩ := cell_of_box ((hW4.block w1.heap.size (by omega)).trans HS.out.k0)
        have hK4 := (hW4.block (w1.heap.size + 2) (by omega)).trans HS.out.kD
        gi_wp2
        refine ⟨by simp, .inl ⟨_, _, rfl, run_takeDeferred hK4, ?_⟩⟩
        refine ⟨_, results_tmp rfl _ _ _, by rw [HPF.out]; rfl, ?_⟩
        exact Bt HB.out ((HS.out.below.trans (hW4.below (by omega))).grown (grownBy_putObj W4 (w1.heap.size + 2) (.deferred none)) (by have := HS.out.below.size; rw [hW4.size]; omega) (fun k e => by cases e; omega))
end Go.Proofs.YtpbecldgoimkmaaDoor
