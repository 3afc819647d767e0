/- What a row comes to: the program's rollup.Of, walked. -/
import Derived.Test.YtdfnolgcdododaaDoorF39
namespace Go.Proofs.YtdfnolgcdododaaDoor
open Go.RowKit Go.Sort
open Tess (Fil)

/-- What is wrong with a row. -/
def ofCode (s : Tess.Sch) (t : Int) (l : List Tess.Val) (n : Nat) : Int := if Tess.schOk s then (if Tess.rowFits s t l n then 0 else 101) else 100
theorem cells_of_owned {w : World} {base : Nat} {e : TypeId} {size : Nat} {v : Value} {n : Nat} {xs : List Value} (h : w.ownsRow base e size v n xs) (hn : n ≤ 1000000) (h1 : ∀ u ∈ xs, u.oneCell' = true) : CloneOk w size v := by
  rcases h.2 with ⟨rfl, _⟩ | ⟨g, cap, cur, rfl, _⟩
  · exact CloneOk.nil _ _
  · exact ⟨_, n, cap, xs, rfl, hn, h.1, (fun e => by cases e), (fun ad e j u hj => by cases e; exact h.cells (g := g) rfl j u hj), h1⟩
theorem cells_of_slp {p : Nat → Prop} {w : World} {a : Option Addr} {n c : Nat} {ns : List Int} (h : SlP p w (.slice a n c) (ns.map (.int .i64))) (hn : ns.length ≤ 1000000) : CloneOk w 1 (.slice a n c) := by
  obtain ⟨⟨_, a', c', hv, hc⟩, _, hnil⟩ := h
  cases hv
  refine ⟨_, _, _, ns.map (.int .i64), rfl, by simpa using hn, by simp, fun e => ?_, fun ad e j u hj => ?_, fun u hu => ?_⟩
  · subst e
    refine ⟨?_, hnil _ _ rfl⟩
    rcases Nat.eq_zero_or_pos (ns.map (Value.int .i64)).length with h | h
    · exact h
    · obtain ⟨b, off, ha, _⟩ := hc h
      cases ha
  · obtain ⟨hlt, rfl⟩ := List.getElem?_eq_some_iff.1 hj
    obtain ⟨b, off, ha, _, hcell⟩ := hc (by omega)
    rw [e] at ha
    cases ha
    rw [show (⟨b, off, none⟩ : Addr).add j = ⟨b, off + j, none⟩ by unfold Addr.add; split <;> simp_all]
    exact hcell j hlt
  · obtain ⟨x, _, rfl⟩ := List.mem_map.1 hu
    rfl
theorem slp_int_at {p : Nat → Prop} {w : World} {a : Option Addr} {n c : Nat} {ns : List Int} (h : SlP p w (.slice a n c) (ns.map (.int .i64))) (k : Nat) (hk : k < ns.length) : ∃ b off, a = some ⟨b, off, none⟩ ∧ b < w.heap.size ∧ w.cell? ⟨b, off + k, none⟩ = some (.int .i64 ns[k]) := by
  obtain ⟨⟨_, a', c', e, hc⟩, _, _⟩ := h
  simp only [Value.slice.injEq] at e
  obtain ⟨rfl, _, _⟩ := e
  obtain ⟨b, off, ha, hb, hcell⟩ := hc (by simp; omega)
  exact ⟨b, off, ha, hb, by rw [hcell k (by simpa using hk), List.getElem_map]⟩
/-- A new row of one wide number. -/
def newWide (v : Value) (w : World) : Prop := ∃ g a b, v = .slice (some ⟨g, 0, none⟩) 1 1 ∧ g < w.heap.size ∧ w.cell? ⟨g, 0, none⟩ = some a ∧ w.cell? ⟨g, 1, none⟩ = some b ∧ a.oneCell' = true ∧ b.oneCell' = true
theorem newWide_mono : Flow.Spec.mono (.inr newWide) := fun _ _ _ ⟨g, a, b, h1, h2, h3, h4, h5⟩ hb => ⟨g, a, b, h1, Nat.lt_of_lt_of_le h2 hb.size, (hb.cell (p := ⟨g, 0, none⟩) h2).trans h3, (hb.cell (p := ⟨g, 1, none⟩) h2).trans h4, h5⟩
def isWide (v : Value) (_ : World) : Prop := ∃ a b, v = .agg #[a, b] ∧ a.oneCell' = true ∧ b.oneCell' = true
theorem isWide_mono : Flow.Spec.mono (.inr isWide) := fun _ _ _ h _ => h

set_option maxRecDepth 100000 in
set_option maxHeartbeats 4000000 in
theorem of_any (p : Nat → Prop) (vs vr : Value) (s : Tess.Sch) (t : Int) (l : List Tess.Val) (ns : List Int) (w : World) (hs : SchAt p w vs s) (hr : RowAt p w vr t l ns) (hll : l.length ≤ 1000) (hnl : ns.length ≤ 1000) :
    Calls Tryd.prog 21 #[vs, vr] w fun e w' => ∃ t' vd' x2 x3 x4 x5, e = .returned (.tuple #[.agg #[.int .i64 t', vd', .int .i64 x2, x3, x4, x5], .int .i64 (ofCode s t l ns.length)]) ∧ (isSl vd' w' ∧ isSl x3 w' ∧ isSl x4 w' ∧ isSl x5 w') ∧ (Tess.rowFits s t l ns.length = true → t' = t - t % s.grain ∧ ValsAt (fun b => w.heap.size ≤ b) w' vd' l) ∧ Below w.heap.size w w' := by
  have HR := Lib.hid (fun W (hB : Below w.heap.size w W) => schRight_any vs s p W (hs.ag (Ag.new p hB)))
  have HF := Lib.hid (fun W (hB : Below w.heap.size w W) => sFits_any p vs vr s t l ns W (hs.ag (Ag.new p hB)) (hr.ag (Ag.new p hB)))
  obtain ⟨vd, vm, rfl, hd, hm, _, _⟩ := hs
  obtain ⟨ad, capd, rfl, _⟩ := slp_len hd
  obtain ⟨am, capm, rfl, _⟩ := slp_len hm
  obtain ⟨vdr, na, nc, rfl, hnc, hv, hn⟩ := hr
  have HV := Lib.hid hv
  have HN := Lib.hid hn
  obtain ⟨da, dc, rfl, _, _, _, _⟩ := hv
  clear hd hm hn
  obtain ⟨W0, hW0⟩ : ∃ W0, ((w.alloc (.cells #[.slice ad s.dims.length capd, .slice am s.mets.length capm, .int .i64 s.grain] 24)).alloc (.cells #[.int .i64 t, .slice da l.length dc, .slice na ns.length nc] 33)).alloc (.cells #[.int .i64 0, .slice none 0 0, .int .i64 0, .slice none 0 0, .slice none 0 0, .slice none 0 0] 51) = W0 := ⟨_, rfl⟩
  obtain ⟨h0, h1, h2, hS, hB⟩ := laid3 w (.cells #[.slice ad s.dims.length capd, .slice am s.mets.length capm, .int .i64 s.grain] 24) (.cells #[.int .i64 t, .slice da l.length dc, .slice na ns.length nc] 33) (.cells #[.int .i64 0, .slice none 0 0, .int .i64 0, .slice none 0 0, .slice none 0 0, .slice none 0 0] 51)
  rw [hW0] at h0 h1 h2 hS hB
  rw [show w.heap.size + 2 = w.heap.size + 1 + 1 by omega] at h2
  obtain ⟨⟨x0, x1, x2⟩, _⟩ := can3 h0
  have HB := Lib.hid hB
  have HSZ := Lib.hid hS
  have HC := Lib.hid (fun W (hW : Below W0.heap.size W0 W) => And.intro ((hW.block _ (by omega)).trans h0) (And.intro ((hW.block _ (by omega)).trans h1) ((hW.block _ (by omega)).trans h2)))
  clear h0 h1 h2 hS hB
  cases hok : Tess.schOk s
  · rw [hok] at HR
    have hcode : ofCode s t l ns.length = 100 := by unfold ofCode; rw [hok]; rfl
    have hfit : Tess.rowFits s t l ns.length = false := by unfold Tess.rowFits; rw [hok]; simp
    rw [hcode, hfit]
    clear hcode hfit
    go_enter Tryd.func21, Tryd.ntmps21
    go_wp2_with (fail)
    go_at_call 29
    refine (HR.out W0 HB.out).mono ?_
    rintro e w1 ⟨rfl, hB1⟩
    obtain ⟨_, _, q2⟩ := HC.out w1 hB1
    obtain ⟨_, f0, f1, f2, f3, f4, f5⟩ := can6 q2
    clear x0 x1 x2 hW0
    go_wp2_with (fail)
    have hB2 := Bt HB.out hB1
    have q1 := set6 (.int .i64 0) (.slice none 0 0) (.int .i64 0) (.slice none 0 0) (.slice none 0 0) (.slice none 0 0) q2
    have qB := set6_below (.int .i64 0) (.slice none 0 0) (.int .i64 0) (.slice none 0 0) (.slice none 0 0) (.slice none 0 0) hB2 (show w.heap.size ≤ w.heap.size + 1 + 1 by omega)
    obtain ⟨⟨e0, e1, e2, e3, e4, e5⟩, _⟩ := can6 q1
    refine bodyPost_ret (v := .tuple #[.agg #[.int .i64 0, .slice none 0 0, .int .i64 0, .slice none 0 0, .slice none 0 0, .slice none 0 0], .int .i64 100]) (by simp [results, Tryd.results21, go_sem, e0, e1, e2, e3, e4, e5]) rfl ⟨_, _, _, _, _, _, rfl, ⟨⟨_, _, _, rfl⟩, ⟨_, _, _, rfl⟩, ⟨_, _, _, rfl⟩, ⟨_, _, _, rfl⟩⟩, (fun h => by cases h), qB⟩
  · rw [hok] at HR
    cases hfit : Tess.rowFits s t l ns.length
    · rw [hfit] at HF
      have hcode : ofCode s t l ns.length = 101 := by unfold ofCode; rw [hok, hfit]; rfl
      rw [hcode]
      clear hcode
      go_enter Tryd.func21, Tryd.ntmps21
      go_wp2_with (fail)
      go_at_call 29
      refine (HR.out W0 HB.out).mono ?_
      rintro e w1 ⟨rfl, hB1⟩
      obtain ⟨q0, q1, _⟩ := HC.out w1 hB1
      clear x0 x1 x2 hW0
      obtain ⟨⟨x0, x1, x2⟩, _⟩ := can3 q0
      obtain ⟨⟨y0, y1, y2⟩, _⟩ := can3 q1
      have HB1 := Lib.hid hB1
      clear q0 q1 hB1
      go_wp2_with (fail)
      go_at_call 41
      refine (HF.out w1 (Bt HB.out HB1.out)).mono ?_
      rintro e w2 ⟨rfl, hB2⟩
      have hB2 := Bt HB1.out hB2
      obtain ⟨_, _, q2⟩ := HC.out w2 hB2
      obtain ⟨_, f0, f1, f2, f3, f4, f5⟩ := can6 q2
      clear x0 x1 x2 y0 y1 y2
      go_wp2_with (fail)
      have q1 := set6 (.int .i64 0) (.slice none 0 0) (.int .i64 0) (.slice none 0 0) (.slice none 0 0) (.slice none 0 0) q2
      have qB := set6_below (.int .i64 0) (.slice none 0 0) (.int .i64 0) (.slice none 0 0) (.slice none 0 0) (.slice none 0 0) (Bt HB.out hB2) (show w.heap.size ≤ w.heap.size + 1 + 1 by omega)
      obtain ⟨⟨e0, e1, e2, e3, e4, e5⟩, _⟩ := can6 q1
      refine bodyPost_ret (v := .tuple #[.agg #[.int .i64 0, .slice none 0 0, .int .i64 0, .slice none 0 0, .slice none 0 0, .slice none 0 0], .int .i64 101]) (by simp [results, Tryd.results21, go_sem, e0, e1, e2, e3, e4, e5]) rfl ⟨_, _, _, _, _, _, rfl, ⟨⟨_, _, _, rfl⟩, ⟨_, _, _, rfl⟩, ⟨_, _, _, rfl⟩, ⟨_, _, _, rfl⟩⟩, (fun h => by cases h), qB⟩
    · rw [hfit] at HF
      have hcode : ofCode s t l ns.length = 0 := by unfold ofCode; rw [hok, hfit]; rfl
      rw [hcode]
      have hrng : (0 ≤ t ∧ t ≤ 1000000000000) ∧ (1 ≤ s.grain ∧ s.grain ≤ 1000000000) := by
        unfold Tess.rowFits at hfit
        unfold Tess.schOk at hok
        simp only [Bool.and_eq_true, decide_eq_true_eq] at hfit hok
        exact ⟨⟨hfit.1.1.1.1.2, hfit.1.1.1.2⟩, hok.1.1.2, hok.1.2⟩
      have HG := Lib.hid (fun W => gCut_any t s.grain W hrng.1 hrng.2)
      generalize hT : t - t % s.grain = T at *
      clear hcode hrng hok hfit hT
      go_enter Tryd.func21, Tryd.ntmps21
      go_wp2_with (fail)
      go_at_call 29
      refine (HR.out W0 HB.out).mono ?_
      rintro e w1 ⟨rfl, hB1⟩
      obtain ⟨q0, q1, _⟩ := HC.out w1 hB1
      clear x0 x1 x2 hW0
      obtain ⟨⟨x0, x1, x2⟩, _⟩ := can3 q0
      obtain ⟨⟨y0, y1, y2⟩, _⟩ := can3 q1
      have HB1 := Lib.hid hB1
      clear q0 q1 hB1
      go_wp2_with (fail)
      go_at_call 41
      refine (HF.out w1 (Bt HB.out HB1.out)).mono ?_
      rintro e w2 ⟨rfl, hB2⟩
      have HB2 := Lib.hid (Bt HB1.out hB2)
      clear x0 x1 x2 y0 y1 y2 hB2
      obtain ⟨q0, q1, _⟩ := HC.out w2 HB2.out
      obtain ⟨⟨x0, x1, x2⟩, _⟩ := can3 q0
      obtain ⟨⟨y0, y1, y2⟩, _⟩ := can3 q1
      clear q0 q1
      go_wp2_with (fail)
      go_at_call 22
      refine (HG.out w2).mono ?_
      rintro e w3 ⟨rfl, hB3⟩
      have HB3 := Lib.hid (Bt HB2.out hB3)
      clear x0 x1 x2 y0 y1 y2 hB3
      obtain ⟨q0, q1, q2⟩ := HC.out w3 HB3.out
      obtain ⟨⟨y0, y1, y2⟩, _⟩ := can3 q1
      obtain ⟨W4, hW4⟩ : ∃ W4, w3.alloc (.cells #[.int .i64 T, .slice da l.length dc, .int .i64 1, .slice none 0 0, .slice na ns.length nc, .slice na ns.length nc] 84) = W4 := ⟨_, rfl⟩
      obtain ⟨k0, kS, kB⟩ := laid1 w3 (.cells #[.int .i64 T, .slice da l.length dc, .int .i64 1, .slice none 0 0, .slice na ns.length nc, .slice na ns.length nc] 84)
      rw [hW4] at k0 kS kB
      have k1 := (kB.block _ (Array.getElem?_eq_some_iff.1 q1).1).trans q1
      have k2 := (kB.block _ (Array.getElem?_eq_some_iff.1 q2).1).trans q2
      obtain ⟨⟨u0, u1, u2⟩, _⟩ := can3 k1
      obtain ⟨G, hG⟩ : ∃ G, w3.heap.size = G := ⟨_, rfl⟩
      have HK0 := Lib.hid k0
      have HK2 := Lib.hid k2
      have HKS := Lib.hid kS
      have HB4 := Lib.hid (Bt (Bt HB.out HB3.out) kB)
      have HGE := Lib.hid (show w.heap.size + 3 ≤ w3.heap.size by have := HB3.out.size; have := HSZ.out; omega)
      clear q0 q1 q2 k0 k1 k2 kS kB
      go_wp2_with (fail)
      clear y0 y1 y2 u0 u1 u2 hW4
      obtain ⟨i0, hi, hz0, hz1, hz2⟩ := info_parts infoWide
      obtain ⟨N, hN⟩ : ∃ N, N = W4.heap.size := ⟨_, rfl⟩
      rw [hG] at HK0 HKS HGE
      have HN4 := Lib.hid hN
      have HGG := Lib.hid hG
      have hNG : N = G + 1 := by rw [hN]; exact HKS.out
      clear hN hG
      have HNG := Lib.hid hNG
      clear hNG
      go_loopw [42] (fun i wr => ∃ (k : Nat) (sv : Value) (xs : List Value), k ≤ ns.length ∧ i = .int .i64 k ∧ wr.heap[G]? = some (.cells #[.int .i64 T, .slice da l.length dc, .int .i64 1, sv, .slice na ns.length nc, .slice na ns.length nc] 84 (0, 0)) ∧ wr.heap[w.heap.size + 1 + 1]? = some (.cells #[.int .i64 0, .slice none 0 0, .int .i64 0, .slice none 0 0, .slice none 0 0, .slice none 0 0] 51 (0, 0)) ∧ wr.ownsRow N 87 2 sv k xs ∧ (∀ u ∈ xs, u.oneCell' = true) ∧ Below w.heap.size w wr ∧ N ≤ wr.heap.size) (fun i _ => ns.length - (intOf i).toNat)
      case atStart => exact ⟨0, _, [], Nat.zero_le _, rfl, HK0.out, HK2.out, World.ownsRow_nil _ _ _ _, (fun u hu => by cases hu), HB4.out, by rw [HN4.out]; exact Nat.le_refl _⟩
      case round =>
        obtain ⟨k, sv, xs, hk, rfl, hg, hz, hown, hone, hBr, hNr⟩ := hrel
        have HGB := Lib.hid hg
        have HZB := Lib.hid hz
        have HO := Lib.hid hown
        have HON := Lib.hid hone
        have HBr := Lib.hid hBr
        obtain ⟨⟨g0, g1, g2, g3, g4, g5⟩, _⟩ := can6 hg
        have hGlt : G < wr.heap.size := by have := HNG.out; omega
        clear hg hz hown hone hBr
        by_cases hlt : k < ns.length
        · obtain ⟨b, off, rfl, hb, hc⟩ := slp_int_at HN.out k hlt
          have hck := (HBr.out.cell (p := ⟨b, off + k, none⟩) hb).trans hc
          have hbw : b < wr.heap.size := Nat.lt_of_lt_of_le hb HBr.out.size
          have hki : (k : Int) < (ns.length : Int) := by omega
          have HW := Lib.hid (fun W => wOf_any ns[k] W)
          clear hc hb
          go_wp2_with (fail)
          refine Flow.wp_region_flow_tail 6 (Flow.specs [.inl ?_, .inl ?_, .inl ?_, .inl ?_, .inr isWide, .inr newWide]) (by kernel_rfl) (by kernel_rfl) ?_ ?_
          rotate_left 4
          · refine Flow.specs_mono ?_
            repeat (first | exact Flow.lmono_nil | refine Flow.lmono_inl ?_ | refine Flow.lmono_inr isWide_mono ?_ | refine Flow.lmono_inr newWide_mono ?_)
          all_goals try simp only [List.take_succ_cons, List.take_zero, List.drop_succ_cons, List.drop_zero]
          iterate 4 (refine Flow.tree_valK rfl (fun K hK => ⟨fun w hw hG => ?_, ?_⟩); (have hcl := Flow.bcell hw; clear hG hw; unfold Flow.Runs Flow.yields; go_simp; try rfl); go_simp; refine hK _ ?_; clear hK K)
          (refine Flow.tree_varK rfl (fun K hK => ⟨fun w hw hG => ?_, ?_⟩); (clear hG hw; unfold Flow.Runs Flow.yields; go_simp; refine (HW.out _).mono ?_; rintro e w5 ⟨y0, y1, rfl, o0, o1, hb5⟩; exact ⟨_, rfl, hb5, y0, y1, rfl, o0, o1⟩); intro vz; go_simp; refine hK _ _ ?_; clear hK K)
          (refine Flow.tree_varK rfl (fun K hK => ⟨fun w hw hG => ?_, ?_⟩); (have hvz := (show isWide vz w by simpa [Flow.upd] using hG 4 (by kernel_rfl)); clear hG; obtain ⟨y0, y1, rfl, o0, o1⟩ := hvz; unfold Flow.Runs Flow.yields; go_simp; exact ⟨(laid1 _ _).2.2, _, y0, y1, rfl, by simp, by simp, by simp, o0, o1⟩); intro vy; go_simp; refine hK _ _ ?_; clear hK K)
          refine Flow.tree_nil fun w5 hw5 hG => ?_
          obtain ⟨gn, y0, y1, rfl, hgn, hy0, hy1, o0, o1⟩ := (show newWide vy w5 by simpa [Flow.upd] using hG 5)
          clear hG
          have HO5 := Lib.hid (owns_below HO.out hw5)
          have HY := Lib.hid (And.intro hy0 hy1)
          have HG5 := Lib.hid ((hw5.block _ hGlt).trans HGB.out)
          have HZ5 := Lib.hid ((hw5.block _ (Array.getElem?_eq_some_iff.1 HZB.out).1).trans HZB.out)
          have HB5 := Lib.hid (Bt HBr.out hw5)
          have hs5 := hw5.size
          have HOO := Lib.hid (And.intro o0 o1)
          have HNW := Lib.hid (show w.heap.size + 3 < N by have := HNG.out; have := HGE.out; omega)
          clear hw5 hy0 hy1 o0 o1 g0 g1 g2 g3 g4 g5 hck HO HGB HZB
          go_wp2_with (have hxx := HY; clear hxx; at_builtin; refine wpList_append_own_at _ rfl _ _ 49 rfl N 87 i0 (.agg #[.int .i64 0, .int .u64 0]) 2 16 Tryd.underlying49 hi hz0 hz1 hz2 rfl (by decide) _ k _ rfl HO5.out ⟨gn, 0, none⟩ 1 1 [y0, y1] rfl rfl ?_ ?_ ?_ ?_ ?_ ?_)
          · intro j u hj
            rcases j with _ | _ | j
            · simp at hj; subst hj; simpa [Addr.add] using HY.out.1
            · simp at hj; subst hj; simpa [Addr.add] using HY.out.2
            · simp at hj
          · intro u hu
            rcases List.mem_cons.1 hu with rfl | hu
            · exact HOO.out.1
            · rcases List.mem_cons.1 hu with rfl | hu
              · exact HOO.out.2
              · cases hu
          · unfold maxLen; omega
          · omega
          · omega
          intro v6 w6 hown6 hgrow6 _ _
          obtain ⟨gg, cp, rfl, _⟩ := owns_cell_any hown6 (by omega)
          have hne : ∀ b, b < N → some b ≠ sv.ownBlock := fun b hb e => by have := (HO5.out.lt b e.symm).1; omega
          have HG6 := Lib.hid ((hgrow6.block G (by omega) (hne G (by have := HNG.out; omega))).trans HG5.out)
          have HZ6 := Lib.hid ((hgrow6.block (w.heap.size + 1 + 1) (by have := HNW.out; omega) (hne _ (by have := HNW.out; omega))).trans HZ5.out)
          have HB6 := Lib.hid (HB5.out.grown hgrow6 (by have := HNW.out; omega) (fun j e => by have := (HO5.out.lt j e).1; have := HNW.out; omega))
          have HO6 := Lib.hid hown6
          have hs6 := hgrow6.size
          obtain ⟨_, f0, f1, f2, f3, f4, f5⟩ := can6 HG6.out
          clear hown6 hgrow6 hne HY HO5 HG5 HZ5 HB5
          go_wp2
          go_roundw
          case rel =>
            have hGN := HNG.out
            have hNw := HNW.out
            have hGw := HGE.out
            refine ⟨k + 1, _, _, by omega, by go_num, heap_setCell_same _ _ _ _ _ _ HG6.out, (heap_setCell_other _ _ _ _ (show w.heap.size + 1 + 1 ≠ G by omega)).trans HZ6.out, ownsRow_setCell_below HO6.out (show G < N by omega) _, fun u hu => ?_, HB6.out.setCell (show w.heap.size ≤ G by omega) _, by simp [World.setCell]; omega⟩
            rcases List.mem_append.1 hu with h | h
            · exact HON.out u h
            · rcases List.mem_cons.1 h with rfl | h
              · exact HOO.out.1
              · rcases List.mem_cons.1 h with rfl | h
                · exact HOO.out.2
                · cases h
          case measure => simp [intOf]; omega
        · have hki : ¬ (k : Int) < (ns.length : Int) := by omega
          have hBw := HBr.out
          have hSl : CloneOk wr 1 (.slice na ns.length nc) := cells_of_slp (HN.out.ag (Ag.new p hBw)) (by omega)
          have HOWN := Lib.hid (own_any p T 1 (.slice da l.length dc) sv (.slice na ns.length nc) (.slice na ns.length nc) l wr (HV.out.ag (Ag.new p hBw)) (by omega) (cells_of_owned HO.out (by omega) HON.out) hSl hSl)
          have hsh : ∃ a n c, sv = .slice a n c := by
            rcases HO.out.2 with ⟨rfl, _⟩ | ⟨g, cap, cur, rfl, _⟩ <;> exact ⟨_, _, _, rfl⟩
          obtain ⟨sa, sn, sc, rfl⟩ := hsh
          clear hBw hSl
          go_wp2_with (fail)
          go_at_call 43
          refine HOWN.out.mono ?_
          rintro e w8 ⟨vd8, y3, y4, y5, rfl, ⟨⟨a3, n3, p3, rfl⟩, ⟨a4, n4, p4, rfl⟩, ⟨a5, n5, p5, rfl⟩⟩, hv8, hB8⟩
          have hz8 := (hB8.block _ (Array.getElem?_eq_some_iff.1 HZB.out).1).trans HZB.out
          have HV8 := Lib.hid hv8
          obtain ⟨d8, e8, rfl, _⟩ := hv8
          obtain ⟨_, f0, f1, f2, f3, f4, f5⟩ := can6 hz8
          have q1 := set6 (.int .i64 T) (.slice d8 l.length e8) (.int .i64 1) (.slice a3 n3 p3) (.slice a4 n4 p4) (.slice a5 n5 p5) hz8
          have qB := set6_below (.int .i64 T) (.slice d8 l.length e8) (.int .i64 1) (.slice a3 n3 p3) (.slice a4 n4 p4) (.slice a5 n5 p5) (Bt HBr.out hB8) (show w.heap.size ≤ w.heap.size + 1 + 1 by omega)
          have HQ1 := Lib.hid q1
          have HQB := Lib.hid qB
          have hs8 := HBr.out.size
          clear g0 g1 g2 g3 g4 g5 q1 qB hB8 hz8
          go_wp2_with (fail)
          obtain ⟨⟨e0, e1, e2, e3, e4, e5⟩, _⟩ := can6 HQ1.out
          refine bodyPost_ret (v := .tuple #[.agg #[.int .i64 T, .slice d8 l.length e8, .int .i64 1, .slice a3 n3 p3, .slice a4 n4 p4, .slice a5 n5 p5], .int .i64 0]) (by simp [results, Tryd.results21, go_sem, e0, e1, e2, e3, e4, e5]) rfl ⟨_, _, _, _, _, _, rfl, ⟨⟨_, _, _, rfl⟩, ⟨_, _, _, rfl⟩, ⟨_, _, _, rfl⟩, ⟨_, _, _, rfl⟩⟩, fun _ => ⟨rfl, ?_⟩, HQB.out⟩
          have hA : ∀ W6, W6 = ((((((w8.setCell ⟨w.heap.size + 1 + 1, 0, none⟩ (.int .i64 T)).setCell ⟨w.heap.size + 1 + 1, 1, none⟩ (.slice d8 l.length e8)).setCell ⟨w.heap.size + 1 + 1, 2, none⟩ (.int .i64 1)).setCell ⟨w.heap.size + 1 + 1, 3, none⟩ (.slice a3 n3 p3)).setCell ⟨w.heap.size + 1 + 1, 4, none⟩ (.slice a4 n4 p4)).setCell ⟨w.heap.size + 1 + 1, 5, none⟩ (.slice a5 n5 p5)) → Ag (fun b => wr.heap.size ≤ b) w8 W6 := fun W6 e => by
            rw [e]
            exact ⟨by rw [set6_size]; exact Nat.le_refl _, fun b _ hb => set6_other _ _ _ _ _ _ (by have := HNG.out; have := HGE.out; omega)⟩
          exact (HV8.out.ag (hA _ rfl)).weak fun b hb => by omega
end Go.Proofs.YtdfnolgcdododaaDoor
