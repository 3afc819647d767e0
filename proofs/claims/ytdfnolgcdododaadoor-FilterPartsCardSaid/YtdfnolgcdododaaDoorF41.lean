/- FilterGrain, walked. -/
import Derived.Test.YtdfnolgcdododaaDoorF40
namespace Tess.Fil
open Go
theorem cut_has (a b g t : Int) (h : spanFits a b g = true) (h0 : 0 ≤ t) (h1 : t ≤ 1000000000000) : spanHas a b (t - t % g) = spanHas a b t := by
  unfold spanFits grainOk at h
  simp only [Bool.and_eq_true, Bool.or_eq_true, decide_eq_true_eq] at h
  obtain ⟨⟨⟨hok, hg1, _⟩, ha⟩, hb⟩ := h
  unfold spanHas
  rw [hok, Bool.true_and, Bool.true_and]
  have hm0 : 0 ≤ t % g := Int.emod_nonneg _ (by omega)
  have hm1 : t % g < g := Int.emod_lt_of_pos _ (by omega)
  obtain ⟨u, hu⟩ : ∃ u, a = g * u := ⟨a / g, by have := Int.emod_add_mul_ediv a g; omega⟩
  obtain ⟨q, hq⟩ : ∃ q, t - t % g = g * q := ⟨t / g, by have := Int.emod_add_mul_ediv t g; omega⟩
  have e1 : decide (a ≤ t - t % g) = decide (a ≤ t) := by
    refine decide_eq_decide.2 ⟨fun h => by omega, fun h => ?_⟩
    rw [hq, hu]
    refine Int.mul_le_mul_of_nonneg_left ?_ (by omega)
    by_cases hh : u ≤ q
    · exact hh
    · exfalso
      have := Int.mul_le_mul_of_nonneg_left (show q + 1 ≤ u by omega) (show 0 ≤ g by omega)
      rw [Int.mul_add, Int.mul_one] at this
      omega
  have e2 : decide (t - t % g < b) = decide (t < b) := by
    refine decide_eq_decide.2 ⟨fun h => ?_, fun h => by omega⟩
    rcases hb with hb | hb
    · omega
    · obtain ⟨v, hv⟩ : ∃ v, b = g * v := ⟨b / g, by have := Int.emod_add_mul_ediv b g; omega⟩
      have hqv : q + 1 ≤ v := by
        by_cases hh : q + 1 ≤ v
        · exact hh
        · exfalso
          have := Int.mul_le_mul_of_nonneg_left (show v ≤ q by omega) (show 0 ≤ g by omega)
          omega
      have := Int.mul_le_mul_of_nonneg_left hqv (show 0 ≤ g by omega)
      rw [Int.mul_add, Int.mul_one] at this
      omega
  rw [e1, e2]
theorem cut_holds (s : Sch) (d : List Val) (t : Int) (h0 : 0 ≤ t) (h1 : t ≤ 1000000000000) : ∀ (n : Nat) (f : Fil), f.deep ≤ n → allP (fun x => !badGrain s x) f = true → holds s (t - t % s.grain) d f = holds s t d f := by
  intro n
  induction n with
  | zero => intro f hf _; rw [deep_eq] at hf; omega
  | succ n ih =>
    intro f hf ha
    rw [allP_eq, Bool.and_eq_true, List.all_eq_true] at ha
    rw [holds_eq, holds_eq]
    have e : f.l.map (holds s (t - t % s.grain) d) = f.l.map (holds s t d) := by
      refine List.map_congr_left fun x hx => ih x ?_ (ha.2 x hx)
      have := deep_mem hx
      rw [deep_eq] at hf
      omega
    rw [e]
    unfold holdsW
    by_cases h6 : f.kind = 6
    · have hb : spanFits f.frm f.to s.grain = true := by
        have := ha.1
        simpa [badGrain, h6] using this
      rw [cut_has _ _ _ _ hb h0 h1]
    · simp [h6]
end Tess.Fil
namespace Go.Proofs.YtdfnolgcdododaaDoor
open Go.RowKit Go.Sort
open Tess (Fil)

/-- The law's three boxes: a schema, a filter, a row. -/
structure Bg (w : World) (c0 c1 c2 : Array Value) (W : World) : Prop where
  k0 : W.heap[w.heap.size]? = some (.cells c0 24 (0, 0))
  k1 : W.heap[w.heap.size + 1]? = some (.cells c1 29 (0, 0))
  k2 : W.heap[w.heap.size + 1 + 1]? = some (.cells c2 33 (0, 0))
  below : Below w.heap.size w W
  size : w.heap.size + 3 ≤ W.heap.size
theorem Bg.later {w W W' : World} {c0 c1 c2 : Array Value} (h : Bg w c0 c1 c2 W) (hb : Below W.heap.size W W') : Bg w c0 c1 c2 W' :=
  have := h.size
  ⟨(hb.block _ (by omega)).trans h.k0, (hb.block _ (by omega)).trans h.k1, (hb.block _ (by omega)).trans h.k2, Bt h.below hb, Nat.le_trans h.size hb.size⟩
theorem Bg.set0 {w W : World} {x0 x1 x2 : Value} {c1 c2 : Array Value} (y0 y1 y2 : Value) (h : Bg w #[x0, x1, x2] c1 c2 W) :
    ∃ W3, (((W.setCell ⟨w.heap.size, 0, none⟩ y0).setCell ⟨w.heap.size, 1, none⟩ y1).setCell ⟨w.heap.size, 2, none⟩ y2) = W3 ∧ Bg w #[y0, y1, y2] c1 c2 W3 ∧ Ag (fun b => b < w.heap.size ∨ w.heap.size + 3 ≤ b) W W3 := by
  obtain ⟨W3, e, q0, qo, qs, qB⟩ := box3 y0 y1 y2 h.k0 h.below (Nat.le_refl _)
  exact ⟨W3, e, ⟨q0, (qo _ (by omega)).trans h.k1, (qo _ (by omega)).trans h.k2, qB, by rw [qs]; exact h.size⟩, by rw [qs]; exact Nat.le_refl _, fun b _ hb => qo b (by omega)⟩
theorem Bg.set1 {w W : World} {x0 x1 x2 x3 x4 x5 : Value} {c0 c2 : Array Value} (y0 y1 y2 y3 y4 y5 : Value) (h : Bg w c0 #[x0, x1, x2, x3, x4, x5] c2 W) :
    ∃ W3, ((((((W.setCell ⟨w.heap.size + 1, 0, none⟩ y0).setCell ⟨w.heap.size + 1, 1, none⟩ y1).setCell ⟨w.heap.size + 1, 2, none⟩ y2).setCell ⟨w.heap.size + 1, 3, none⟩ y3).setCell ⟨w.heap.size + 1, 4, none⟩ y4).setCell ⟨w.heap.size + 1, 5, none⟩ y5) = W3 ∧ Bg w c0 #[y0, y1, y2, y3, y4, y5] c2 W3 ∧ Ag (fun b => b < w.heap.size ∨ w.heap.size + 3 ≤ b) W W3 := by
  obtain ⟨W3, e, q0, qo, qs, qB⟩ := box6 y0 y1 y2 y3 y4 y5 h.k1 h.below (by omega)
  exact ⟨W3, e, ⟨(qo _ (by omega)).trans h.k0, q0, (qo _ (by omega)).trans h.k2, qB, by rw [qs]; exact h.size⟩, by rw [qs]; exact Nat.le_refl _, fun b _ hb => qo b (by omega)⟩
theorem Bg.set2 {w W : World} {x0 x1 x2 : Value} {c0 c1 : Array Value} (y0 y1 y2 : Value) (h : Bg w c0 c1 #[x0, x1, x2] W) :
    ∃ W3, (((W.setCell ⟨w.heap.size + 1 + 1, 0, none⟩ y0).setCell ⟨w.heap.size + 1 + 1, 1, none⟩ y1).setCell ⟨w.heap.size + 1 + 1, 2, none⟩ y2) = W3 ∧ Bg w c0 c1 #[y0, y1, y2] W3 ∧ Ag (fun b => b < w.heap.size ∨ w.heap.size + 3 ≤ b) W W3 := by
  obtain ⟨W3, e, q0, qo, qs, qB⟩ := box3 y0 y1 y2 h.k2 h.below (by omega)
  exact ⟨W3, e, ⟨(qo _ (by omega)).trans h.k0, (qo _ (by omega)).trans h.k1, q0, qB, by rw [qs]; exact h.size⟩, by rw [qs]; exact Nat.le_refl _, fun b _ hb => qo b (by omega)⟩
theorem RowAt.low {p : Nat → Prop} {w : World} {v : Value} {t : Int} {l : List Tess.Val} {ns : List Int} (h : RowAt p w v t l ns) : RowAt (fun b => b < w.heap.size) w v t l ns := by
  obtain ⟨vd, a, c, h1, h0, ⟨a', cap, hv, q1, q2, q3, q4⟩, hn⟩ := h
  refine ⟨vd, a, c, h1, h0, ⟨a', cap, hv, q1, q2, q3, fun hl => ?_⟩, hn.lt.weak fun b hb => hb.2⟩
  obtain ⟨b, off, ha, hb, _, hc⟩ := q4 hl
  exact ⟨b, off, ha, hb, hb, hc⟩
theorem ofCode_zero {s : Tess.Sch} {t : Int} {l : List Tess.Val} {n : Nat} (h : ofCode s t l n = 0) : Tess.rowFits s t l n = true := by
  unfold ofCode at h
  split at h
  · split at h
    · assumption
    · omega
  · omega

set_option maxRecDepth 100000 in
set_option maxHeartbeats 4000000 in
theorem grain_any (a0 a1 : Addr) (p : Nat → Prop) (n : Nat) (vs vf vr : Value) (s : Tess.Sch) (f : Fil) (t : Int) (l : List Tess.Val) (ns : List Int) (w : World) (hV : Vars a0 a1 w) (hs : SchAt p w vs s) (hf : FilAt p n w vf f) (hr : RowAt p w vr t l ns) (hKf : kindsOk f) :
    Calls Tryd.prog 6 #[vs, vf, vr] w fun e w' => e = .returned (.bool true) ∧ Below w.heap.size w w' := by
  have HV := Lib.hid hV
  have HCUT := Lib.hid (fun W (hB : Below w.heap.size w W) => cutSch_any vs s W p (hs.ag (Ag.new p hB)))
  have HFF := Lib.hid (fun W (hB : Below w.heap.size w W) => few_any p n vf f W (hf.ag (Ag.new p hB)))
  have HFR := Lib.hid (fun W (hB : Below w.heap.size w W) => fewRow_any (fun b => b < w.heap.size) vr t l ns W (hr.low.ag (Ag.new _ hB)))
  obtain ⟨vd, vm, rfl, hd, hm, _, _⟩ := hs
  obtain ⟨ad, capd, rfl, _⟩ := slp_len hd
  obtain ⟨am, capm, rfl, _⟩ := slp_len hm
  obtain ⟨fa, fn, fc, fla, flc, rfl⟩ := hf.shape6
  obtain ⟨vdr, na, nc, rfl, _, ⟨da, dc, rfl, _, _, _, _⟩, _⟩ := hr
  clear hd hm hV hf
  obtain ⟨W0, hW0⟩ : ∃ W0, ((w.alloc (.cells #[.slice ad s.dims.length capd, .slice am s.mets.length capm, .int .i64 s.grain] 24)).alloc (.cells #[.int .i64 f.kind, .string f.name, .slice fa fn fc, .int .i64 f.frm, .int .i64 f.to, .slice fla f.l.length flc] 29)).alloc (.cells #[.int .i64 t, .slice da l.length dc, .slice na ns.length nc] 33) = W0 := ⟨_, rfl⟩
  obtain ⟨h0, h1, h2, hS, hB⟩ := laid3 w (.cells #[.slice ad s.dims.length capd, .slice am s.mets.length capm, .int .i64 s.grain] 24) (.cells #[.int .i64 f.kind, .string f.name, .slice fa fn fc, .int .i64 f.frm, .int .i64 f.to, .slice fla f.l.length flc] 29) (.cells #[.int .i64 t, .slice da l.length dc, .slice na ns.length nc] 33)
  rw [hW0] at h0 h1 h2 hS hB
  rw [show w.heap.size + 2 = w.heap.size + 1 + 1 by omega] at h2
  have HSH := Lib.hid (shown_any a0 a1 W0 (HV.out.below hB))
  have HX0 := Lib.hid (show Bg w _ _ _ W0 from ⟨h0, h1, h2, hB, by omega⟩)
  clear h0 h1 h2 hB hS
  go_enter Tryd.func6, Tryd.ntmps6
  go_wp2_with (go_at_call 10; refine HSH.out.mono ?_; rintro e w1 ⟨rfl, hB1⟩; have HX1 := Lib.hid (HX0.out.later hB1); obtain ⟨⟨x0, x1, x2⟩, _⟩ := can3 HX1.out.k0; clear hB1 hW0 HSH HX0)
  go_at_call 11
  refine (HCUT.out w1 HX1.out.below).mono ?_
  rintro e w2 ⟨v2, rfl, hs2, hB2⟩
  clear x0 x1 x2
  obtain ⟨vd2, vm2, rfl, hd2, hm2, hz2⟩ := hs2
  obtain ⟨ad2, capd2, rfl, _⟩ := slp_len hd2
  obtain ⟨am2, capm2, rfl, _⟩ := slp_len hm2
  have HX2 := Lib.hid (HX1.out.later hB2)
  obtain ⟨⟨x0, x1, x2⟩, z0, z1, z2⟩ := can3 HX2.out.k0
  obtain ⟨W3, hW3, hx3, hb3⟩ := HX2.out.set0 (.slice ad2 (cutSch s).dims.length capd2) (.slice am2 (cutSch s).mets.length capm2) (.int .i64 (cutSch s).grain)
  have HX3 := Lib.hid hx3
  have HS3 := Lib.hid (show SchAt (fun b => b < w.heap.size ∨ w.heap.size + 3 ≤ b) W3 (.agg #[.slice ad2 (cutSch s).dims.length capd2, .slice am2 (cutSch s).mets.length capm2, .int .i64 (cutSch s).grain]) (cutSch s) from (SchAt.weak ⟨_, _, rfl, hd2, hm2, hz2⟩ (fun b hb => .inr (Nat.le_trans HX1.out.size hb))).ag hb3)
  obtain ⟨⟨f0, f1, f2, f3, f4, f5⟩, _⟩ := can6 HX3.out.k1
  clear hx3 hb3 hd2 hm2 hz2 HX1 hB2
  go_wp2_with (fail)
  go_at_call 12
  refine (HFF.out W3 HX3.out.below).mono ?_
  rintro e w4 ⟨v4, rfl, hf4, hB4⟩
  obtain ⟨fa4, fn4, fc4, fl4, fd4, rfl⟩ := hf4.shape6
  clear x0 x1 x2 z0 z1 z2 f0 f1 f2 f3 f4 f5 hW3
  have HX4 := Lib.hid (HX3.out.later hB4)
  have HS4 := Lib.hid (HS3.out.ag (Ag.new _ hB4))
  have HF4 := Lib.hid (FilAt.weak (q := fun b => b < w.heap.size ∨ w.heap.size + 3 ≤ b) (fun b hb => .inr (Nat.le_trans HX3.out.size hb)) hf4)
  obtain ⟨⟨x0, x1, x2, x3, x4, x5⟩, z0, z1, z2, z3, z4, z5⟩ := can6 HX4.out.k1
  obtain ⟨W5, hW5, hx5, hb5⟩ := HX4.out.set1 (.int .i64 (Fil.few f).kind) (.string (Fil.few f).name) (.slice fa4 fn4 fc4) (.int .i64 (Fil.few f).frm) (.int .i64 (Fil.few f).to) (.slice fl4 (Fil.few f).l.length fd4)
  have HX5 := Lib.hid hx5
  have HS5 := Lib.hid (HS4.out.ag hb5)
  have HF5 := Lib.hid (HF4.out.ag hb5)
  obtain ⟨⟨f0, f1, f2⟩, _⟩ := can3 hx5.k2
  clear hx5 hb5 hf4 hB4 HS4 HF4 HX3 HS3 HX4 HFF
  go_wp2_with (fail)
  go_at_call 13
  refine (HFR.out W5 HX5.out.below).mono ?_
  rintro e w6 ⟨v6, rfl, hr6, _, hB6⟩
  have hD10 : (cutVals l).length ≤ 1000 := by simp [cutVals]; omega
  have hN10 : (ns.take 10).length ≤ 1000 := by simp; omega
  generalize ns.take 10 = ns6 at hr6 hN10
  generalize hDg : cutVals l = D at hr6 hD10
  have hr6q := RowAt.weak hr6 (q := fun b => b < w.heap.size ∨ w.heap.size + 3 ≤ b) (fun b hb => hb.imp id (Nat.le_trans HX5.out.size))
  have HR6 := Lib.hid hr6q
  obtain ⟨vd6, na6, nc6, rfl, _, ⟨da6, dc6, rfl, _, _, _, _⟩, _⟩ := hr6q
  clear x0 x1 x2 x3 x4 x5 z0 z1 z2 z3 z4 z5 f0 f1 f2 hW5 hr6
  have HX6 := Lib.hid (HX5.out.later hB6)
  obtain ⟨⟨x0, x1, x2⟩, z0, z1, z2⟩ := can3 HX6.out.k2
  obtain ⟨W7, hW7, hx7, hb7⟩ := HX6.out.set2 (.int .i64 t) (.slice da6 D.length dc6) (.slice na6 ns6.length nc6)
  have HX7 := Lib.hid hx7
  have HS7 := Lib.hid ((HS5.out.ag (Ag.new _ hB6)).ag hb7)
  have HF7 := Lib.hid ((HF5.out.ag (Ag.new _ hB6)).ag hb7)
  have HR7 := Lib.hid (HR6.out.ag hb7)
  obtain ⟨⟨s0, s1, s2⟩, _⟩ := can3 hx7.k0
  obtain ⟨⟨r0, r1, r2⟩, _⟩ := can3 hx7.k2
  generalize hSg : cutSch s = S at *
  have HOF := Lib.hid (of_any _ _ _ S t D ns6 W7 HS7.out HR7.out hD10 hN10)
  have HKF := Lib.hid (kinds_few f hKf)
  generalize hFg : Fil.few f = F at *
  clear hx7 hb7 hB6 HS5 HF5 HX5 HR6 HX6 HFR hSg hFg hDg HCUT hKf hD10 hN10
  go_wp2_with (fail)
  go_at_call 21
  refine HOF.out.mono ?_
  rintro e w8 ⟨t', vd', i8, x3, x4, x5, rfl, ⟨⟨d8, n8, c8, rfl⟩, ⟨a3, n3, p3, rfl⟩, ⟨a4, n4, p4, rfl⟩, ⟨a5, n5, p5, rfl⟩⟩, hfit, hB8⟩
  clear s0 s1 s2 r0 r1 r2 x0 x1 x2 z0 z1 z2 hW7 HOF
  obtain ⟨W9, hW9⟩ : ∃ W9, w8.alloc (.cells #[.int .i64 t', .slice d8 n8 c8, .int .i64 i8, .slice a3 n3 p3, .slice a4 n4 p4, .slice a5 n5 p5] 51) = W9 := ⟨_, rfl⟩
  obtain ⟨k0, kS, kB⟩ := laid1 w8 (.cells #[.int .i64 t', .slice d8 n8 c8, .int .i64 i8, .slice a3 n3 p3, .slice a4 n4 p4, .slice a5 n5 p5] 51)
  rw [hW9] at k0 kS kB
  have bB := Bt hB8 kB
  have HX9 := Lib.hid (HX7.out.later bB)
  have HS9 := Lib.hid (HS7.out.ag (Ag.new _ bB))
  have HF9 := Lib.hid (HF7.out.ag (Ag.new _ bB))
  have HR9 := Lib.hid (HR7.out.ag (Ag.new _ bB))
  have HV9 := Lib.hid (HV.out.below HX9.out.below)
  have h78 := HX7.out.size
  have HD9 := Lib.hid (fun h => And.intro (hfit h).1 (((hfit h).2.weak (q := fun b => b < w.heap.size ∨ w.heap.size + 3 ≤ b) (fun b hb => .inr (Nat.le_trans h78 hb))).ag (Ag.new _ kB)))
  have HALL := Lib.hid (fun X (hB : Below W9.heap.size W9 X) => And.intro (can3 (HX9.out.later hB).k0).1 (And.intro (can3 (HX9.out.later hB).k2).1 (And.intro (can6 (HX9.out.later hB).k1).1 (can6 ((hB.block _ (by omega)).trans k0)).1)))
  have HCK := Lib.hid (check_any a0 a1 _ _ _ _ S F W9 HV9.out HS9.out HF9.out (by omega) HKF.out)
  obtain ⟨⟨s0, s1, s2⟩, ⟨r0, r1, r2⟩, ⟨f0, f1, f2, f3, f4, f5⟩, c0, c1, c2, c3, c4, c5⟩ := HALL.out W9 (Below.refl _ _)
  have HZ := Lib.hid (fun h => ofCode_zero (s := S) (t := t) (l := D) (n := ns6.length) h)
  generalize ofCode S t D ns6.length = E at HZ
  clear hfit k0 kS kB bB hB8 h78 HS7 HF7 HR7 HX7
  by_cases hE : E = 0
  · have HFIT := Lib.hid (HZ.out hE)
    subst hE
    obtain ⟨htt, hdd⟩ := HD9.out HFIT.out
    have HTT := Lib.hid htt
    have HDD := Lib.hid hdd
    clear htt hdd
    go_wp2_with (fail)
    go_at_call 14
    refine HCK.out.mono ?_
    rintro e wA ⟨rfl, hBA⟩
    clear s0 s1 s2 r0 r1 r2 f0 f1 f2 f3 f4 f5 c0 c1 c2 c3 c4 c5 hW9
    have HBA := Lib.hid hBA
    clear hBA
    obtain ⟨⟨s0, s1, s2⟩, ⟨r0, r1, r2⟩, ⟨f0, f1, f2, f3, f4, f5⟩, c0, c1, c2, c3, c4, c5⟩ := HALL.out wA HBA.out
    by_cases hck : Fil.checkE S F = 0
    · rw [hck]
      have hfits : ((Tess.schOk S = true ∧ 0 ≤ t) ∧ t ≤ 1000000000000) ∧ D.length = S.dims.length := by
        have h := HFIT.out
        unfold Tess.rowFits at h
        simp only [Bool.and_eq_true, decide_eq_true_eq] at h
        exact ⟨h.1.1.1, h.1.1.2⟩
      obtain ⟨⟨⟨hok, ht0⟩, ht1⟩, hlen⟩ := hfits
      have hgr : 1 ≤ S.grain ∧ S.grain ≤ 1000000000 := by
        unfold Tess.schOk at hok
        simp only [Bool.and_eq_true, decide_eq_true_eq] at hok
        exact ⟨hok.1.1.2, hok.1.2⟩
      have hall := ((Fil.check0 S F).1 hck).2.2.2.2
      have heq := Fil.cut_holds S D t ht0 ht1 F.deep F (Nat.le_refl _) hall
      have HGC := Lib.hid (fun W => gCut_any t S.grain W ⟨ht0, ht1⟩ hgr)
      obtain ⟨vdr9, nar9, ncr9, er9, _, hvr9, _⟩ := HR9.out
      obtain ⟨er1, er2, er3⟩ : (Value.int .i64 t = .int .i64 t ∧ Value.slice da6 D.length dc6 = vdr9) ∧ True ∧ True := by simp at er9; exact ⟨⟨rfl, er9.1⟩, trivial, trivial⟩
      have HH1 := Lib.hid (fun X (hX : Below W9.heap.size W9 X) => by
        have := fHolds_any a0 a1 _ 8 _ _ _ S F t D X (HV9.out.below hX) (HS9.out.ag (Ag.new _ hX)) (HF9.out.ag (Ag.new _ hX)) ((er1.2 ▸ hvr9).ag (Ag.new _ hX)) (by omega) HKF.out
        rw [holdsE_ok _ _ _ _ hck hlen] at this
        exact this)
      have HH2 := Lib.hid (fun X (hX : Below W9.heap.size W9 X) => by
        have := fHolds_any a0 a1 _ 8 _ _ _ S F t' D X (HV9.out.below hX) (HS9.out.ag (Ag.new _ hX)) (HF9.out.ag (Ag.new _ hX)) (HDD.out.ag (Ag.new _ hX)) (by omega) HKF.out
        rw [holdsE_ok _ _ _ _ hck hlen, HTT.out, heq, ← HTT.out] at this
        exact this)
      generalize Fil.holds S t D F = b at HH1 HH2
      rw [← HTT.out] at HGC
      clear hok hlen hgr hall heq hck er9 hvr9 er1 er2 er3
      go_wp2_with (fail)
      go_at_call 15
      refine (HH1.out wA HBA.out).mono ?_
      rintro e wB ⟨rfl, hB⟩
      have HBB := Lib.hid (Bt HBA.out hB)
      clear hB s0 s1 s2 r0 r1 r2 f0 f1 f2 f3 f4 f5 c0 c1 c2 c3 c4 c5
      obtain ⟨⟨s0, s1, s2⟩, ⟨r0, r1, r2⟩, ⟨f0, f1, f2, f3, f4, f5⟩, c0, c1, c2, c3, c4, c5⟩ := HALL.out wB HBB.out
      go_wp2_with (fail)
      go_at_call 15
      refine (HH2.out wB HBB.out).mono ?_
      rintro e wC ⟨rfl, hB⟩
      have HBC := Lib.hid (Bt HBB.out hB)
      clear hB s0 s1 s2 r0 r1 r2 f0 f1 f2 f3 f4 f5 c0 c1 c2 c3 c4 c5
      obtain ⟨⟨s0, s1, s2⟩, ⟨r0, r1, r2⟩, ⟨f0, f1, f2, f3, f4, f5⟩, c0, c1, c2, c3, c4, c5⟩ := HALL.out wC HBC.out
      go_wp2_with (fail)
      go_at_call 22
      refine (HGC.out wC).mono ?_
      rintro e wD ⟨rfl, hB⟩
      have HBD := Lib.hid (Bt HBC.out hB)
      clear hB s0 s1 s2 r0 r1 r2 f0 f1 f2 f3 f4 f5 c0 c1 c2 c3 c4 c5
      obtain ⟨_, _, _, c0, c1, c2, c3, c4, c5⟩ := HALL.out wD HBD.out
      cases b <;> go_wp2 <;> go_ret <;> exact ⟨rfl, Bt HX9.out.below HBD.out⟩
    · generalize Fil.checkE S F = c at hck
      have hc' : ((c : Int) == 0) = false := by simpa using hck
      clear hck
      go_wp2
      go_ret
      exact ⟨rfl, Bt HX9.out.below HBA.out⟩
  · have hE1 : (E == 0) = false := beq_eq_false_iff_ne.2 hE
    have hE2 : (E != 0) = true := bne_iff_ne.2 hE
    clear hE
    go_wp2
    go_ret
    exact ⟨rfl, HX9.out.below⟩
theorem FilterGrain_any (a0 a1 : Addr) (w : World) (hV : Vars a0 a1 w) {n : Nat} {vs vf vr : Value} {s : Tess.Sch} {f : Fil} {t : Int} {l : List Tess.Val} {ns : List Int} (hs : SchAt (fun _ => True) w vs s) (hf : FilAt (fun _ => True) n w vf f) (hKf : kindsOk f) (hr : RowAt (fun _ => True) w vr t l ns) :
    Calls Tryd.prog 6 #[vs, vf, vr] w fun e w' => e = .returned (.bool true) ∧ Below w.heap.size w w' :=
  grain_any a0 a1 _ n vs vf vr s f t l ns w hV hs hf hr hKf
end Go.Proofs.YtdfnolgcdododaaDoor
