/- FilterParts, walked. -/
import Derived.Test.YtdfnolgcdododaaDoorF41
import Derived.Test.YtdfnolgcdododaaDoorF42p
namespace Go.Proofs.YtdfnolgcdododaaDoor
open Go.RowKit Go.Sort
open Tess (Fil)
open Tess.Fil (leaf)

theorem bl_same (x w : ByteArray) : (!Tess.bl x w && !Tess.bl w x) = decide (x = w) := by
  by_cases h : x = w
  · subst h; rw [Tess.bl_irrefl]; simp
  · rw [decide_eq_false h]
    cases h1 : Tess.bl x w
    · cases h2 : Tess.bl w x
      · exact absurd (Tess.bl_antisymm h1 h2) h
      · rfl
    · rfl
/-- A cell set to what it is. -/
theorem set_same {W : World} {b o : Nat} {cs : Array Value} {t : TypeId} {f : Nat × Nat} {v : Value} (h : W.heap[b]? = some (.cells cs t f)) (hv : cs[o]? = some v) : W.setCell ⟨b, o, none⟩ v = W := by
  have e : (W.setCell ⟨b, o, none⟩ v).heap = W.heap := by
    apply Array.ext_getElem?
    intro k
    simp only [World.setCell, Array.getElem?_modify]
    by_cases hk : b = k
    · subst hk
      rw [if_pos rfl, h]
      simp only [Option.map_some, Option.isSome_none]
      congr 2
      apply Array.ext_getElem?
      intro j
      rw [if_neg (by simp), Array.getElem?_setIfInBounds]
      split
      · rename_i hj
        subst hj
        split
        · exact hv.symm
        · rename_i hn; exact absurd (Array.getElem?_eq_some_iff.1 hv).1 hn
      · rfl
    · rw [if_neg hk]
  cases W
  simp only [World.setCell] at e ⊢
  rw [e]
/-- The law's two boxes: a schema, a row. -/
structure Bp (w : World) (c0 c1 : Array Value) (W : World) : Prop where
  k0 : W.heap[w.heap.size]? = some (.cells c0 24 (0, 0))
  k1 : W.heap[w.heap.size + 1]? = some (.cells c1 33 (0, 0))
  below : Below w.heap.size w W
  size : w.heap.size + 2 ≤ W.heap.size
theorem Bp.later {w W W' : World} {c0 c1 : Array Value} (h : Bp w c0 c1 W) (hb : Below W.heap.size W W') : Bp w c0 c1 W' :=
  have := h.size
  ⟨(hb.block _ (by omega)).trans h.k0, (hb.block _ (by omega)).trans h.k1, Bt h.below hb, Nat.le_trans h.size hb.size⟩
theorem Bp.set0 {w W : World} {x0 x1 x2 : Value} {c1 : Array Value} (y0 y1 y2 : Value) (h : Bp w #[x0, x1, x2] c1 W) :
    ∃ W3, (((W.setCell ⟨w.heap.size, 0, none⟩ y0).setCell ⟨w.heap.size, 1, none⟩ y1).setCell ⟨w.heap.size, 2, none⟩ y2) = W3 ∧ Bp w #[y0, y1, y2] c1 W3 ∧ Ag (fun b => b < w.heap.size ∨ w.heap.size + 2 ≤ b) W W3 := by
  obtain ⟨W3, e, q0, qo, qs, qB⟩ := box3 y0 y1 y2 h.k0 h.below (Nat.le_refl _)
  exact ⟨W3, e, ⟨q0, (qo _ (by omega)).trans h.k1, qB, by rw [qs]; exact h.size⟩, by rw [qs]; exact Nat.le_refl _, fun b _ hb => qo b (by omega)⟩
theorem Bp.set1 {w W : World} {x0 x1 x2 : Value} {c0 : Array Value} (y0 y1 y2 : Value) (h : Bp w c0 #[x0, x1, x2] W) :
    ∃ W3, (((W.setCell ⟨w.heap.size + 1, 0, none⟩ y0).setCell ⟨w.heap.size + 1, 1, none⟩ y1).setCell ⟨w.heap.size + 1, 2, none⟩ y2) = W3 ∧ Bp w c0 #[y0, y1, y2] W3 ∧ Ag (fun b => b < w.heap.size ∨ w.heap.size + 2 ≤ b) W W3 := by
  obtain ⟨W3, e, q0, qo, qs, qB⟩ := box3 y0 y1 y2 h.k1 h.below (by omega)
  exact ⟨W3, e, ⟨(qo _ (by omega)).trans h.k0, q0, qB, by rw [qs]; exact h.size⟩, by rw [qs]; exact Nat.le_refl _, fun b _ hb => qo b (by omega)⟩
theorem leaf_at {q : Nat → Prop} {W : World} (k : Int) {nm : ByteArray} {v : Value} {ws : List ByteArray} (hn : nm.size ≤ maxLen) (h : SlP q W v (ws.map .string)) (hz : ∀ x ∈ ws, x.size ≤ 100) :
    FilAt q 1 W (.agg #[.int .i64 k, .string nm, v, .int .i64 0, .int .i64 0, .slice none 0 0]) (leaf k nm ws) :=
  ⟨_, _, _, rfl, hn, h, fun x hx => Nat.le_trans (hz x hx) (by decide), Nat.zero_le _, fun _ => rfl, fun h => absurd h (by simp [Fil.l, leaf])⟩
theorem leaf_kinds (k : Int) (nm : ByteArray) (ws : List ByteArray) (hk : -9223372036854775808 ≤ k ∧ k ≤ 9223372036854775807) : kindsOk (leaf k nm ws) := by
  unfold kindsOk
  rw [Fil.allP_eq]
  simp [leaf, Fil.kind, Fil.l, hk.1, hk.2]
theorem row_at {q : Nat → Prop} {w : World} {b : Nat} {t : TypeId} (l : List Value) (h : w.heap[b]? = some (.cells l.toArray t (0, 0))) (h0 : l.length ≤ maxLen) (hq : q b) : SlP q w (.slice (some ⟨b, 0, none⟩) l.length l.length) l :=
  ⟨⟨h0, _, _, rfl, fun _ => ⟨b, 0, rfl, (Array.getElem?_eq_some_iff.1 h).1, fun j hj => by rw [Nat.zero_add, cell_of_row w b j _ _ _ h]; simp [hj]⟩⟩, fun _ c e => by cases e; exact hq, fun n c e => by cases e⟩
theorem cutP_min (n : Nat) (s : ByteArray) : s.extract 0 (min s.size n) = cutN n s := by
  by_cases h : s.size ≤ n
  · rw [Nat.min_eq_left h, cutN_self n s h]; exact cutN_self s.size s (Nat.le_refl _)
  · rw [Nat.min_eq_right (by omega)]; rfl
theorem strP_dec (x y : ByteArray) (b : Bool) (h : (x.toList == y.toList) = b) : decide (x = y) = b := by
  cases b
  · exact decide_eq_false (str_ne' h)
  · exact decide_eq_true (str_eq' h)

set_option maxRecDepth 100000 in
set_option maxHeartbeats 4000000 in
theorem parts_any (a0 a1 : Addr) (p : Nat → Prop) (vs vr : Value) (s : Tess.Sch) (t : Int) (l : List Tess.Val) (ns : List Int) (ww : ByteArray) (dim : Int) (w : World) (hV : Vars a0 a1 w) (hs : SchAt p w vs s) (hr : RowAt p w vr t l ns) (hwz : ww.size ≤ maxLen) (hdm : -9223372036854775808 ≤ dim ∧ dim ≤ 9223372036854775807) :
    Calls Tryd.prog 7 #[vs, vr, .string ww, .int .i64 dim] w fun e w' => e = .returned (.bool true) ∧ Below w.heap.size w w' := by
  have HV := Lib.hid hV
  have HCUT := Lib.hid (fun W (hB : Below w.heap.size w W) => cutSch_any vs s W p (hs.ag (Ag.new p hB)))
  have HFR := Lib.hid (fun W (hB : Below w.heap.size w W) => fewRow_any (fun b => b < w.heap.size) vr t l ns W (hr.low.ag (Ag.new _ hB)))
  obtain ⟨vd, vm, rfl, hd, hm, _, _⟩ := hs
  obtain ⟨ad, capd, rfl, _⟩ := slp_len hd
  obtain ⟨am, capm, rfl, _⟩ := slp_len hm
  obtain ⟨vdr, na, nc, rfl, _, ⟨da, dc, rfl, _, _, _, _⟩, _⟩ := hr
  clear hd hm hV
  obtain ⟨W0, hW0⟩ : ∃ W0, (w.alloc (.cells #[.slice ad s.dims.length capd, .slice am s.mets.length capm, .int .i64 s.grain] 24)).alloc (.cells #[.int .i64 t, .slice da l.length dc, .slice na ns.length nc] 33) = W0 := ⟨_, rfl⟩
  obtain ⟨h0, h1, hS, hB⟩ := laid2 w (.cells #[.slice ad s.dims.length capd, .slice am s.mets.length capm, .int .i64 s.grain] 24) (.cells #[.int .i64 t, .slice da l.length dc, .slice na ns.length nc] 33)
  rw [hW0] at h0 h1 hS hB
  have HSH := Lib.hid (shown_any a0 a1 W0 (HV.out.below hB))
  have HX0 := Lib.hid (show Bp w _ _ W0 from ⟨h0, h1, hB, by omega⟩)
  clear h0 h1 hB hS
  go_enter Tryd.func7, Tryd.ntmps7
  go_wp2_with (go_at_call 10; refine HSH.out.mono ?_; rintro e w1 ⟨rfl, hB1⟩; have HX1 := Lib.hid (HX0.out.later hB1); obtain ⟨⟨x0, x1, x2⟩, _⟩ := can3 HX1.out.k0; clear hB1 hW0 HSH HX0)
  go_at_call 11
  refine (HCUT.out w1 HX1.out.below).mono ?_
  rintro e w2 ⟨v2, rfl, hs2, hB2⟩
  clear x0 x1 x2
  obtain ⟨vd2, vm2, rfl, hd2, hm2, hz2⟩ := hs2
  have HDN := Lib.hid hz2.1
  obtain ⟨ad2, capd2, rfl, _⟩ := slp_len hd2
  obtain ⟨am2, capm2, rfl, _⟩ := slp_len hm2
  have HX2 := Lib.hid (HX1.out.later hB2)
  obtain ⟨⟨x0, x1, x2⟩, z0, z1, z2⟩ := can3 HX2.out.k0
  obtain ⟨W3, hW3, hx3, hb3⟩ := HX2.out.set0 (.slice ad2 (cutSch s).dims.length capd2) (.slice am2 (cutSch s).mets.length capm2) (.int .i64 (cutSch s).grain)
  have HX3 := Lib.hid hx3
  have HS3 := Lib.hid (show SchAt (fun b => b < w.heap.size ∨ w.heap.size + 2 ≤ b) W3 (.agg #[.slice ad2 (cutSch s).dims.length capd2, .slice am2 (cutSch s).mets.length capm2, .int .i64 (cutSch s).grain]) (cutSch s) from (SchAt.weak ⟨_, _, rfl, hd2, hm2, hz2⟩ (fun b hb => .inr (Nat.le_trans HX1.out.size hb))).ag hb3)
  obtain ⟨⟨f0, f1, f2⟩, _⟩ := can3 HX3.out.k1
  clear hx3 hb3 hd2 hm2 hz2 HX1 hB2
  go_wp2_with (fail)
  go_at_call 13
  refine (HFR.out W3 HX3.out.below).mono ?_
  rintro e w4 ⟨v4, rfl, hr4, _, hB4⟩
  have hD10 : (cutVals l).length ≤ 1000 := by simp [cutVals]; omega
  have hN10 : (ns.take 10).length ≤ 1000 := by simp; omega
  generalize ns.take 10 = ns4 at hr4 hN10
  generalize hDg : cutVals l = D at hr4 hD10
  have hr4q := RowAt.weak hr4 (q := fun b => b < w.heap.size ∨ w.heap.size + 2 ≤ b) (fun b hb => hb.imp id (Nat.le_trans HX3.out.size))
  have HR4 := Lib.hid hr4q
  obtain ⟨vd4, na4, nc4, rfl, _, ⟨da4, dc4, rfl, _, _, _, _⟩, _⟩ := hr4q
  clear x0 x1 x2 z0 z1 z2 f0 f1 f2 hW3 hr4
  have HX4 := Lib.hid (HX3.out.later hB4)
  obtain ⟨⟨x0, x1, x2⟩, z0, z1, z2⟩ := can3 HX4.out.k1
  obtain ⟨W5, hW5, hx5, hb5⟩ := HX4.out.set1 (.int .i64 t) (.slice da4 D.length dc4) (.slice na4 ns4.length nc4)
  have HX5 := Lib.hid hx5
  have HS5 := Lib.hid ((HS3.out.ag (Ag.new _ hB4)).ag hb5)
  have HR5 := Lib.hid (HR4.out.ag hb5)
  obtain ⟨⟨s0, s1, s2⟩, _⟩ := can3 hx5.k0
  obtain ⟨⟨r0, r1, r2⟩, _⟩ := can3 hx5.k1
  generalize hSg : cutSch s = S at *
  have HOF := Lib.hid (of_any _ _ _ S t D ns4 W5 HS5.out HR5.out hD10 hN10)
  clear hx5 hb5 hB4 HS3 HX3 HR4 HX4 HFR hSg hDg HCUT hD10 hN10
  go_wp2_with (fail)
  go_at_call 21
  refine HOF.out.mono ?_
  rintro e w8 ⟨t', vd', i8, x3, x4, x5, rfl, ⟨⟨d8, n8, c8, rfl⟩, ⟨a3, n3, p3, rfl⟩, ⟨a4, n4, p4, rfl⟩, ⟨a5, n5, p5, rfl⟩⟩, hfit, hB8⟩
  clear s0 s1 s2 r0 r1 r2 x0 x1 x2 z0 z1 z2 hW5 HOF
  obtain ⟨W9, hW9⟩ : ∃ W9, w8.alloc (.cells #[.int .i64 t', .slice d8 n8 c8, .int .i64 i8, .slice a3 n3 p3, .slice a4 n4 p4, .slice a5 n5 p5] 51) = W9 := ⟨_, rfl⟩
  obtain ⟨k0, kS, kB⟩ := laid1 w8 (.cells #[.int .i64 t', .slice d8 n8 c8, .int .i64 i8, .slice a3 n3 p3, .slice a4 n4 p4, .slice a5 n5 p5] 51)
  rw [hW9] at k0 kS kB
  have bB := Bt hB8 kB
  have HX9 := Lib.hid (HX5.out.later bB)
  have HS9 := Lib.hid (HS5.out.ag (Ag.new _ bB))
  have HV9 := Lib.hid (HV.out.below HX9.out.below)
  have h78 := HX5.out.size
  have HD9 := Lib.hid (fun h => And.intro (hfit h).1 (((hfit h).2.weak (q := fun b => b < w.heap.size ∨ w.heap.size + 2 ≤ b) (fun b hb => .inr (Nat.le_trans h78 hb))).ag (Ag.new _ kB)))
  have HK0 := Lib.hid k0
  have HB9 := Lib.hid (show w8.heap.size < W9.heap.size by omega)
  obtain ⟨⟨s0, s1, s2⟩, _⟩ := can3 HX9.out.k0
  have HZ := Lib.hid (fun h => ofCode_zero (s := S) (t := t) (l := D) (n := ns4.length) h)
  generalize ofCode S t D ns4.length = E at HZ
  clear hfit k0 kS kB bB hB8 h78 HS5 HR5 HX5
  by_cases hE : E = 0
  · have HFIT := Lib.hid (HZ.out hE)
    subst hE
    obtain ⟨htt, hdd⟩ := HD9.out HFIT.out
    have HDD := Lib.hid hdd
    clear htt hdd
    by_cases hd0 : dim < 0
    · have hd0' : decide (dim < 0) = true := decide_eq_true hd0
      go_wp2
      go_ret
      exact ⟨rfl, HX9.out.below⟩
    obtain ⟨k, rfl⟩ : ∃ k : Nat, dim = k := ⟨dim.toNat, by omega⟩
    have hd0' : decide ((k : Int) < 0) = false := decide_eq_false hd0
    clear hd0
    by_cases hd1 : S.dims.length ≤ k
    · have hd1' : decide (S.dims.length ≤ k) = true := decide_eq_true hd1
      go_wp2
      go_ret
      exact ⟨rfl, HX9.out.below⟩
    have hd1' : decide (S.dims.length ≤ k) = false := decide_eq_false hd1
    have hk : k < S.dims.length := by omega
    obtain ⟨m, hm⟩ : ∃ m, m = min ww.size 100 := ⟨_, rfl⟩
    have hmi : min (ww.size : Int) 100 = (m : Int) := by omega
    have hmc : (m : Int) ≤ (ww.size : Int) := by omega
    have hw7 : ww.size ≤ 9223372036854775807 := by unfold maxLen at hwz; omega
    obtain ⟨x, hx⟩ : ∃ x, ww.extract 0 m = x := ⟨_, rfl⟩
    have hx100 : x.size ≤ 100 := by rw [← hx, hm, cutP_min]; exact cutN_size 100 ww
    have HX100 := Lib.hid hx100
    have hnz := HDN.out _ (List.getElem_mem hk)
    obtain ⟨nm, hnm⟩ : ∃ nm, nm = S.dims[k] := ⟨_, rfl⟩
    rw [← hnm] at hnz
    have HNM := Lib.hid hnm
    have HNZ := Lib.hid hnz
    have HSD : RowKit.Hid (∃ b off, ad2 = some ⟨b, off, none⟩ ∧ b < W9.heap.size ∧ W9.cell? ⟨b, off + k, none⟩ = some (.string nm)) := Lib.hid (by
      obtain ⟨vd', vm', e, hd, _, _⟩ := HS9.out
      obtain ⟨a', cap', e1, _, hc⟩ := sls_open hd.1
      simp at e
      obtain ⟨rfl, _⟩ := e
      cases e1
      obtain ⟨b, off, ha, hb, h⟩ := hc k hk
      exact ⟨b, off, ha, hb, hnm ▸ h⟩)
    obtain ⟨sb, so, rfl, hsb, hsc⟩ := HSD.out
    obtain ⟨hok, hlen⟩ : Tess.schOk S = true ∧ D.length = S.dims.length := by
      have h := HFIT.out
      unfold Tess.rowFits at h
      simp only [Bool.and_eq_true, decide_eq_true_eq] at h
      exact ⟨h.1.1.1.1.1, h.1.1.2⟩
    have hdim := Tess.dimW_at S hok k hk
    rw [← hnm] at hdim
    have hkD : k < D.length := by omega
    obtain ⟨dv, hdv⟩ : ∃ dv, dv = D[k] := ⟨_, rfl⟩
    have hget : D.getD (Tess.dimW S nm).1 ⟨ByteArray.empty, false⟩ = dv := by rw [hdim, hdv]; simp [hkD]
    have HV0 : RowKit.Hid (∃ b off, d8 = some ⟨b, off, none⟩ ∧ n8 = D.length ∧ b < W9.heap.size ∧ W9.cell? ⟨b, off + k * 2, none⟩ = some (.string dv.s) ∧ W9.cell? ⟨b, off + k * 2 + 1, none⟩ = some (.bool dv.null)) := Lib.hid (by
      obtain ⟨a', cap, e, _, _, _, hc⟩ := HDD.out
      simp only [Value.slice.injEq] at e
      obtain ⟨rfl, rfl, rfl⟩ := e
      obtain ⟨b, off, ha, hb, _, h⟩ := hc (by omega)
      exact ⟨b, off, ha, rfl, hb, hdv ▸ h k hkD⟩)
    obtain ⟨db, dof, rfl, rfl, hdb, hdc0, hdc1⟩ := HV0.out
    have HDC := Lib.hid (And.intro hdc0 hdc1)
    obtain ⟨WA, hWA⟩ : ∃ WA, (W9.alloc (.cells #[.string x] 9)).alloc (.cells #[.int .i64 2, .string nm, .slice (some ⟨W9.heap.size, 0, none⟩) 1 1, .int .i64 0, .int .i64 0, .slice none 0 0] 29) = WA := ⟨_, rfl⟩
    obtain ⟨pA, rA, sA, bA⟩ := laid2 W9 (.cells #[.string x] 9) (.cells #[.int .i64 2, .string nm, .slice (some ⟨W9.heap.size, 0, none⟩) 1 1, .int .i64 0, .int .i64 0, .slice none 0 0] 29)
    rw [hWA] at pA rA sA bA
    have eA : WA.heap.size = W9.heap.size + 1 + 1 := by omega
    obtain ⟨WB, hWB⟩ : ∃ WB, WA.alloc (.cells #[.int .i64 3, .string nm, .slice none 0 0, .int .i64 0, .int .i64 0, .slice none 0 0] 29) = WB := ⟨_, rfl⟩
    obtain ⟨rB, sB, bB⟩ := laid1 WA (.cells #[.int .i64 3, .string nm, .slice none 0 0, .int .i64 0, .int .i64 0, .slice none 0 0] 29)
    rw [hWB] at rB sB bB
    have eB : WB.heap.size = W9.heap.size + 1 + 1 + 1 := by omega
    rw [eA] at rB
    obtain ⟨WC, hWC⟩ : ∃ WC, (WB.alloc (.cells #[.string ⟨#[]⟩] 9)).alloc (.cells #[.int .i64 4, .string nm, .slice (some ⟨WB.heap.size, 0, none⟩) 1 1, .int .i64 0, .int .i64 0, .slice none 0 0] 29) = WC := ⟨_, rfl⟩
    obtain ⟨pC, rC, sC, bC⟩ := laid2 WB (.cells #[.string ⟨#[]⟩] 9) (.cells #[.int .i64 4, .string nm, .slice (some ⟨WB.heap.size, 0, none⟩) 1 1, .int .i64 0, .int .i64 0, .slice none 0 0] 29)
    rw [hWC] at pC rC sC bC
    have eC : WC.heap.size = W9.heap.size + 1 + 1 + 1 + 1 + 1 := by omega
    rw [eB] at pC rC
    obtain ⟨WD, hWD⟩ : ∃ WD, (WC.alloc (.cells #[.string x, .string x] 9)).alloc (.cells #[.int .i64 5, .string nm, .slice (some ⟨WC.heap.size, 0, none⟩) 2 2, .int .i64 0, .int .i64 0, .slice none 0 0] 29) = WD := ⟨_, rfl⟩
    obtain ⟨pD, rD, sD, bD⟩ := laid2 WC (.cells #[.string x, .string x] 9) (.cells #[.int .i64 5, .string nm, .slice (some ⟨WC.heap.size, 0, none⟩) 2 2, .int .i64 0, .int .i64 0, .slice none 0 0] 29)
    rw [hWD] at pD rD sD bD
    rw [eC] at pD rD
    have hN : (((((((W9.alloc (.cells #[.string x] 9)).alloc (.cells #[.int .i64 2, .string nm, .slice (some ⟨W9.heap.size, 0, none⟩) 1 1, .int .i64 0, .int .i64 0, .slice none 0 0] 29)).alloc (.cells #[.int .i64 3, .string nm, .slice none 0 0, .int .i64 0, .int .i64 0, .slice none 0 0] 29)).alloc (.cells #[.string ⟨#[]⟩] 9)).alloc (.cells #[.int .i64 4, .string nm, .slice (some ⟨W9.heap.size + 1 + 1 + 1, 0, none⟩) 1 1, .int .i64 0, .int .i64 0, .slice none 0 0] 29)).alloc (.cells #[.string x, .string x] 9)).alloc (.cells #[.int .i64 5, .string nm, .slice (some ⟨W9.heap.size + 1 + 1 + 1 + 1 + 1, 0, none⟩) 2 2, .int .i64 0, .int .i64 0, .slice none 0 0] 29)) = WD := by rw [← eC, ← eB, hWA, hWB, hWC, hWD]
    clear hWA hWB hWC hWD
    obtain ⟨⟨_, _, dc2, dc3, dc4, dc5⟩, _, _, dz2, dz3, dz4, dz5⟩ := can6 rD
    have ds3 := set_same (o := 3) (v := .int .i64 0) rD rfl
    have ds4 := set_same (o := 4) (v := .int .i64 0) rD rfl
    have ds5 := set_same (o := 5) (v := .slice none 0 0) rD rfl
    have bAB := Bt bA bB
    have bCD := Bt bC bD
    have bBD := Bt bB bCD
    have bAD := Bt bA bBD
    have qA := (bBD.block _ (Array.getElem?_eq_some_iff.1 pA).1).trans pA
    have qrA := (bBD.block _ (Array.getElem?_eq_some_iff.1 rA).1).trans rA
    have qrB := (bCD.block _ (Array.getElem?_eq_some_iff.1 rB).1).trans rB
    have qC := (bD.block _ (Array.getElem?_eq_some_iff.1 pC).1).trans pC
    have qrC := (bD.block _ (Array.getElem?_eq_some_iff.1 rC).1).trans rC
    have h9 := HX9.out.size
    have hx1 : ∀ y ∈ [x], y.size ≤ 100 := fun y hy => by rcases List.mem_cons.1 hy with rfl | h; exact hx100; cases h
    have hx2 : ∀ y ∈ [x, x], y.size ≤ 100 := fun y hy => by rcases List.mem_cons.1 hy with rfl | h; exact hx100; rcases List.mem_cons.1 h with rfl | h; exact hx100; cases h
    have hx0 : ∀ y ∈ [ByteArray.empty], y.size ≤ 100 := fun y hy => by rcases List.mem_cons.1 hy with rfl | h; exact Nat.zero_le _; cases h
    have lA := leaf_at (q := fun b => b < w.heap.size ∨ w.heap.size + 2 ≤ b) 2 hnz (row_at [.string x] qA (by show 1 ≤ maxLen; decide) (.inr (by omega))) hx1
    have lB := leaf_at (q := fun b => b < w.heap.size ∨ w.heap.size + 2 ≤ b) (W := WD) 3 hnz (SlP.nil _ _) (ws := []) (fun y hy => by cases hy)
    have lC := leaf_at (q := fun b => b < w.heap.size ∨ w.heap.size + 2 ≤ b) 4 hnz (row_at [.string ByteArray.empty] qC (by decide) (.inr (by omega))) (ws := [ByteArray.empty]) hx0
    have lD := leaf_at (q := fun b => b < w.heap.size ∨ w.heap.size + 2 ≤ b) 5 hnz (row_at [.string x, .string x] pD (by show 2 ≤ maxLen; decide) (.inr (by omega))) (ws := [x, x]) hx2
    have hd2 : (Tess.dimW S nm).2 = true := by rw [hdim]
    have kA := Fil.leaf_check S 2 nm [x] hok (by decide) (1, 8) rfl hd2 ⟨by simp, by simp⟩ hx1
    have kB := Fil.leaf_check S 3 nm [] hok (by decide) (0, 0) rfl hd2 ⟨by decide, by decide⟩ (fun y hy => by cases hy)
    have kC := Fil.leaf_check S 4 nm [ByteArray.empty] hok (by decide) (1, 1) rfl hd2 ⟨by decide, by decide⟩ hx0
    have kD := Fil.leaf_check S 5 nm [x, x] hok (by decide) (2, 2) rfl hd2 ⟨by simp, by simp⟩ hx2
    have HH := Lib.hid (fun (kk : Int) (ws : List ByteArray) (v : Value) (hF : FilAt (fun b => b < w.heap.size ∨ w.heap.size + 2 ≤ b) 1 WD v (leaf kk nm ws)) (hkk : -9223372036854775808 ≤ kk ∧ kk ≤ 9223372036854775807) (hc : Fil.checkE S (leaf kk nm ws) = 0) X (hX : Below WD.heap.size WD X) => by
      have hXX := Bt bAD hX
      have := fHolds_any a0 a1 _ 1 _ _ _ S (leaf kk nm ws) t' D X (HV9.out.below hXX) (HS9.out.ag (Ag.new _ hXX)) (hF.ag (Ag.new _ hX)) (HDD.out.ag (Ag.new _ hXX)) (by omega) (leaf_kinds kk nm ws hkk)
      rw [holdsE_ok _ _ _ _ hc hlen] at this
      exact this)
    have HA := Lib.hid (HH.out 2 [x] _ lA (by decide) kA)
    have HBB := Lib.hid (HH.out 3 [] _ lB (by decide) kB)
    have HC := Lib.hid (HH.out 4 [ByteArray.empty] _ lC (by decide) kC)
    have HD := Lib.hid (HH.out 5 [x, x] _ lD (by decide) kD)
    rw [Fil.leaf_is S t' D nm dv x hget] at HA
    rw [Fil.leaf_none S t' D nm dv hget] at HBB
    rw [Fil.leaf_prefix S t' D nm dv hget] at HC
    rw [Fil.leaf_one S t' D nm dv x hget (bl_same _ _)] at HD
    have HALL := Lib.hid (fun X (hB : Below WD.heap.size WD X) => And.intro (can3 (HX9.out.later (Bt bAD hB)).k0).1 (And.intro (can6 (((Bt bAD hB).block _ HB9.out).trans HK0.out)).1 (And.intro (can6 ((hB.block _ (Array.getElem?_eq_some_iff.1 qrA).1).trans qrA)).1 (And.intro (can6 ((hB.block _ (Array.getElem?_eq_some_iff.1 qrB).1).trans qrB)).1 (And.intro (can6 ((hB.block _ (Array.getElem?_eq_some_iff.1 qrC).1).trans qrC)).1 (And.intro (can6 ((hB.block _ (Array.getElem?_eq_some_iff.1 rD).1).trans rD)).1 (And.intro (((Bt bAD hB).cell (p := ⟨db, dof + k * 2, none⟩) hdb).trans HDC.out.1) (((Bt bAD hB).cell (p := ⟨db, dof + k * 2 + 1, none⟩) hdb).trans HDC.out.2))))))))
    have HBX := Lib.hid (Bt HX9.out.below bAD)
    have HLEN := Lib.hid hlen
    obtain ⟨⟨t0, t1, t2⟩, ⟨c0, c1, c2, c3, c4, c5⟩, ⟨f0, f1, f2, f3, f4, f5⟩, _⟩ := HALL.out WD (Below.refl _ _)
    clear eA eB eC pA rA sA bA rB sB pC rC sC bC pD rD sD bD bAB bCD bBD bAD qA qrA qrB qC qrC h9 hx1 hx2 hx0 lA lB lC lD hd2 kA kB kC kD HH hget hdim hok hlen hdv hnm hnz hdc0 hdc1 HV0 HSD hm hx100 hd1
    go_wp2_with (fail)
    clear s0 s1 s2 hN ds3 ds4 ds5 dc2 dc3 dc4 dc5 dz2 dz3 dz4 dz5 hW9 hsc hmi hmc hx
    go_at_call 15
    refine (HA.out WD (Below.refl _ _)).mono ?_
    rintro e wE ⟨rfl, hB⟩
    have HBwE := Lib.hid (Bt (Below.refl _ _) hB)
    clear hB t0 t1 t2 c0 c1 c2 c3 c4 c5 f0 f1 f2 f3 f4 f5
    obtain ⟨⟨t0, t1, t2⟩, ⟨c0, c1, c2, c3, c4, c5⟩, _, ⟨f0, f1, f2, f3, f4, f5⟩, _⟩ := HALL.out wE HBwE.out
    go_wp2_with (fail)
    go_at_call 15
    refine (HBB.out wE HBwE.out).mono ?_
    rintro e wF ⟨rfl, hB⟩
    have HBwF := Lib.hid (Bt HBwE.out hB)
    clear hB t0 t1 t2 c0 c1 c2 c3 c4 c5 f0 f1 f2 f3 f4 f5
    obtain ⟨⟨t0, t1, t2⟩, ⟨c0, c1, c2, c3, c4, c5⟩, _, _, ⟨f0, f1, f2, f3, f4, f5⟩, _⟩ := HALL.out wF HBwF.out
    go_wp2_with (fail)
    go_at_call 15
    refine (HC.out wF HBwF.out).mono ?_
    rintro e wG ⟨rfl, hB⟩
    have HBwG := Lib.hid (Bt HBwF.out hB)
    clear hB t0 t1 t2 c0 c1 c2 c3 c4 c5 f0 f1 f2 f3 f4 f5
    obtain ⟨⟨t0, t1, t2⟩, ⟨c0, c1, c2, c3, c4, c5⟩, _, _, _, ⟨f0, f1, f2, f3, f4, f5⟩, _⟩ := HALL.out wG HBwG.out
    go_wp2_with (fail)
    go_at_call 15
    refine (HD.out wG HBwG.out).mono ?_
    rintro e wH ⟨rfl, hB⟩
    have HBwH := Lib.hid (Bt HBwG.out hB)
    clear hB t0 t1 t2 c0 c1 c2 c3 c4 c5 f0 f1 f2 f3 f4 f5
    obtain ⟨_, ⟨c0, c1, c2, c3, c4, c5⟩, _, _, _, _, v0, v1⟩ := HALL.out wH HBwH.out
    have hle : ¬ (D.length : Int) ≤ (k : Int) := by omega
    have hle' : decide (D.length ≤ k) = false := decide_eq_false (by omega)
    have hkDi : (k : Int) < (D.length : Int) := by omega
    cases hnu : dv.null
    all_goals
      rw [hnu] at v1
      cases he : (dv.s.toList == x.toList)
      all_goals
        have HQ := Lib.hid (strP_dec _ _ _ he)
        rw [HQ.out]
        go_wp2
        go_ret
        exact ⟨rfl, (Bt HBX.out HBwH.out).alloc (Bt HBX.out HBwH.out).size _⟩
  · have hE1 : (E == 0) = false := beq_eq_false_iff_ne.2 hE
    have hE2 : (E != 0) = true := bne_iff_ne.2 hE
    clear hE
    go_wp2
    go_ret
    exact ⟨rfl, HX9.out.below⟩
theorem FilterParts_any (a0 a1 : Addr) (ww : ByteArray) (dim : Int) (w : World) (hV : Vars a0 a1 w) {vs vr : Value} {s : Tess.Sch} {t : Int} {l : List Tess.Val} {ns : List Int} (hs : SchAt (fun _ => True) w vs s) (hr : RowAt (fun _ => True) w vr t l ns) (hw : ww.size ≤ maxLen) (hdm : (Lit.int .i64 dim).wf = true) :
    Calls Tryd.prog 7 #[vs, vr, .string ww, .int .i64 dim] w fun e w' => e = .returned (.bool true) ∧ Below w.heap.size w w' :=
  parts_any a0 a1 _ vs vr s t l ns ww dim w hV hs hr hw (by have h := hdm; simp only [Lit.wf, Bool.and_eq_true, decide_eq_true_eq] at h; exact ⟨h.1, h.2⟩)
end Go.Proofs.YtdfnolgcdododaaDoor
