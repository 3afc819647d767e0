/- FilterTruths, walked. -/
import Derived.Test.YtdfnolgcdododaaDoorF32
namespace Go.Proofs.YtdfnolgcdododaaDoor
open Go.RowKit Go.Sort
open Tess (Fil)

set_option maxRecDepth 100000 in
set_option maxHeartbeats 4000000 in
theorem truths_any (a0 a1 : Addr) (p : Nat → Prop) (n m : Nat) (vs vf vg vr : Value) (s : Tess.Sch) (f g : Fil) (t : Int) (l : List Tess.Val) (ns : List Int) (w : World) (hV : Vars a0 a1 w) (hs : SchAt p w vs s) (hf : FilAt p n w vf f) (hg : FilAt p m w vg g) (hr : RowAt p w vr t l ns) (hKf : kindsOk f) (hKg : kindsOk g) :
    Calls Tryd.prog 3 #[vs, vf, vg, vr] w fun e w' => e = .returned (.bool true) ∧ Below w.heap.size w w' := by
  have HV := Lib.hid hV
  have HCUT := Lib.hid (fun W (hB : Below w.heap.size w W) => cutSch_any vs s W p (hs.ag (Ag.new p hB)))
  have HFF := Lib.hid (fun W (hB : Below w.heap.size w W) => few_any p n vf f W (hf.ag (Ag.new p hB)))
  have HFG := Lib.hid (fun W (hB : Below w.heap.size w W) => few_any p m vg g W (hg.ag (Ag.new p hB)))
  have HFR := Lib.hid (fun W (hB : Below w.heap.size w W) => fewRow_any p vr t l ns W (hr.ag (Ag.new p hB)))
  obtain ⟨vd, vm, rfl, hd, hm, _, _⟩ := hs
  obtain ⟨ad, capd, rfl, _⟩ := slp_len hd
  obtain ⟨am, capm, rfl, _⟩ := slp_len hm
  obtain ⟨fa, fn, fc, fla, flc, rfl⟩ := hf.shape6
  obtain ⟨ga, gn, gc, gla, glc, rfl⟩ := hg.shape6
  obtain ⟨vdr, na, nc, rfl, _, ⟨da, dc, rfl, _, _, _, _⟩, _⟩ := hr
  clear hd hm hV hf hg
  obtain ⟨W0, hW0⟩ : ∃ W0, (((w.alloc (.cells #[.slice ad s.dims.length capd, .slice am s.mets.length capm, .int .i64 s.grain] 24)).alloc (.cells #[.int .i64 f.kind, .string f.name, .slice fa fn fc, .int .i64 f.frm, .int .i64 f.to, .slice fla f.l.length flc] 29)).alloc (.cells #[.int .i64 g.kind, .string g.name, .slice ga gn gc, .int .i64 g.frm, .int .i64 g.to, .slice gla g.l.length glc] 29)).alloc (.cells #[.int .i64 t, .slice da l.length dc, .slice na ns.length nc] 33) = W0 := ⟨_, rfl⟩
  obtain ⟨h0, h1, h2, h3, hS, hB⟩ := laid4 w (.cells #[.slice ad s.dims.length capd, .slice am s.mets.length capm, .int .i64 s.grain] 24) (.cells #[.int .i64 f.kind, .string f.name, .slice fa fn fc, .int .i64 f.frm, .int .i64 f.to, .slice fla f.l.length flc] 29) (.cells #[.int .i64 g.kind, .string g.name, .slice ga gn gc, .int .i64 g.frm, .int .i64 g.to, .slice gla g.l.length glc] 29) (.cells #[.int .i64 t, .slice da l.length dc, .slice na ns.length nc] 33)
  rw [hW0] at h0 h1 h2 h3 hS hB
  have HSH := Lib.hid (shown_any a0 a1 W0 (HV.out.below hB))
  have HX0 := Lib.hid (show Bx w _ _ _ _ W0 from ⟨h0, h1, h2, h3, hB, by omega⟩)
  clear h0 h1 h2 h3 hB hS
  go_enter Tryd.func3, Tryd.ntmps3
  go_wp2_with (go_at_call 10; refine HSH.out.mono ?_; rintro e w1 ⟨rfl, hB1⟩; have HX1 := Lib.hid (HX0.out.later hB1); obtain ⟨⟨x0, x1, x2⟩, _⟩ := can3 HX1.out.k0; clear hB1 hW0 HSH HX0)
  go_at_call 11
  refine (HCUT.out w1 HX1.out.below).mono ?_
  rintro e w2 ⟨v2, rfl, hs2, hB2⟩
  clear x0 x1 x2
  obtain ⟨vd2, vm2, rfl, hd2, hm2, hz2⟩ := hs2
  obtain ⟨ad2, capd2, rfl, _⟩ := slp_len hd2
  obtain ⟨am2, capm2, rfl, _⟩ := slp_len hm2
  have HX2 := Lib.hid (HX1.out.later hB2)
  obtain ⟨⟨x0, x1, x2⟩, z0, z1, z2⟩ := can3 HX2.out.k0
  obtain ⟨W3, hW3, hx3, hb3⟩ := HX2.out.set0 (.slice ad2 (cutSch s).dims.length capd2) (.slice am2 (cutSch s).mets.length capm2) (.int .i64 (cutSch s).grain)
  have HX3 := Lib.hid hx3
  have HS3 := Lib.hid (show SchAt (fun b => w.heap.size + 4 ≤ b) W3 (.agg #[.slice ad2 (cutSch s).dims.length capd2, .slice am2 (cutSch s).mets.length capm2, .int .i64 (cutSch s).grain]) (cutSch s) from (SchAt.weak ⟨_, _, rfl, hd2, hm2, hz2⟩ (fun b hb => Nat.le_trans HX1.out.size hb)).ag hb3)
  obtain ⟨⟨f0, f1, f2, f3, f4, f5⟩, _⟩ := can6 HX3.out.k1
  clear hx3 hb3 hd2 hm2 hz2 HX1 hB2
  go_wp2_with (have hxx := HFF; clear hxx; go_at_call 12; refine (HFF.out W3 HX3.out.below).mono ?_; rintro e w4 ⟨v4, rfl, hf4, hB4⟩; obtain ⟨fa4, fn4, fc4, fl4, fd4, rfl⟩ := hf4.shape6; clear x0 x1 x2 z0 z1 z2 f0 f1 f2 f3 f4 f5 hW3; have HX4 := Lib.hid (HX3.out.later hB4); have HS4 := Lib.hid (HS3.out.ag (Ag.new _ hB4)); have HF4 := Lib.hid (FilAt.weak (q := fun b => w.heap.size + 4 ≤ b) (fun b hb => Nat.le_trans HX3.out.size hb) hf4); obtain ⟨⟨x0, x1, x2, x3, x4, x5⟩, z0, z1, z2, z3, z4, z5⟩ := can6 HX4.out.k1; obtain ⟨W5, hW5, hx5, hb5⟩ := HX4.out.set1 (.int .i64 (Fil.few f).kind) (.string (Fil.few f).name) (.slice fa4 fn4 fc4) (.int .i64 (Fil.few f).frm) (.int .i64 (Fil.few f).to) (.slice fl4 (Fil.few f).l.length fd4); have HX5 := Lib.hid hx5; have HS5 := Lib.hid (HS4.out.ag hb5); have HF5 := Lib.hid (HF4.out.ag hb5); obtain ⟨⟨f0, f1, f2, f3, f4, f5⟩, _⟩ := can6 hx5.k2; clear hx5 hb5 hf4 hB4 HS4 HF4 HX3 HS3 HX4 HFF)
  go_at_call 12
  refine (HFG.out W5 HX5.out.below).mono ?_
  rintro e w6 ⟨v6, rfl, hf6, hB6⟩
  obtain ⟨ga6, gn6, gc6, gl6, gd6, rfl⟩ := hf6.shape6
  clear x0 x1 x2 x3 x4 x5 z0 z1 z2 z3 z4 z5 f0 f1 f2 f3 f4 f5 hW5
  have HX6 := Lib.hid (HX5.out.later hB6)
  have HG6 := Lib.hid (FilAt.weak (q := fun b => w.heap.size + 4 ≤ b) (fun b hb => Nat.le_trans HX5.out.size hb) hf6)
  obtain ⟨⟨x0, x1, x2, x3, x4, x5⟩, z0, z1, z2, z3, z4, z5⟩ := can6 HX6.out.k2
  obtain ⟨W7, hW7, hx7, hb7⟩ := HX6.out.set2 (.int .i64 (Fil.few g).kind) (.string (Fil.few g).name) (.slice ga6 gn6 gc6) (.int .i64 (Fil.few g).frm) (.int .i64 (Fil.few g).to) (.slice gl6 (Fil.few g).l.length gd6)
  have HX7 := Lib.hid hx7
  have HS7 := Lib.hid ((HS5.out.ag (Ag.new _ hB6)).ag hb7)
  have HF7 := Lib.hid ((HF5.out.ag (Ag.new _ hB6)).ag hb7)
  have HG7 := Lib.hid (HG6.out.ag hb7)
  obtain ⟨⟨f0, f1, f2⟩, _⟩ := can3 hx7.k3
  clear hx7 hb7 hf6 hB6 HS5 HF5 HX5 HG6 HX6 HFG
  go_wp2_with (fail)
  go_at_call 13
  refine (HFR.out W7 HX7.out.below).mono ?_
  rintro e w8 ⟨v8, rfl, hr8, ⟨vd8, n8, e8, hd8⟩, hB8⟩
  generalize ns.take 10 = ns8 at hr8
  obtain ⟨vd8', na8, nc8, rfl, _, _, _⟩ := hr8
  obtain ⟨rfl, rfl⟩ : vd8' = vd8 ∧ _ = n8 := by simpa using e8
  have HD8 := Lib.hid hd8
  obtain ⟨da8, dc8, rfl, _⟩ := hd8
  clear x0 x1 x2 x3 x4 x5 z0 z1 z2 z3 z4 z5 f0 f1 f2 hW7 e8
  have HX8 := Lib.hid (HX7.out.later hB8)
  obtain ⟨⟨x0, x1, x2⟩, z0, z1, z2⟩ := can3 HX8.out.k3
  obtain ⟨W9, hW9, hx9, hb9⟩ := HX8.out.set3 (.int .i64 t) (.slice da8 (cutVals l).length dc8) (.slice na8 ns8.length nc8)
  have HX9 := Lib.hid hx9
  obtain ⟨⟨f0, f1, f2, f3, f4, f5⟩, _⟩ := can6 hx9.k1
  obtain ⟨⟨g0, g1, g2, g3, g4, g5⟩, _⟩ := can6 hx9.k2
  have HQ9 : w.heap.size + 4 ≤ W9.heap.size := hx9.size
  have hs9 := (HS7.out.ag (Ag.new _ hB8)).ag hb9
  have hf9 := (HF7.out.ag (Ag.new _ hB8)).ag hb9
  have hg9 := (HG7.out.ag (Ag.new _ hB8)).ag hb9
  have hd9 := (HD8.out.weak (q := fun b => w.heap.size + 4 ≤ b) (fun b hb => Nat.le_trans HX7.out.size hb)).ag hb9
  obtain ⟨WA, hWA⟩ : ∃ WA, (W9.alloc (.cells #[.int .i64 (Fil.few f).kind, .string (Fil.few f).name, .slice fa4 fn4 fc4, .int .i64 (Fil.few f).frm, .int .i64 (Fil.few f).to, .slice fl4 (Fil.few f).l.length fd4, .int .i64 (Fil.few g).kind, .string (Fil.few g).name, .slice ga6 gn6 gc6, .int .i64 (Fil.few g).frm, .int .i64 (Fil.few g).to, .slice gl6 (Fil.few g).l.length gd6] 29)).alloc (.cells #[.int .i64 8, .string ⟨#[]⟩, .slice none 0 0, .int .i64 0, .int .i64 0, .slice (some ⟨W9.heap.size, 0, none⟩) 2 2] 29) = WA := ⟨_, rfl⟩
  obtain ⟨pA, rA, sA, bA⟩ := laid2 W9 (.cells #[.int .i64 (Fil.few f).kind, .string (Fil.few f).name, .slice fa4 fn4 fc4, .int .i64 (Fil.few f).frm, .int .i64 (Fil.few f).to, .slice fl4 (Fil.few f).l.length fd4, .int .i64 (Fil.few g).kind, .string (Fil.few g).name, .slice ga6 gn6 gc6, .int .i64 (Fil.few g).frm, .int .i64 (Fil.few g).to, .slice gl6 (Fil.few g).l.length gd6] 29) (.cells #[.int .i64 8, .string ⟨#[]⟩, .slice none 0 0, .int .i64 0, .int .i64 0, .slice (some ⟨W9.heap.size, 0, none⟩) 2 2] 29)
  rw [hWA] at pA rA sA bA
  have hxA := hx9.later bA
  have hsA := hs9.ag (Ag.new _ bA)
  have hfA := hf9.ag (Ag.new _ bA)
  have hgA := hg9.ag (Ag.new _ bA)
  have hdA := hd9.ag (Ag.new _ bA)
  have hnA := fil_pair 8 pA (q := fun b => w.heap.size + 4 ≤ b) HQ9 hfA hgA
  obtain ⟨⟨fA0, fA1, fA2, fA3, fA4, fA5⟩, _⟩ := can6 hxA.k1
  obtain ⟨⟨gA0, gA1, gA2, gA3, gA4, gA5⟩, _⟩ := can6 hxA.k2
  obtain ⟨WB, hWB⟩ : ∃ WB, (WA.alloc (.cells #[.int .i64 (Fil.few f).kind, .string (Fil.few f).name, .slice fa4 fn4 fc4, .int .i64 (Fil.few f).frm, .int .i64 (Fil.few f).to, .slice fl4 (Fil.few f).l.length fd4, .int .i64 (Fil.few g).kind, .string (Fil.few g).name, .slice ga6 gn6 gc6, .int .i64 (Fil.few g).frm, .int .i64 (Fil.few g).to, .slice gl6 (Fil.few g).l.length gd6] 29)).alloc (.cells #[.int .i64 9, .string ⟨#[]⟩, .slice none 0 0, .int .i64 0, .int .i64 0, .slice (some ⟨WA.heap.size, 0, none⟩) 2 2] 29) = WB := ⟨_, rfl⟩
  obtain ⟨pB, rB, sB, bB⟩ := laid2 WA (.cells #[.int .i64 (Fil.few f).kind, .string (Fil.few f).name, .slice fa4 fn4 fc4, .int .i64 (Fil.few f).frm, .int .i64 (Fil.few f).to, .slice fl4 (Fil.few f).l.length fd4, .int .i64 (Fil.few g).kind, .string (Fil.few g).name, .slice ga6 gn6 gc6, .int .i64 (Fil.few g).frm, .int .i64 (Fil.few g).to, .slice gl6 (Fil.few g).l.length gd6] 29) (.cells #[.int .i64 9, .string ⟨#[]⟩, .slice none 0 0, .int .i64 0, .int .i64 0, .slice (some ⟨WA.heap.size, 0, none⟩) 2 2] 29)
  rw [hWB] at pB rB sB bB
  have hxB := hxA.later bB
  have hoB := fil_pair 9 pB (q := fun b => w.heap.size + 4 ≤ b) (Nat.le_trans HQ9 bA.size) (hfA.ag (Ag.new _ bB)) (hgA.ag (Ag.new _ bB))
  obtain ⟨⟨oB0, oB1, oB2, oB3, oB4, oB5⟩, _⟩ := can6 rB
  obtain ⟨WC, hWC⟩ : ∃ WC, (WB.alloc (.cells #[.int .i64 9, .string ⟨#[]⟩, .slice none 0 0, .int .i64 0, .int .i64 0, .slice (some ⟨WA.heap.size, 0, none⟩) 2 2] 29)).alloc (.cells #[.int .i64 7, .string ⟨#[]⟩, .slice none 0 0, .int .i64 0, .int .i64 0, .slice (some ⟨WB.heap.size, 0, none⟩) 1 1] 29) = WC := ⟨_, rfl⟩
  obtain ⟨pC, rC, sC, bC⟩ := laid2 WB (.cells #[.int .i64 9, .string ⟨#[]⟩, .slice none 0 0, .int .i64 0, .int .i64 0, .slice (some ⟨WA.heap.size, 0, none⟩) 2 2] 29) (.cells #[.int .i64 7, .string ⟨#[]⟩, .slice none 0 0, .int .i64 0, .int .i64 0, .slice (some ⟨WB.heap.size, 0, none⟩) 1 1] 29)
  rw [hWC] at pC rC sC bC
  have hxC := hxB.later bC
  have hoC := hoB.ag (Ag.new _ bC)
  have hnC := fil_one 7 pC (q := fun b => w.heap.size + 4 ≤ b) (Nat.le_trans HQ9 (Nat.le_trans bA.size bB.size)) hoC
  have bAC := Bt bB bC
  have hfC := hfA.ag (Ag.new _ bAC)
  have hgC := hgA.ag (Ag.new _ bAC)
  have haC := hnA.ag (Ag.new _ bAC)
  have hsC := hsA.ag (Ag.new _ bAC)
  have hdC := hdA.ag (Ag.new _ bAC)
  have raC := (bAC.block _ (by omega)).trans rA
  have roC := (bC.block _ (by omega)).trans rB
  obtain ⟨⟨sC0, sC1, sC2⟩, _⟩ := can3 hxC.k0
  obtain ⟨⟨nC0, nC1, nC2, nC3, nC4, nC5⟩, _⟩ := can6 rC
  have HKf := kinds_few f hKf
  have HKg := kinds_few g hKg
  have HKo : kindsOk (.mk 9 ByteArray.empty [] 0 0 [Fil.few f, Fil.few g]) := kinds_pair (by decide) HKf HKg
  have HKn : kindsOk (.mk 7 ByteArray.empty [] 0 0 [.mk 9 ByteArray.empty [] 0 0 [Fil.few f, Fil.few g]]) := kinds_one (by decide) HKo
  have HVC := Lib.hid (HV.out.below hxC.below)
  have HBC := Lib.hid hxC.below
  have HALL := Lib.hid (fun X (hB : Below WC.heap.size WC X) => And.intro (can3 (hxC.later hB).k0).1 (And.intro (can3 (hxC.later hB).k3).1 (And.intro (can6 (hxC.later hB).k1).1 (And.intro (can6 (hxC.later hB).k2).1 (And.intro (can6 ((hB.block _ (by omega)).trans raC)).1 (And.intro (can6 ((hB.block _ (by omega)).trans roC)).1 (can6 ((hB.block _ (by omega)).trans rC)).1))))))
  have HCK := Lib.hid (check_any a0 a1 _ _ _ _ (cutSch s) _ WC HVC.out hsC hnC (by omega) HKn)
  have HH := Lib.hid (fun (n : Nat) (v : Value) (F : Fil) (hF : FilAt (fun b => w.heap.size + 4 ≤ b) n WC v F) (hn : n ≤ 100) (hK : kindsOk F) (hc : Fil.checkE (cutSch s) F = 0) (hl : (cutVals l).length = (cutSch s).dims.length) X (hB : Below WC.heap.size WC X) => by
    have := fHolds_any a0 a1 _ n _ _ _ (cutSch s) F t (cutVals l) X (HVC.out.below hB) (hsC.ag (Ag.new _ hB)) (hF.ag (Ag.new _ hB)) (hdC.ag (Ag.new _ hB)) hn hK
    rw [holdsE_ok _ _ _ _ hc hl] at this
    exact this)
  have HFC := Lib.hid hfC
  have HGC := Lib.hid hgC
  have HAC := Lib.hid haC
  have HOC := Lib.hid hoC
  have HNC := Lib.hid hnC
  clear hx9 HFR HX8 HX7 HS7 HF7 HG7 HD8 hB8 hb9 HX9 hs9 hf9 hg9 hd9 hsA hfA hgA hdA hnA hxA hxB hoB hxC hoC hnC hfC hgC haC hsC hdC raC roC pA rA sA bA pB rB sB bB pC rC sC bC bAC 
  go_wp2_with (fail)
  go_at_call 14
  refine HCK.out.mono ?_
  rintro e wD ⟨rfl, hBD⟩
  clear x0 x1 x2 z0 z1 z2 f0 f1 f2 f3 f4 f5 g0 g1 g2 g3 g4 g5 fA0 fA1 fA2 fA3 fA4 fA5 gA0 gA1 gA2 gA3 gA4 gA5 oB0 oB1 oB2 oB3 oB4 oB5 sC0 sC1 sC2 nC0 nC1 nC2 nC3 nC4 nC5 hW9 hWA hWB hWC HCK
  obtain ⟨⟨s0, s1, s2⟩, ⟨r0, r1, r2⟩, ⟨f0, f1, f2, f3, f4, f5⟩, _⟩ := HALL.out wD hBD
  have HBD := Lib.hid hBD
  clear hBD
  by_cases hck : Fil.checkE (cutSch s) (.mk 7 ByteArray.empty [] 0 0 [.mk 9 ByteArray.empty [] 0 0 [Fil.few f, Fil.few g]]) = 0
  · obtain ⟨cf, cg, ca, co⟩ := Fil.truths _ _ _ hck
    rw [hck]
    by_cases hl : (cutVals l).length = (cutSch s).dims.length
    · have HL := Lib.hid hl
      have hl' : (((cutVals l).length : Int) == ((cutSch s).dims.length : Int)) = true := beq_iff_eq.2 (by omega)
      have HHF := Lib.hid (HH.out _ _ _ HFC.out (by omega) HKf cf hl)
      have HHG := Lib.hid (HH.out _ _ _ HGC.out (by omega) HKg cg hl)
      have HHA := Lib.hid (HH.out _ _ _ HAC.out (by omega) (kinds_pair (by decide) HKf HKg) ca hl)
      have HHO := Lib.hid (HH.out _ _ _ HOC.out (by omega) HKo co hl)
      have HHN := Lib.hid (HH.out _ _ _ HNC.out (by omega) HKn hck hl)
      rw [show Fil.holds (cutSch s) t (cutVals l) (.mk 8 ByteArray.empty [] 0 0 [Fil.few f, Fil.few g]) = _ from Fil.holds_and _ _ _ _ _] at HHA
      have ho := show Fil.holds (cutSch s) t (cutVals l) (.mk 9 ByteArray.empty [] 0 0 [Fil.few f, Fil.few g]) = _ from Fil.holds_or _ _ _ _ _
      have hn := show Fil.holds (cutSch s) t (cutVals l) (.mk 7 ByteArray.empty [] 0 0 [.mk 9 ByteArray.empty [] 0 0 [Fil.few f, Fil.few g]]) = _ from Fil.holds_not _ _ _ _
      rw [ho] at HHO hn
      rw [hn] at HHN
      generalize Fil.holds (cutSch s) t (cutVals l) (Fil.few f) = ha at HHF HHA HHO HHN
      generalize Fil.holds (cutSch s) t (cutVals l) (Fil.few g) = hb at HHG HHA HHO HHN
      clear hck cf cg ca co hl ho hn HH HFC HGC HAC HOC HNC HKf HKg HKo HKn
      go_wp2_with (fail)
      go_at_call 15
      refine (HHF.out wD HBD.out).mono ?_
      rintro e wE ⟨rfl, hB⟩
      have HBwE := Lib.hid (Bt HBD.out hB)
      clear hB s0 s1 s2 r0 r1 r2 f0 f1 f2 f3 f4 f5
      obtain ⟨⟨s0, s1, s2⟩, ⟨r0, r1, r2⟩, _, ⟨f0, f1, f2, f3, f4, f5⟩, _⟩ := HALL.out wE HBwE.out
      go_wp2_with (fail)
      go_at_call 15
      refine (HHG.out wE HBwE.out).mono ?_
      rintro e wF ⟨rfl, hB⟩
      have HBwF := Lib.hid (Bt HBwE.out hB)
      clear hB s0 s1 s2 r0 r1 r2 f0 f1 f2 f3 f4 f5
      obtain ⟨⟨s0, s1, s2⟩, ⟨r0, r1, r2⟩, _, _, ⟨f0, f1, f2, f3, f4, f5⟩, _⟩ := HALL.out wF HBwF.out
      go_wp2_with (fail)
      go_at_call 15
      refine (HHA.out wF HBwF.out).mono ?_
      rintro e wG ⟨rfl, hB⟩
      have HBwG := Lib.hid (Bt HBwF.out hB)
      clear hB s0 s1 s2 r0 r1 r2 f0 f1 f2 f3 f4 f5
      obtain ⟨⟨s0, s1, s2⟩, ⟨r0, r1, r2⟩, _, _, _, ⟨f0, f1, f2, f3, f4, f5⟩, _⟩ := HALL.out wG HBwG.out
      go_wp2_with (fail)
      go_at_call 15
      refine (HHO.out wG HBwG.out).mono ?_
      rintro e wH ⟨rfl, hB⟩
      have HBwH := Lib.hid (Bt HBwG.out hB)
      clear hB s0 s1 s2 r0 r1 r2 f0 f1 f2 f3 f4 f5
      obtain ⟨⟨s0, s1, s2⟩, ⟨r0, r1, r2⟩, _, _, _, _, ⟨f0, f1, f2, f3, f4, f5⟩⟩ := HALL.out wH HBwH.out
      go_wp2_with (fail)
      go_at_call 15
      refine (HHN.out wH HBwH.out).mono ?_
      rintro e wI ⟨rfl, hB⟩
      have HBI := Lib.hid (Bt HBC.out (Bt HBwH.out hB))
      clear hB s0 s1 s2 r0 r1 r2 f0 f1 f2 f3 f4 f5 HHF HHG HHA HHO HHN HALL
      cases ha <;> cases hb <;> go_wp2 <;> go_ret <;> exact ⟨rfl, HBI.out⟩
    · have hl' : (((cutVals l).length : Int) == ((cutSch s).dims.length : Int)) = false := beq_eq_false_iff_ne.2 (by omega)
      clear hck cf cg ca co hl
      go_wp2
      go_ret
      exact ⟨rfl, Bt HBC.out HBD.out⟩
  · generalize Fil.checkE (cutSch s) (.mk 7 ByteArray.empty [] 0 0 [.mk 9 ByteArray.empty [] 0 0 [Fil.few f, Fil.few g]]) = c at hck
    have hc' : ((c : Int) == 0) = false := by simpa using hck
    clear hck
    go_wp2
    go_ret
    exact ⟨rfl, Bt HBC.out HBD.out⟩
theorem FilterTruths_any (a0 a1 : Addr) (w : World) (hV : Vars a0 a1 w) {n m : Nat} {vs vf vg vr : Value} {s : Tess.Sch} {f g : Fil} {t : Int} {l : List Tess.Val} {ns : List Int} (hs : SchAt (fun _ => True) w vs s) (hf : FilAt (fun _ => True) n w vf f) (hKf : kindsOk f) (hg : FilAt (fun _ => True) m w vg g) (hKg : kindsOk g) (hr : RowAt (fun _ => True) w vr t l ns) :
    Calls Tryd.prog 3 #[vs, vf, vg, vr] w fun e w' => e = .returned (.bool true) ∧ Below w.heap.size w w' :=
  truths_any a0 a1 _ n m vs vf vg vr s f g t l ns w hV hs hf hg hr hKf hKg
end Go.Proofs.YtdfnolgcdododaaDoor
