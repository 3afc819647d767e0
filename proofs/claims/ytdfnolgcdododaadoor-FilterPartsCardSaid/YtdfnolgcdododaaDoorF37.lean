/- Is a row right? A time cut to a grain; a number, wide. The program's, walked. -/
import Derived.Test.YtdfnolgcdododaaDoorF36
namespace Go.Proofs.YtdfnolgcdododaaDoor
open Go.RowKit Go.Sort
open Tess (Fil)

set_option maxRecDepth 100000 in
set_option maxHeartbeats 2000000 in
theorem sFits_any (p : Nat → Prop) (vs vr : Value) (s : Tess.Sch) (t : Int) (l : List Tess.Val) (ns : List Int) (w : World) (hs : SchAt p w vs s) (hr : RowAt p w vr t l ns) :
    Calls Tryd.prog 41 #[vs, vr] w fun e w' => e = .returned (.bool (Tess.rowFits s t l ns.length)) ∧ Below w.heap.size w w' := by
  have HR := Lib.hid (fun W (hB : Below w.heap.size w W) => schRight_any vs s p W (hs.ag (Ag.new p hB)))
  obtain ⟨vd, vm, rfl, hd, hm, _, _⟩ := hs
  obtain ⟨ad, capd, rfl, _⟩ := slp_len hd
  obtain ⟨am, capm, rfl, _⟩ := slp_len hm
  obtain ⟨vdr, na, nc, rfl, _, hv, _⟩ := hr
  have HC := Lib.hid (fun W (hB : Below w.heap.size w W) => contains_other p vdr l W (hv.ag (Ag.new p hB)))
  obtain ⟨da, dc, rfl, _⟩ := hv
  clear hd hm
  obtain ⟨W0, hW0⟩ : ∃ W0, (w.alloc (.cells #[.slice ad s.dims.length capd, .slice am s.mets.length capm, .int .i64 s.grain] 24)).alloc (.cells #[.int .i64 t, .slice da l.length dc, .slice na ns.length nc] 33) = W0 := ⟨_, rfl⟩
  obtain ⟨h0, h1, hS, hB⟩ := laid2 w (.cells #[.slice ad s.dims.length capd, .slice am s.mets.length capm, .int .i64 s.grain] 24) (.cells #[.int .i64 t, .slice da l.length dc, .slice na ns.length nc] 33)
  rw [hW0] at h0 h1 hS hB
  obtain ⟨⟨x0, x1, x2⟩, _⟩ := can3 h0
  have H0 := Lib.hid h0
  have H1 := Lib.hid h1
  have HB := Lib.hid hB
  have HS := Lib.hid hS
  have hCells : ∀ W, Below W0.heap.size W0 W → W.heap[w.heap.size]? = _ ∧ W.heap[w.heap.size + 1]? = _ := fun W hW => ⟨(hW.block _ (by omega)).trans h0, (hW.block _ (by omega)).trans h1⟩
  have HCE := Lib.hid hCells
  clear h0 h1 hS hB hCells
  have HE : RowKit.Hid (Tess.rowFits s t l ns.length = (Tess.schOk s && decide (0 ≤ t) && decide (t ≤ 1000000000000) && decide (l.length = s.dims.length) && decide (ns.length = s.mets.length) && l.all Tess.valOk)) := Lib.hid rfl
  cases hok : Tess.schOk s
  · rw [hok] at HR HE
    go_enter Tryd.func41, Tryd.ntmps41
    go_wp2_with (go_at_call 29; refine (HR.out _ HB.out).mono ?_; rintro e w2 ⟨rfl, hB2⟩; have HB2 := Lib.hid (Bt HB.out hB2); clear hB2)
    go_ret
    exact ⟨by rw [HE.out]; rfl, HB2.out⟩
  · rw [hok, Bool.true_and] at HE
    rw [hok] at HR
    go_enter Tryd.func41, Tryd.ntmps41
    go_wp2_with (fail)
    go_at_call 29
    refine (HR.out _ HB.out).mono ?_
    rintro e w2 ⟨rfl, hB2⟩
    obtain ⟨q0, q1⟩ := HCE.out w2 hB2
    have HB2 := Lib.hid (Bt HB.out hB2)
    clear hB2 x0 x1 x2 hok HR
    obtain ⟨⟨x0, x1, x2⟩, _⟩ := can3 q0
    obtain ⟨⟨y0, y1, y2⟩, _⟩ := can3 q1
    clear q0 q1
    by_cases h1 : 0 ≤ t
    · have d1 : decide (0 ≤ t) = true := decide_eq_true h1
      rw [d1] at HE
      by_cases h2 : t ≤ 1000000000000
      · have d2 : decide (t ≤ 1000000000000) = true := decide_eq_true h2
        rw [d2] at HE
        by_cases h3 : l.length = s.dims.length
        · have d3 : ((l.length : Int) == (s.dims.length : Int)) = true := beq_iff_eq.2 (by omega)
          rw [decide_eq_true h3] at HE
          by_cases h4 : ns.length = s.mets.length
          · have d4 : ((ns.length : Int) == (s.mets.length : Int)) = true := beq_iff_eq.2 (by omega)
            rw [decide_eq_true h4] at HE
            clear h3 h4
            generalize l.all Tess.valOk = r at HC HE
            go_wp2_with (go_at_call 71; refine (HC.out _ HB2.out).mono ?_; rintro e w3 ⟨rfl, hB3⟩; have HB3 := Lib.hid (Bt HB2.out hB3); clear hB3)
            go_ret
            exact ⟨by rw [HE.out]; simp, HB3.out⟩
          · have d4 : ((ns.length : Int) == (s.mets.length : Int)) = false := beq_eq_false_iff_ne.2 (by omega)
            rw [decide_eq_false h4] at HE
            clear h3 h4
            go_wp2
            go_ret
            exact ⟨by rw [HE.out]; simp, HB2.out⟩
        · have d3 : ((l.length : Int) == (s.dims.length : Int)) = false := beq_eq_false_iff_ne.2 (by omega)
          rw [decide_eq_false h3] at HE
          clear h3
          go_wp2
          go_ret
          exact ⟨by rw [HE.out]; simp, HB2.out⟩
      · have d2 : decide (t ≤ 1000000000000) = false := decide_eq_false h2
        rw [d2] at HE
        go_wp2
        go_ret
        exact ⟨by rw [HE.out]; simp, HB2.out⟩
    · have d1 : decide (0 ≤ t) = false := decide_eq_false h1
      rw [d1] at HE
      go_wp2
      go_ret
      exact ⟨by rw [HE.out]; simp, HB2.out⟩
end Go.Proofs.YtdfnolgcdododaaDoor
