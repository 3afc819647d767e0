/- Does a filter hold, and what is wrong: the program's answer. -/
import Derived.Test.YtdfnolgcdododaaDoorF26
namespace Go.Proofs.YtdfnolgcdododaaDoor
open Go.RowKit Go.Sort
open Tess (Fil)

theorem check_own {s : Tess.Sch} {f : Fil} (h : Fil.checkE s f = 0) : Fil.allP (Fil.own s) f = true := by
  rw [Fil.checkE_eq] at h
  split at h
  · split at h
    · cases h
    · rename_i h2
      simp only [Bool.or_eq_true, Bool.not_eq_true', not_or] at h2
      simpa using h2.2
  · cases h

set_option maxRecDepth 100000 in
set_option maxHeartbeats 1000000 in
theorem fHolds_any (a0 a1 : Addr) (p : Nat → Prop) (n : Nat) (vs v vd : Value) (s : Tess.Sch) (f : Fil) (t : Int) (dims : List Tess.Val) (w : World) (hV : Vars a0 a1 w) (hs : SchAt p w vs s) (hf : FilAt p n w v f) (hv : ValsAt p w vd dims) (hn : n ≤ 100) (hK : kindsOk f) :
    Calls Tryd.prog 15 #[vs, v, .int .i64 t, vd] w fun e w' => e = .returned (.tuple #[.bool (Fil.holdsE s t dims f).1, .int .i64 ((Fil.holdsE s t dims f).2 : Nat)]) ∧ Below w.heap.size w w' := by
  have HC := Lib.hid (fun W (hB : Below w.heap.size w W) => check_any a0 a1 p n vs v s f W (hV.below hB) (hs.ag (Ag.new p hB)) (hf.ag (Ag.new p hB)) hn hK)
  have HH := Lib.hid (fun W (hB : Below w.heap.size w W) (hdl : dims.length = s.dims.length) (ho : Fil.allP (Fil.own s) f = true) => holds_any p s t dims vs vd hdl n v f W (hs.ag (Ag.new p hB)) (hf.ag (Ag.new p hB)) (hv.ag (Ag.new p hB)) ho hK)
  obtain ⟨vd', vm, rfl, hd, hm, _, _⟩ := hs
  obtain ⟨ad, capd, rfl, _⟩ := slp_len hd
  obtain ⟨am, capm, rfl, _⟩ := slp_len hm
  obtain ⟨wa, wn, wc, za, zc, rfl⟩ := hf.shape6
  obtain ⟨da, dc, rfl, _, _, _, _⟩ := hv
  clear hd hm hV hf hK hn
  obtain ⟨W0, hW0⟩ : ∃ W0, (w.alloc (.cells #[.slice ad s.dims.length capd, .slice am s.mets.length capm, .int .i64 s.grain] 24)).alloc (.cells #[.int .i64 f.kind, .string f.name, .slice wa wn wc, .int .i64 f.frm, .int .i64 f.to, .slice za f.l.length zc] 29) = W0 := ⟨_, rfl⟩
  obtain ⟨h1, h2, hS0, hB0⟩ := laid2 w (.cells #[.slice ad s.dims.length capd, .slice am s.mets.length capm, .int .i64 s.grain] 24) (.cells #[.int .i64 f.kind, .string f.name, .slice wa wn wc, .int .i64 f.frm, .int .i64 f.to, .slice za f.l.length zc] 29)
  rw [hW0] at h1 h2 hS0 hB0
  have HB0 := Lib.hid hB0
  have H1 := Lib.hid h1
  have H2 := Lib.hid h2
  have HW0 := Lib.hid hW0
  clear hB0 h1 h2 hS0 hW0
  obtain ⟨c, hc⟩ : ∃ c, Fil.checkE s f = c := ⟨_, rfl⟩
  have hE : Fil.holdsE s t dims f = if c = 0 then (if dims.length = s.dims.length then (Fil.holds s t dims f, 0) else (false, 140)) else (false, c) := by
    unfold Fil.holdsE; rw [hc]
  rw [hE]
  rw [hc] at HC
  have HO := Lib.hid (fun (h : c = 0) => check_own (hc.trans h))
  clear hc hE
  by_cases h0 : c = 0
  · have ho := HO.out h0
    subst h0
    by_cases hdl : dims.length = s.dims.length
    · have hr : (if (0 : Nat) = 0 then (if dims.length = s.dims.length then (Fil.holds s t dims f, 0) else (false, 140)) else (false, 0)) = (Fil.holds s t dims f, 0) := by simp [hdl]
      rw [hr]
      have HX := Lib.hid (fun W hB => HH.out W hB hdl ho)
      have hne : ((dims.length : Int) != (s.dims.length : Int)) = false := by rw [hdl]; simp
      clear hdl ho HH hr HO
      go_enter Tryd.func15, Tryd.ntmps15
      go_wp2
      refine wp_scope_fwd 0 rfl ?_
      go_wp2_with (first | (go_at_call 14; rw [HW0.out]; refine (HC.out _ HB0.out).mono ?_; rintro e W1 ⟨rfl, hB1⟩; obtain ⟨y0, y1, y2, y3, y4, y5⟩ := right_cells6 hB1 H2.out; obtain ⟨x0, x1, x2⟩ := right_cells3 hB1 H1.out; have HB1 := Lib.hid (Bt HB0.out hB1); clear hB1) | (go_at_call 32; refine (HX.out _ HB1.out).mono ?_; rintro e W2 ⟨rfl, hB2⟩; have HB2 := Lib.hid (Bt HB1.out hB2); clear hB2))
      rw [Exit.fwd_ret]
      go_ret2
      exact ⟨rfl, HB2.out⟩
    · have hr : (if (0 : Nat) = 0 then (if dims.length = s.dims.length then (Fil.holds s t dims f, 0) else (false, 140)) else (false, 0)) = (false, 140) := by simp [hdl]
      rw [hr]
      have hne : ((dims.length : Int) != (s.dims.length : Int)) = true := by rw [bne_iff_ne]; omega
      clear hdl ho HH hr HO
      go_enter Tryd.func15, Tryd.ntmps15
      go_wp2
      refine wp_scope_fwd 0 rfl ?_
      go_wp2_with (go_at_call 14; rw [HW0.out]; refine (HC.out _ HB0.out).mono ?_; rintro e W1 ⟨rfl, hB1⟩; obtain ⟨y0, y1, y2, y3, y4, y5⟩ := right_cells6 hB1 H2.out; obtain ⟨x0, x1, x2⟩ := right_cells3 hB1 H1.out; have HB1 := Lib.hid (Bt HB0.out hB1); clear hB1)
      go_step3
      refine Exit.then_goto (Exit.fwd_goto ?_)
      go_wp2
      rw [Exit.noGoto_ret]
      go_ret2
      exact ⟨rfl, HB1.out⟩
  · have hne : ((c : Int) != (0 : Int)) = true := by rw [bne_iff_ne]; omega
    rw [if_neg h0]
    clear h0 HH HO
    go_enter Tryd.func15, Tryd.ntmps15
    go_wp2
    refine wp_scope_fwd 0 rfl ?_
    go_wp2_with (go_at_call 14; rw [HW0.out]; refine (HC.out _ HB0.out).mono ?_; rintro e W1 ⟨rfl, hB1⟩; obtain ⟨y0, y1, y2, y3, y4, y5⟩ := right_cells6 hB1 H2.out; obtain ⟨x0, x1, x2⟩ := right_cells3 hB1 H1.out; have HB1 := Lib.hid (Bt HB0.out hB1); clear hB1)
    go_step3
    refine Exit.then_goto (Exit.fwd_goto ?_)
    go_wp2
    rw [Exit.noGoto_ret]
    go_ret2
    exact ⟨rfl, HB1.out⟩
end Go.Proofs.YtdfnolgcdododaaDoor
