/- Does a filter hold? The program's, walked. -/
import Derived.Laws.EntriesVeiled
import Derived.Test.YtdfnolgcdododaaDoorF25
namespace Go.Proofs.YtdfnolgcdododaaDoor
open Go.RowKit Go.Sort
open Tess (Fil)

theorem dim_lt (s : Tess.Sch) (x : ByteArray) (h : (Tess.dimW s x).2 = true) : (Tess.dimW s x).1 < s.dims.length := by
  unfold Tess.dimW Tess.placeW at *
  split at h
  · rename_i hc
    rw [if_pos hc]
    rw [Bool.and_eq_true] at hc
    have hm := (Tess.hasW_iff s.dims x).1 hc.2
    exact List.findIdx_lt_length_of_exists ⟨x, hm, decide_eq_true rfl⟩
  · cases h
theorem laid5 (w : World) (A B C D E : Obj) : ((((((w.alloc A).alloc B).alloc C).alloc D).alloc E)).heap[w.heap.size]? = some A ∧ ((((((w.alloc A).alloc B).alloc C).alloc D).alloc E)).heap[w.heap.size + 1]? = some B ∧ ((((((w.alloc A).alloc B).alloc C).alloc D).alloc E)).heap[w.heap.size + 2]? = some C ∧
    ((((((w.alloc A).alloc B).alloc C).alloc D).alloc E)).heap[w.heap.size + 3]? = some D ∧ ((((((w.alloc A).alloc B).alloc C).alloc D).alloc E)).heap[w.heap.size + 4]? = some E ∧ ((((((w.alloc A).alloc B).alloc C).alloc D).alloc E)).heap.size = w.heap.size + 5 ∧ Below w.heap.size w ((((((w.alloc A).alloc B).alloc C).alloc D).alloc E)) := by
  obtain ⟨h1, h2, h3, h4, h5, h6⟩ := laid4 w A B C D
  obtain ⟨k1, k2, k4⟩ := laid1 ((((w.alloc A).alloc B).alloc C).alloc D) E
  rw [h5] at k1 k2
  exact ⟨(k4.block _ (by omega)).trans h1, (k4.block _ (by omega)).trans h2, (k4.block _ (by omega)).trans h3, (k4.block _ (by omega)).trans h4, k1, k2, h6.trans (k4.mono (by omega))⟩

set_option maxRecDepth 100000 in
set_option maxHeartbeats 4000000 in
theorem holds_any (p : Nat → Prop) (s : Tess.Sch) (t : Int) (dims : List Tess.Val) (vs vd : Value) (hdl : dims.length = s.dims.length) : ∀ (n : Nat) (v : Value) (f : Fil) (w : World), SchAt p w vs s → FilAt p n w v f → ValsAt p w vd dims →
    Fil.allP (Fil.own s) f = true → kindsOk f → Calls Tryd.prog 32 #[vs, v, .int .i64 t, vd] w fun e w' => e = .returned (.bool (Fil.holds s t dims f)) ∧ Below w.heap.size w w' := by
  intro n
  induction n with
  | zero => intro v f w _ hf; exact hf.elim
  | succ n ih =>
  intro v f w hs hf hv hown hK
  have HDIM := Lib.hid (fun W (hB : Below w.heap.size w W) => dim_any vs s f.name p W (hs.ag (Ag.new p hB)))
  have HWORD := Lib.hid (fun x W (hB : Below w.heap.size w W) => isWord_any p (n + 1) v f x W (hf.ag (Ag.new p hB)))
  have HIH : RowKit.Hid (∀ W, Below w.heap.size w W → ∀ v x, FilAt p n w v x → x ∈ f.l → Calls Tryd.prog 32 #[vs, v, .int .i64 t, vd] W fun e w' => e = .returned (.bool (Fil.holds s t dims x)) ∧ Below W.heap.size W w') := Lib.hid (fun W hB v x hx hm => ih v x W (hs.ag (Ag.new p hB)) (hx.ag (Ag.new p hB)) (hv.ag (Ag.new p hB))
      (by rw [Fil.allP_eq, Bool.and_eq_true, List.all_eq_true] at hown; exact hown.2 x hm) (by unfold kindsOk at hK ⊢; rw [Fil.allP_eq, Bool.and_eq_true, List.all_eq_true] at hK; exact hK.2 x hm))
  have hown : Fil.own s f = true := by rw [Fil.allP_eq, Bool.and_eq_true] at hown; exact hown.1
  clear ih hK
  have HDL := Lib.hid hdl
  clear hdl
  obtain ⟨vd', vm, rfl, hd, hm, _, _⟩ := hs
  obtain ⟨ad, capd, rfl, _⟩ := slp_len hd
  obtain ⟨am, capm, rfl, _⟩ := slp_len hm
  obtain ⟨da, dc, rfl, _, _, _, hvc⟩ := hv
  obtain ⟨vw, za, zc, rfl, _, hw, _, hll, _, hlc⟩ := hf
  obtain ⟨wa, capw, rfl, _⟩ := slp_len hw
  clear hd hm hw
  obtain ⟨W0, hW0⟩ : ∃ W0, (((((w.alloc (.cells #[.slice ad s.dims.length capd, .slice am s.mets.length capm, .int .i64 s.grain] 24)).alloc (.cells #[.int .i64 f.kind, .string f.name, .slice wa f.words.length capw, .int .i64 f.frm, .int .i64 f.to, .slice za f.l.length zc] 29)).alloc (.cells #[.int .i64 t] 2)).alloc (.cells #[.slice da dims.length dc] 30)).alloc (.cells #[.func (.func 57) #[] #[.pointer (some ⟨w.heap.size, 0, none⟩), .pointer (some ⟨w.heap.size + 1 + 1, 0, none⟩), .pointer (some ⟨w.heap.size + 1 + 1 + 1, 0, none⟩)]] 112)) = W0 := ⟨_, rfl⟩
  obtain ⟨h0, h1, h2, h3, h4, hS, hB⟩ := laid5 w (.cells #[.slice ad s.dims.length capd, .slice am s.mets.length capm, .int .i64 s.grain] 24) (.cells #[.int .i64 f.kind, .string f.name, .slice wa f.words.length capw, .int .i64 f.frm, .int .i64 f.to, .slice za f.l.length zc] 29) (.cells #[.int .i64 t] 2) (.cells #[.slice da dims.length dc] 30) (.cells #[.func (.func 57) #[] #[.pointer (some ⟨w.heap.size, 0, none⟩), .pointer (some ⟨w.heap.size + 1 + 1, 0, none⟩), .pointer (some ⟨w.heap.size + 1 + 1 + 1, 0, none⟩)]] 112)
  rw [hW0] at h0 h1 h2 h3 h4 hS hB
  have HEL : RowKit.Hid (∀ k (hk : k < f.l.length), ∃ b off, za = some ⟨b, off, none⟩ ∧ b < W0.heap.size ∧ ∃ c0 c1 c2 c3 c4 c5, (W0.cell? ⟨b, off + k * 6, none⟩ = some c0 ∧ W0.cell? ⟨b, off + k * 6 + 1, none⟩ = some c1 ∧ W0.cell? ⟨b, off + k * 6 + 2, none⟩ = some c2 ∧ W0.cell? ⟨b, off + k * 6 + 3, none⟩ = some c3 ∧ W0.cell? ⟨b, off + k * 6 + 4, none⟩ = some c4 ∧ W0.cell? ⟨b, off + k * 6 + 5, none⟩ = some c5) ∧
      (∀ W, Below W0.heap.size W0 W → Calls Tryd.prog 57 #[.agg #[c0, c1, c2, c3, c4, c5], .pointer (some ⟨w.heap.size, 0, none⟩), .pointer (some ⟨w.heap.size + 1 + 1, 0, none⟩), .pointer (some ⟨w.heap.size + 1 + 1 + 1, 0, none⟩)] W fun e w' => e = .returned (.bool (Fil.holds s t dims f.l[k])) ∧ Below W.heap.size W w') ∧
      (∀ W, Below W0.heap.size W0 W → Calls Tryd.prog 58 #[.agg #[c0, c1, c2, c3, c4, c5], .pointer (some ⟨w.heap.size + 1 + 1 + 1 + 1, 0, none⟩)] W fun e w' => e = .returned (.bool (!Fil.holds s t dims f.l[k])) ∧ Below W.heap.size W w')) := Lib.hid (fun k hk => by
    obtain ⟨b, off, ha, hb, _, hc⟩ := hlc (by omega)
    obtain ⟨c0, c1, c2, c3, c4, c5, hx, g0, g1, g2, g3, g4, g5⟩ := hc k hk
    refine ⟨b, off, ha, by omega, c0, c1, c2, c3, c4, c5, ⟨(hB.cell (p := ⟨b, off + k * 6, none⟩) hb).trans g0, (hB.cell (p := ⟨b, off + k * 6 + 1, none⟩) hb).trans g1, (hB.cell (p := ⟨b, off + k * 6 + 2, none⟩) hb).trans g2, (hB.cell (p := ⟨b, off + k * 6 + 3, none⟩) hb).trans g3, (hB.cell (p := ⟨b, off + k * 6 + 4, none⟩) hb).trans g4, (hB.cell (p := ⟨b, off + k * 6 + 5, none⟩) hb).trans g5⟩, fun W hW => ?_, fun W hW => ?_⟩
    · exact is_any _ _ _ _ _ _ _ _ _ _ _ _ t da dims.length dc _ W _ _ _ ((hW.block _ (by omega)).trans h0) ((hW.block _ (by omega)).trans h2) ((hW.block _ (by omega)).trans h3) (fun W' hW' => HIH.out W' (Bt (Bt hB hW) hW') _ _ hx (List.getElem_mem hk))
    · exact isNot_any _ _ _ _ _ _ _ _ _ _ _ _ _ t da dims.length dc _ W _ _ _ _ ((hW.block _ (by omega)).trans h4) ((hW.block _ (by omega)).trans h0) ((hW.block _ (by omega)).trans h2) ((hW.block _ (by omega)).trans h3) (fun W' hW' => HIH.out W' (Bt (Bt hB hW) hW') _ _ hx (List.getElem_mem hk)))
  have HK : RowKit.Hid (∀ W a b, Below W0.heap.size W0 W → (W.alloc (.cells #[a, b] 44)).cell? ⟨w.heap.size + 1, 0, none⟩ = some (.int .i64 f.kind) ∧ (W.alloc (.cells #[a, b] 44)).cell? ⟨w.heap.size + 1, 1, none⟩ = some (.string f.name) ∧ (W.alloc (.cells #[a, b] 44)).cell? ⟨w.heap.size + 1, 2, none⟩ = some (.slice wa f.words.length capw) ∧ (W.alloc (.cells #[a, b] 44)).cell? ⟨w.heap.size + 1, 3, none⟩ = some (.int .i64 f.frm) ∧
      (W.alloc (.cells #[a, b] 44)).cell? ⟨w.heap.size + 1, 4, none⟩ = some (.int .i64 f.to) ∧ (W.alloc (.cells #[a, b] 44)).cell? ⟨w.heap.size + 1, 5, none⟩ = some (.slice za f.l.length zc) ∧ (W.alloc (.cells #[a, b] 44)).cell? ⟨w.heap.size + 1 + 1 + 1, 0, none⟩ = some (.slice da dims.length dc) ∧ W.cell? ⟨w.heap.size + 1 + 1 + 1, 0, none⟩ = some (.slice da dims.length dc) ∧
      (∀ i (hi : i < dims.length), ∃ b' off, da = some ⟨b', off, none⟩ ∧ W.cell? ⟨b', off + i * 2, none⟩ = some (.string dims[i].s) ∧ W.cell? ⟨b', off + i * 2 + 1, none⟩ = some (.bool dims[i].null) ∧ (W.alloc (.cells #[a, b] 44)).cell? ⟨b', off + i * 2, none⟩ = some (.string dims[i].s)) ∧
      Below w.heap.size w (W.alloc (.cells #[a, b] 44))) := Lib.hid (fun W a b hW => by
    have hA := (laid1 W (.cells #[a, b] 44)).2.2
    have hWA := Bt hW hA
    obtain ⟨y0, y1, y2, y3, y4, y5⟩ := right_cells6 hWA h1
    refine ⟨y0, y1, y2, y3, y4, y5, (cell_of_box ((hWA.block _ (by omega)).trans h3)).1, (cell_of_box ((hW.block _ (by omega)).trans h3)).1, fun i hi => ?_, Bt hB hWA⟩
    obtain ⟨b', off, ha, hb, _, hc⟩ := hvc (by omega)
    have hWw := Bt hB hW
    have hc0 := (hWw.cell (p := ⟨b', off + i * 2, none⟩) hb).trans (hc i hi).1
    refine ⟨b', off, ha, hc0, (hWw.cell (p := ⟨b', off + i * 2 + 1, none⟩) hb).trans (hc i hi).2, ((Bt hB hWA).cell (p := ⟨b', off + i * 2, none⟩) hb).trans (hc i hi).1⟩)
  have HW0 := Lib.hid hW0
  have HLL := Lib.hid hll
  have HB := Lib.hid hB
  have H4 := Lib.hid h4
  have hH := Fil.holds_eq s t dims f
  clear hW0 hB h0 h1 h2 h3 h4 hlc hll HIH hvc
  by_cases k7 : f.kind = 7
  · have e7 : (f.kind == (7 : Int)) = true := by rw [k7]; rfl
    have hl1 : f.l.length = 1 := by
      simp [Fil.own, k7, Fil.form, Fil.inW] at hown
      omega
    obtain ⟨b, off, hza, hb, c0, c1, c2, c3, c4, c5, ⟨g0, g1, g2, g3, g4, g5⟩, _, hcall⟩ := HEL.out 0 (by omega)
    rw [hH, show Fil.holdsW s t dims f (f.l.map (Fil.holds s t dims)) = !Fil.holds s t dims (f.l[0]'(by omega)) by simp [Fil.holdsW, k7, hl1]]
    have HX := Lib.hid (hcall W0 (Below.refl _ _))
    clear hcall
    generalize Fil.holds s t dims (f.l[0]'(by omega)) = r at *
    have hz : (0 : Int) < (f.l.length : Int) := by omega
    rw [Nat.zero_mul, Nat.add_zero] at g0 g1 g2 g3 g4 g5
    rw [← HW0.out] at g0 g1 g2 g3 g4 g5
    clear k7 hH hown HK hl1 HEL HDIM HWORD hb hS
    rw [hza] at g0 g1 g2 g3 g4 g5 HW0 ⊢
    clear hza
    go_enter Tryd.func32, Tryd.ntmps32
    go_wp2_with (go_at_call 58; rw [HW0.out]; refine HX.out.mono ?_; rintro e w2 ⟨rfl, hb2⟩; have HB2 := Lib.hid hb2; clear hb2)
    go_ret
    exact ⟨rfl, Bt HB.out HB2.out⟩
  have e7 : (f.kind == (7 : Int)) = false := by rw [beq_eq_false_iff_ne]; exact k7
  by_cases k8 : f.kind = 8
  · have e8 : (f.kind == (8 : Int)) = true := by rw [k8]; rfl
    have hr : Fil.holdsW s t dims f (f.l.map (Fil.holds s t dims)) = !(f.l.any fun x => !Fil.holds s t dims x) := by
      simp [Fil.holdsW, k8, List.all_eq_not_any_not]
      rfl
    rw [hH, hr]
    have HX := Lib.hid (contains_isNot (fun x => !Fil.holds s t dims x) f.l za zc (.pointer (some ⟨w.heap.size + 1 + 1 + 1 + 1, 0, none⟩)) W0 HLL.out (fun k hk => by
      obtain ⟨b, off, ha, hb, c0, c1, c2, c3, c4, c5, hc, _, h2⟩ := HEL.out k hk
      exact ⟨b, off, ha, hb, c0, c1, c2, c3, c4, c5, hc, h2⟩))
    clear k7 k8 hH hown HK HEL HDIM HWORD hS hr
    generalize (f.l.any fun x => !Fil.holds s t dims x) = r at *
    go_enter Tryd.func32, Tryd.ntmps32
    go_wp2_with (go_at_call 59; rw [HW0.out]; refine HX.out.mono ?_; rintro e w2 ⟨rfl, hb2⟩; have HB2 := Lib.hid hb2; clear hb2)
    go_ret
    exact ⟨rfl, Bt HB.out HB2.out⟩
  have e8 : (f.kind == (8 : Int)) = false := by rw [beq_eq_false_iff_ne]; exact k8
  by_cases k9 : f.kind = 9
  · have e9 : (f.kind == (9 : Int)) = true := by rw [k9]; rfl
    have hr : Fil.holdsW s t dims f (f.l.map (Fil.holds s t dims)) = (f.l.any fun x => Fil.holds s t dims x) := by
      simp [Fil.holdsW, k9]
    rw [hH, hr]
    have HX := Lib.hid (contains_is (fun x => Fil.holds s t dims x) f.l za zc (.pointer (some ⟨w.heap.size, 0, none⟩)) (.pointer (some ⟨w.heap.size + 1 + 1, 0, none⟩)) (.pointer (some ⟨w.heap.size + 1 + 1 + 1, 0, none⟩)) W0 HLL.out (fun k hk => by
      obtain ⟨b, off, ha, hb, c0, c1, c2, c3, c4, c5, hc, h1, _⟩ := HEL.out k hk
      exact ⟨b, off, ha, hb, c0, c1, c2, c3, c4, c5, hc, h1⟩))
    clear k7 k8 k9 hH hown HK HEL HDIM HWORD hS hr
    generalize (f.l.any fun x => Fil.holds s t dims x) = r at *
    go_enter Tryd.func32, Tryd.ntmps32
    go_wp2_with (go_at_call 59; rw [HW0.out]; refine HX.out.mono ?_; rintro e w2 ⟨rfl, hb2⟩; have HB2 := Lib.hid hb2; clear hb2)
    go_ret
    exact ⟨rfl, Bt HB.out HB2.out⟩
  have e9 : (f.kind == (9 : Int)) = false := by rw [beq_eq_false_iff_ne]; exact k9
  by_cases k6 : f.kind = 6
  · have e6 : (f.kind == (6 : Int)) = true := by rw [k6]; rfl
    rw [hH, show Fil.holdsW s t dims f (f.l.map (Fil.holds s t dims)) = Fil.spanHas f.frm f.to t by simp [Fil.holdsW, k6]]
    have HX := Lib.hid (gHas_any f.frm f.to t W0)
    clear k7 k8 k9 k6 hH hown HK HEL HDIM HWORD hS
    generalize Fil.spanHas f.frm f.to t = r at *
    go_enter Tryd.func32, Tryd.ntmps32
    go_wp2_with (go_at_call 60; rw [HW0.out]; refine HX.out.mono ?_; rintro e w2 ⟨rfl, hb2⟩; have HB2 := Lib.hid hb2; clear hb2)
    go_ret
    exact ⟨rfl, Bt HB.out HB2.out⟩
  have e6 : (f.kind == (6 : Int)) = false := by rw [beq_eq_false_iff_ne]; exact k6
  by_cases k1 : f.kind = 1
  · have e1 : (f.kind == (1 : Int)) = true := by rw [k1]; rfl
    rw [hH, show Fil.holdsW s t dims f (f.l.map (Fil.holds s t dims)) = true by simp [Fil.holdsW, k1]]
    clear k7 k8 k9 k6 k1 hH hown HK HEL HDIM HWORD hS
    go_enter Tryd.func32, Tryd.ntmps32
    go_wp2
    go_ret
    rw [HW0.out]
    exact ⟨rfl, HB.out⟩
  have e1 : (f.kind == (1 : Int)) = false := by rw [beq_eq_false_iff_ne]; exact k1
  rw [hH, show Fil.holdsW s t dims f (f.l.map (Fil.holds s t dims)) = Fil.holdsDim s dims f by simp [Fil.holdsW, k7, k8, k9, k6, k1]]
  have hd2 : (Tess.dimW s f.name).2 = true := by
    unfold Fil.own at hown
    split at hown
    · cases hown
    · rename_i hn hs' ws ls hform
      have hhn : hn = true := by
        unfold Fil.form at hform
        simp only [k7, k8, k9, k6, k1, if_false] at hform
        split at hform
        · simp at hform; exact hform.1
        split at hform
        · simp at hform; exact hform.1
        split at hform
        · simp at hform; exact hform.1
        split at hform
        · simp at hform; exact hform.1
        · cases hform
      simp only [Bool.and_eq_true] at hown
      have := hown.1.1.1.1.1
      rw [hhn] at this
      simpa using this
  have hw4 : f.kind = 4 → 1 ≤ f.words.length := fun h => by
    simp [Fil.own, h, Fil.form, Fil.inW] at hown; omega
  have hw5 : f.kind = 5 → 2 ≤ f.words.length := fun h => by
    simp [Fil.own, h, Fil.form, Fil.inW] at hown; omega
  have hlt := dim_lt s f.name hd2
  obtain ⟨i, hi⟩ : ∃ i, i = (Tess.dimW s f.name).1 := ⟨_, rfl⟩
  have hdim : Tess.dimW s f.name = (i, true) := by rw [hi, ← hd2]
  have hil : i < dims.length := by rw [HDL.out, hi]; exact hlt
  rw [hdim] at HDIM
  have hHD : Fil.holdsDim s dims f = (if dims[i].null || decide (f.kind = 3) then dims[i].null && decide (f.kind = 3) else Fil.isWord f dims[i].s) := by
    unfold Fil.holdsDim
    simp only [hdim]
    simp only [List.getD_eq_getElem?_getD, List.getElem?_eq_getElem hil, Option.getD_some]
  have HWO := Lib.hid (fun W (hB : Below w.heap.size w W) => HWORD.out dims[i].s W hB hw4 hw5)
  rw [hHD]
  obtain ⟨x, hx⟩ : ∃ x, x = dims[i] := ⟨_, rfl⟩
  rw [← hx] at HWO ⊢
  have HX := Lib.hid hx
  have hik : (i : Int) < (dims.length : Int) := by omega
  clear HEL HWORD hH hown hd2 hw4 hw5 hlt hi hdim hHD hx
  obtain ⟨xs, xn⟩ := x
  simp only at HWO ⊢
  cases xn <;> by_cases k3 : f.kind = 3
  · have e3 : (f.kind == (3 : Int)) = true := by rw [k3]; rfl
    rw [show (if false || decide (f.kind = 3) then false && decide (f.kind = 3) else Fil.isWord f xs) = false by simp [k3]]
    clear k7 k8 k9 k6 k1 k3
    go_enter Tryd.func32, Tryd.ntmps32
    go_wp2_with (go_at_call 61; rw [HW0.out]; refine (HDIM.out _ HB.out).mono ?_; rintro e w2 ⟨rfl, hb2⟩; have HB2 := Lib.hid hb2; obtain ⟨y0, y1, y2, y3, y4, y5, yd, zd, hel, hb3⟩ := HK.out w2 (.string xs) (.bool false) hb2; obtain ⟨b', off, rfl, z0, z1, z2⟩ := hel i hil; rw [← HX.out] at z0 z1 z2; simp only at z0 z1 z2; have HB3 := Lib.hid hb3; clear hb3 hb2 hel)
    go_ret
    exact ⟨rfl, HB3.out⟩
  · have e3 : (f.kind == (3 : Int)) = false := by rw [beq_eq_false_iff_ne]; exact k3
    rw [show (if false || decide (f.kind = 3) then false && decide (f.kind = 3) else Fil.isWord f xs) = Fil.isWord f xs by simp [k3]]
    clear k7 k8 k9 k6 k1 k3
    go_enter Tryd.func32, Tryd.ntmps32
    go_wp2_with (go_at_call 61; rw [HW0.out]; refine (HDIM.out _ HB.out).mono ?_; rintro e w2 ⟨rfl, hb2⟩; have HB2 := Lib.hid hb2; obtain ⟨y0, y1, y2, y3, y4, y5, yd, zd, hel, hb3⟩ := HK.out w2 (.string xs) (.bool false) hb2; obtain ⟨b', off, rfl, z0, z1, z2⟩ := hel i hil; rw [← HX.out] at z0 z1 z2; simp only at z0 z1 z2; have HB3 := Lib.hid hb3; clear hb3 hb2 hel)
    generalize hW3 : w2.alloc (.cells #[.string xs, .bool false] 44) = W3 at *
    have s1 : w.heap.size + 1 < W3.heap.size := World.block_lt_of_cell? _ _ y0
    have s3 : w.heap.size + 1 + 1 + 1 < W3.heap.size := World.block_lt_of_cell? _ _ yd
    have sb : b' < W3.heap.size := World.block_lt_of_cell? _ _ z2
    have HWR := Lib.hid (fun W hW => HWO.out W (Bt HB3.out hW))
    clear hW3 z0 z1 zd
    refine Flow.wp_region_flow (Flow.specs [.inl ?_, .inl ?_, .inl ?_, .inl ?_, .inl ?_, .inl ?_, .inl (.bool (Fil.isWord f xs)), .inl ?_]) (by kernel_rfl) (by kernel_rfl) ?_ ?_
    rotate_left 7
    · refine Flow.specs_mono ?_
      intro s hs
      simp only [List.mem_cons, List.not_mem_nil, or_false] at hs
      rcases hs with rfl | rfl | rfl | rfl | rfl | rfl | rfl | rfl <;> exact Flow.mono_inl _
    iterate 6 (refine Flow.tree_valK rfl (fun K hK => ⟨fun w hw hG => ?_, ?_⟩); (have hcl := Flow.bcell hw; clear hG hw; unfold Flow.Runs Flow.yields; go_simp; try rfl); go_simp; refine hK _ ?_; clear hK K)
    (refine Flow.tree_valK rfl (fun K hK => ⟨fun w hw hG => ?_, ?_⟩); (have HBW := Lib.hid hw; clear hG hw; unfold Flow.Runs Flow.yields; go_simp; exact HWR.out _ HBW.out); go_simp; refine hK _ ?_; clear hK K)
    (refine Flow.tree_valK rfl (fun K hK => ⟨fun w hw hG => ?_, ?_⟩); (clear hG hw; unfold Flow.Runs Flow.yields; go_simp; try rfl); go_simp; refine hK _ ?_; clear hK K)
    refine Flow.tree_nil fun w' hw hG => ?_
    clear hG
    go_wp2
    go_ret
    exact ⟨rfl, Bt HB3.out hw⟩
  · have e3 : (f.kind == (3 : Int)) = true := by rw [k3]; rfl
    rw [show (if true || decide (f.kind = 3) then true && decide (f.kind = 3) else Fil.isWord f xs) = true by simp [k3]]
    clear k7 k8 k9 k6 k1 k3
    go_enter Tryd.func32, Tryd.ntmps32
    go_wp2_with (go_at_call 61; rw [HW0.out]; refine (HDIM.out _ HB.out).mono ?_; rintro e w2 ⟨rfl, hb2⟩; have HB2 := Lib.hid hb2; obtain ⟨y0, y1, y2, y3, y4, y5, yd, zd, hel, hb3⟩ := HK.out w2 (.string xs) (.bool true) hb2; obtain ⟨b', off, rfl, z0, z1, z2⟩ := hel i hil; rw [← HX.out] at z0 z1 z2; simp only at z0 z1 z2; have HB3 := Lib.hid hb3; clear hb3 hb2 hel)
    go_ret
    exact ⟨rfl, HB3.out⟩
  · have e3 : (f.kind == (3 : Int)) = false := by rw [beq_eq_false_iff_ne]; exact k3
    rw [show (if true || decide (f.kind = 3) then true && decide (f.kind = 3) else Fil.isWord f xs) = false by simp [k3]]
    clear k7 k8 k9 k6 k1 k3
    go_enter Tryd.func32, Tryd.ntmps32
    go_wp2_with (go_at_call 61; rw [HW0.out]; refine (HDIM.out _ HB.out).mono ?_; rintro e w2 ⟨rfl, hb2⟩; have HB2 := Lib.hid hb2; obtain ⟨y0, y1, y2, y3, y4, y5, yd, zd, hel, hb3⟩ := HK.out w2 (.string xs) (.bool true) hb2; obtain ⟨b', off, rfl, z0, z1, z2⟩ := hel i hil; rw [← HX.out] at z0 z1 z2; simp only at z0 z1 z2; have HB3 := Lib.hid hb3; clear hb3 hb2 hel)
    go_ret
    exact ⟨rfl, HB3.out⟩
end Go.Proofs.YtdfnolgcdododaaDoor
