/- Where a name stands; a dimension's place. -/
import Derived.Test.YtdfnolgcdododaaDoorF8
namespace Go.Proofs.YtdfnolgcdododaaDoor
open Go.RowKit Go.Sort

set_option maxRecDepth 100000 in
set_option maxHeartbeats 2000000 in
theorem place_any (v vl : Value) (s : Tess.Sch) (l : List ByteArray) (x : ByteArray) (p : Nat → Prop) (w : World) (hv : SchAt p w v s) (hl : SlOf w vl (l.map .string)) :
    Calls Tryd.prog 93 #[v, vl, .string x] w fun e w' => e = .returned (.tuple #[.int .i64 ((Tess.placeW (Tess.schOk s) l x).1 : Nat), .bool (Tess.placeW (Tess.schOk s) l x).2]) ∧ Below w.heap.size w w' := by
  have HR := Lib.hid (fun W (hB : Below w.heap.size w W) => schRight_any v s p W (hv.ag (Ag.new p hB)))
  have HI := Lib.hid (fun W (hB : Below w.heap.size w W) => index_any vl l x W (hl.below hB))
  obtain ⟨vd, vm, rfl, hd, hm, _, _⟩ := hv
  obtain ⟨ad, capd, rfl, _⟩ := slp_len hd
  obtain ⟨am, capm, rfl, _⟩ := slp_len hm
  obtain ⟨al, capl, rfl, _, _⟩ := sls_open hl
  clear hd hm hl
  have HP : RowKit.Hid (∀ r, r = Tess.placeW (Tess.schOk s) l x → r = if Tess.schOk s && Tess.hasW l x then (Tess.idxW l x, true) else (0, false)) := Lib.hid fun r h => h
  obtain ⟨r, hr⟩ : ∃ r, r = Tess.placeW (Tess.schOk s) l x := ⟨_, rfl⟩
  rw [← hr]
  have HP2 := Lib.hid (HP.out r hr)
  clear hr HP
  cases hok : Tess.schOk s
  · rw [hok] at HR HP2
    have HP3 := Lib.hid (show r = (0, false) from HP2.out)
    obtain ⟨i, hi⟩ : ∃ i : Int, (if Tess.hasW l x then ((Tess.idxW l x : Nat) : Int) else -1) = i := ⟨_, rfl⟩
    rw [hi] at HI
    clear hi HP2
    rw [HP3.out]
    go_enter Tryd.func93, Tryd.ntmps93
    go_wp2_with (first
      | (go_at_call 121; refine (HI.out _ ((Below.refl _ _).alloc (Nat.le_refl _) _)).mono ?_; rintro e w2 ⟨rfl, rfl⟩)
      | (go_at_call 29; refine (HR.out _ ((Below.refl _ _).alloc (Nat.le_refl _) _)).mono ?_; rintro e w2 ⟨rfl, hB2⟩; have HB := Lib.hid (((Below.refl _ _).alloc (Nat.le_refl _) _).trans (hB2.mono (by simp))); clear hB2))
    go_ret2
    exact ⟨rfl, HB.out⟩
  · rw [hok] at HR HP2
    rw [Bool.true_and] at HP2
    cases hh : Tess.hasW l x
    · rw [hh] at HI HP2
      have HP3 := Lib.hid (show r = (0, false) from HP2.out)
      simp only [Bool.false_eq_true, if_false] at HI
      rw [HP3.out]
      go_enter Tryd.func93, Tryd.ntmps93
      go_wp2_with (first
        | (go_at_call 121; refine (HI.out _ ((Below.refl _ _).alloc (Nat.le_refl _) _)).mono ?_; rintro e w2 ⟨rfl, rfl⟩)
        | (go_at_call 29; refine (HR.out _ ((Below.refl _ _).alloc (Nat.le_refl _) _)).mono ?_; rintro e w2 ⟨rfl, hB2⟩; have HB := Lib.hid (((Below.refl _ _).alloc (Nat.le_refl _) _).trans (hB2.mono (by simp))); clear hB2))
      go_ret2
      exact ⟨rfl, HB.out⟩
    · rw [hh] at HI HP2
      have HP3 := Lib.hid (show r = (Tess.idxW l x, true) from HP2.out)
      simp only [if_true] at HI
      generalize Tess.idxW l x = n at *
      have hn : ¬ (n : Int) < 0 := by omega
      have hnd : decide ((n : Int) < 0) = false := decide_eq_false hn
      rw [HP3.out]
      go_enter Tryd.func93, Tryd.ntmps93
      go_wp2_with (first
        | (go_at_call 121; refine (HI.out _ ((Below.refl _ _).alloc (Nat.le_refl _) _)).mono ?_; rintro e w2 ⟨rfl, rfl⟩)
        | (go_at_call 29; refine (HR.out _ ((Below.refl _ _).alloc (Nat.le_refl _) _)).mono ?_; rintro e w2 ⟨rfl, hB2⟩; have HB := Lib.hid (((Below.refl _ _).alloc (Nat.le_refl _) _).trans (hB2.mono (by simp))); clear hB2))
      go_ret2
      exact ⟨rfl, HB.out⟩

set_option maxRecDepth 100000 in
set_option maxHeartbeats 1000000 in
theorem dim_any (v : Value) (s : Tess.Sch) (x : ByteArray) (p : Nat → Prop) (w : World) (hv : SchAt p w v s) :
    Calls Tryd.prog 61 #[v, .string x] w fun e w' => e = .returned (.tuple #[.int .i64 ((Tess.dimW s x).1 : Nat), .bool (Tess.dimW s x).2]) ∧ Below w.heap.size w w' := by
  have HV := Lib.hid hv
  obtain ⟨vd, vm, rfl, hd, hm, _, _⟩ := hv
  have HP := Lib.hid (fun W (hB : Below w.heap.size w W) => place_any _ vd s s.dims x p W (HV.out.ag (Ag.new p hB)) (hd.1.below hB))
  obtain ⟨ad, capd, rfl, _⟩ := slp_len hd
  obtain ⟨am, capm, rfl, _⟩ := slp_len hm
  clear hd hm
  have HD : RowKit.Hid (Tess.dimW s x = Tess.placeW (Tess.schOk s) s.dims x) := Lib.hid rfl
  rw [← HD.out] at HP
  generalize Tess.dimW s x = r at *
  obtain ⟨r1, r2⟩ := r
  simp only at HP
  go_enter Tryd.func61, Tryd.ntmps61
  go_wp2_with (go_at_call 93; refine (HP.out _ ((Below.refl _ _).alloc (Nat.le_refl _) _)).mono ?_; rintro e w2 ⟨rfl, hB2⟩; have HB := Lib.hid (((Below.refl _ _).alloc (Nat.le_refl _) _).trans (hB2.mono (by simp))); clear hB2)
  go_ret2
  exact ⟨rfl, HB.out⟩
end Go.Proofs.YtdfnolgcdododaaDoor
