/- dict.Prefix, Between. -/
import Derived.Test.YtpbecldgoimkmaaDoorD13
namespace Go.Proofs.YtpbecldgoimkmaaDoor
open Go.RowKit Go.Sort Go.Shelf

set_option maxRecDepth 100000 in
set_option maxHeartbeats 1000000 in
theorem prefix_any (v : Value) (l : List ByteArray) (p : ByteArray) (w : World) (hv : SlOf w v (l.map .string)) : Calls Tryd.prog 21 #[v, .string p] w (TwoPost (Tess.prefixW l p) w) := by
  obtain ⟨w0, hw0⟩ : ∃ w0, w0 = w.alloc (.cells #[.string p] 9) := ⟨_, rfl⟩
  have hB0 : Below w.heap.size w w0 := by rw [hw0]; exact (Below.refl _ _).alloc (Nat.le_refl _) _
  have c0 : w0.cell? ⟨w.heap.size, 0, none⟩ = some (.string p) := by rw [hw0]; exact cell_new_sl w _ _
  have hsz : w.heap.size < w0.heap.size := by rw [hw0]; simp
  have hV0 := hv.below hB0
  have hri := right_any v l w0 hV0
  have HW := Lib.hid hw0
  have HB0 := Lib.hid hB0
  unfold TwoPost Tess.prefixW
  cases hr : Tess.right l
  · rw [hr] at hri
    have HR := Lib.hid hri
    clear hri hv hV0 hw0 hB0 c0
    go_enter Tryd.func21, Tryd.ntmps21
    go_wp2_with (go_at_call 26; rw [← HW.out]; refine HR.out.mono ?_; rintro e w1 ⟨rfl, hB1⟩; have HB := Lib.hid hB1; clear hB1)
    go_ret2
    exact ⟨rfl, Bt HB0.out HB.out⟩
  · rw [hr] at hri
    have HR := Lib.hid hri
    have hlen := Tess.right_len l hr
    have hA := Tess.right_asc l hr
    have hu1 : ∀ W, Below w0.heap.size w0 W → Calls Tryd.prog 42 #[v, .func (.func 43) #[] #[.pointer (some ⟨w.heap.size, 0, none⟩)]] W fun e w' => e = .returned (.int .i64 (Tess.place l p : Nat)) ∧ Below W.heap.size W w' := fun W hB =>
      until_any v l 43 #[.pointer (some ⟨w.heap.size, 0, none⟩)] (fun y => Tess.bl y p) W (hV0.below hB) (enters_of Tryd.func43 (by kernel_rfl) rfl) (says_ahead1 _ p _ ((hB.cell (p := ⟨w.heap.size, 0, none⟩) hsz).trans c0)) (Tess.down_ahead l hA p) (by omega)
    have hu2 : ∀ W, Below w0.heap.size w0 W → Calls Tryd.prog 42 #[v, .func (.func 44) #[] #[.pointer (some ⟨w.heap.size, 0, none⟩)]] W fun e w' => e = .returned (.int .i64 (Tess.upTo (Tess.pre p) l (Tess.place l p) : Nat)) ∧ Below W.heap.size W w' := fun W hB => by
      rw [← Tess.prefix_upTo l hA p]
      exact until_any v l 44 #[.pointer (some ⟨w.heap.size, 0, none⟩)] (fun y => Tess.apre p y) W (hV0.below hB) (enters_of Tryd.func44 (by kernel_rfl) rfl) (says_prefix2 _ p _ ((hB.cell (p := ⟨w.heap.size, 0, none⟩) hsz).trans c0)) (Tess.down_pre l hA p) (by omega)
    have HU1 := Lib.hid hu1
    have HU2 := Lib.hid hu2
    clear hri hv hV0 hw0 hB0 c0 hu1 hu2 hA
    simp only [if_true]
    generalize Tess.upTo (Tess.pre p) l (Tess.place l p) = n2 at *
    generalize Tess.place l p = n1 at *
    go_enter Tryd.func21, Tryd.ntmps21
    go_wp2_with (first
      | (go_at_call 26; rw [← HW.out]; refine HR.out.mono ?_; rintro e w1 ⟨rfl, hB1⟩; have HB := Lib.hid hB1; clear hB1)
      | (go_at_call 42; refine (HU1.out _ HB.out).mono ?_; rintro e w1 ⟨rfl, hB1⟩; have HB := Lib.hid (Bt HB.out hB1); clear hB1)
      | (go_at_call 42; refine (HU2.out _ HB.out).mono ?_; rintro e w1 ⟨rfl, hB1⟩; have HB := Lib.hid (Bt HB.out hB1); clear hB1))
    go_ret2
    exact ⟨rfl, Bt HB0.out HB.out⟩

set_option maxRecDepth 100000 in
set_option maxHeartbeats 1000000 in
theorem between_any (v : Value) (l : List ByteArray) (x y : ByteArray) (w : World) (hv : SlOf w v (l.map .string)) : Calls Tryd.prog 23 #[v, .string x, .string y] w (TwoPost (Tess.betweenW l x y) w) := by
  obtain ⟨w0, hw0⟩ : ∃ w0, w0 = (w.alloc (.cells #[.string x] 9)).alloc (.cells #[.string y] 9) := ⟨_, rfl⟩
  have hB0 : Below w.heap.size w w0 := by rw [hw0]; exact ((Below.refl _ _).alloc (Nat.le_refl _) _).alloc (by simp) _
  have c0 : w0.cell? ⟨w.heap.size, 0, none⟩ = some (.string x) := by rw [hw0]; exact cell_alloc_sl _ (cell_new_sl w _ _)
  have c1 : w0.cell? ⟨w.heap.size + 1, 0, none⟩ = some (.string y) := by rw [hw0]; have := cell_new_sl (w.alloc (.cells #[.string x] 9)) (.string y) 9; rwa [World.size_alloc] at this
  have hsz : w.heap.size + 1 < w0.heap.size := by rw [hw0]; simp
  have hV0 := hv.below hB0
  have hri := right_any v l w0 hV0
  have HW := Lib.hid hw0
  have HB0 := Lib.hid hB0
  unfold TwoPost Tess.betweenW
  cases hr : Tess.right l
  · rw [hr] at hri
    have HR := Lib.hid hri
    clear hri hv hV0 hw0 hB0 c0 c1
    go_enter Tryd.func23, Tryd.ntmps23
    go_wp2_with (go_at_call 26; rw [← HW.out]; refine HR.out.mono ?_; rintro e w1 ⟨rfl, hB1⟩; have HB := Lib.hid hB1; clear hB1)
    go_ret2
    exact ⟨rfl, Bt HB0.out HB.out⟩
  · rw [hr] at hri
    have HR := Lib.hid hri
    have hlen := Tess.right_len l hr
    have hA := Tess.right_asc l hr
    have hbm := Tess.between_max l hA x y
    have hu1 : ∀ W, Below w0.heap.size w0 W → Calls Tryd.prog 42 #[v, .func (.func 46) #[] #[.pointer (some ⟨w.heap.size, 0, none⟩)]] W fun e w' => e = .returned (.int .i64 (Tess.place l x : Nat)) ∧ Below W.heap.size W w' := fun W hB =>
      until_any v l 46 #[.pointer (some ⟨w.heap.size, 0, none⟩)] (fun z => Tess.bl z x) W (hV0.below hB) (enters_of Tryd.func46 (by kernel_rfl) rfl) (says_between1 _ x _ ((hB.cell (p := ⟨w.heap.size, 0, none⟩) (by show w.heap.size < _; omega)).trans c0)) (Tess.down_ahead l hA x) (by omega)
    have hu2 : ∀ W, Below w0.heap.size w0 W → Calls Tryd.prog 42 #[v, .func (.func 47) #[] #[.pointer (some ⟨w.heap.size + 1, 0, none⟩)]] W fun e w' => e = .returned (.int .i64 ((l.findIdx fun z => !!Tess.bl y z) : Nat)) ∧ Below W.heap.size W w' := fun W hB =>
      until_any v l 47 #[.pointer (some ⟨w.heap.size + 1, 0, none⟩)] (fun z => !Tess.bl y z) W (hV0.below hB) (enters_of Tryd.func47 (by kernel_rfl) rfl) (says_between2 _ y _ ((hB.cell (p := ⟨w.heap.size + 1, 0, none⟩) hsz).trans c1)) (Tess.down_behind l hA y) (by omega)
    have HU1 := Lib.hid hu1
    have HU2 := Lib.hid hu2
    clear hri hv hV0 hw0 hB0 c0 c1 hu1 hu2 hA
    simp only [if_true]
    rw [← hbm]
    clear hbm
    generalize (l.findIdx fun z => !!Tess.bl y z) = n2 at *
    generalize Tess.place l x = n1 at *
    go_enter Tryd.func23, Tryd.ntmps23
    go_wp2_with (first
      | (go_at_call 26; rw [← HW.out]; refine HR.out.mono ?_; rintro e w1 ⟨rfl, hB1⟩; have HB := Lib.hid hB1; clear hB1)
      | (go_at_call 42; refine (HU1.out _ HB.out).mono ?_; rintro e w1 ⟨rfl, hB1⟩; have HB := Lib.hid (Bt HB.out hB1); clear hB1)
      | (go_at_call 42; refine (HU2.out _ HB.out).mono ?_; rintro e w1 ⟨rfl, hB1⟩; have HB := Lib.hid (Bt HB.out hB1); clear hB1))
    go_ret2
    exact ⟨by rw [show ((max n1 n2 : Nat) : Int) = max (n1 : Int) (n2 : Int) by omega]; rfl, Bt HB0.out HB.out⟩
end Go.Proofs.YtpbecldgoimkmaaDoor
