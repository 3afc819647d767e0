/- dict.Find, Prefix, Between. -/
import Derived.Test.YtpbecldgoimkmaaDoorD12
namespace Go.Proofs.YtpbecldgoimkmaaDoor
open Go.RowKit Go.Sort Go.Shelf

theorem says_ahead1 (bp : Nat) (p : ByteArray) (w : World) (hp : w.cell? ⟨bp, 0, none⟩ = some (.string p)) : Says 43 #[.pointer (some ⟨bp, 0, none⟩)] (fun y => Tess.bl y p) w := by
  intro x n os
  have q1 := cell_grown (World.block_lt_of_cell? _ _ hp) hp n os
  generalize grow (w.drewN n) os = W at q1
  clear hp
  go_enter Tryd.func43, Tryd.ntmps43
  go_wp2
  go_ret
  exact ⟨rfl, 0, #[], by rw [grow_empty]; rfl⟩

theorem says_between1 (bp : Nat) (p : ByteArray) (w : World) (hp : w.cell? ⟨bp, 0, none⟩ = some (.string p)) : Says 46 #[.pointer (some ⟨bp, 0, none⟩)] (fun y => Tess.bl y p) w := by
  intro x n os
  have q1 := cell_grown (World.block_lt_of_cell? _ _ hp) hp n os
  generalize grow (w.drewN n) os = W at q1
  clear hp
  go_enter Tryd.func46, Tryd.ntmps46
  go_wp2
  go_ret
  exact ⟨rfl, 0, #[], by rw [grow_empty]; rfl⟩

theorem leq_not (x p : ByteArray) : (Op.bytesLess x.toList p.toList || x.toList == p.toList) = !Tess.bl p x := by
  cases h : Tess.bl x p
  · rw [show Op.bytesLess x.toList p.toList = false from h, Bool.false_or]
    cases h2 : Tess.bl p x
    · have := Tess.bl_antisymm h h2
      subst this
      simp
    · have hne : x.toList ≠ p.toList := fun e => by rw [Tess.toList_inj e, Tess.bl_irrefl] at h2; cases h2
      simpa using hne
  · rw [show Op.bytesLess x.toList p.toList = true from h]
    cases h2 : Tess.bl p x
    · rfl
    · have := Tess.bl_trans h h2
      rw [Tess.bl_irrefl] at this; cases this

theorem says_between2 (bp : Nat) (p : ByteArray) (w : World) (hp : w.cell? ⟨bp, 0, none⟩ = some (.string p)) : Says 47 #[.pointer (some ⟨bp, 0, none⟩)] (fun y => !Tess.bl p y) w := by
  intro x n os
  have q1 := cell_grown (World.block_lt_of_cell? _ _ hp) hp n os
  generalize grow (w.drewN n) os = W at q1
  clear hp
  go_enter Tryd.func47, Tryd.ntmps47
  go_wp2
  go_ret
  exact ⟨by rw [← leq_not]; rfl, 0, #[], by rw [grow_empty]; rfl⟩

theorem says_prefix2 (bp : Nat) (p : ByteArray) (w : World) (hp : w.cell? ⟨bp, 0, none⟩ = some (.string p)) : Says 44 #[.pointer (some ⟨bp, 0, none⟩)] (fun y => Tess.apre p y) w := by
  intro x n os
  have q1 := cell_grown (World.block_lt_of_cell? _ _ hp) hp n os
  generalize grow (w.drewN n) os = W at q1
  clear hp
  have hH : ∀ W : World, Calls Tryd.prog 45 #[.string x, .string p] W fun e w' => e = .returned (.bool (Tess.pre p x)) ∧ w' = W := fun W => by
    have := Tryd.strings_HasPrefix x p W
    rwa [show Lib.hasPrefix x.data.toList p.data.toList = Tess.pre p x from Tess.isPre p x] at this
  have HH := Lib.hid hH
  clear hH
  unfold Tess.apre
  go_enter Tryd.func44, Tryd.ntmps44
  cases hxp : Tess.bl x p
  · have hbl : Op.bytesLess x.toList p.toList = false := hxp
    go_wp2_with (go_at_call 45; refine (HH.out _).mono ?_; rintro e w' ⟨rfl, rfl⟩)
    go_ret
    exact ⟨rfl, 0, #[], by rw [grow_empty]; rfl⟩
  · have hbl : Op.bytesLess x.toList p.toList = true := hxp
    go_wp2
    go_ret
    exact ⟨rfl, 0, #[], by rw [grow_empty]; rfl⟩

set_option maxHeartbeats 1000000 in
theorem bin_any (v : Value) (l : List ByteArray) (x : ByteArray) (w : World) (hv : SlOf w v (l.map .string)) (ha : Tess.Asc l) (hsz : l.length < 4611686018427387904) :
    Calls Tryd.prog 41 #[v, .string x] w fun e w' => e = .returned (.tuple #[.int .i64 (Tess.place l x : Nat), .bool (decide (Tess.place l x < l.length) && decide (l.getD (Tess.place l x) Tess.w0 = x))]) ∧ Below w.heap.size w w' := by
  obtain ⟨a, cap, rfl, hlen, hc⟩ := sls_open hv
  by_cases h0 : l.length = 0
  · have e0 : l = [] := List.length_eq_zero_iff.1 h0
    subst e0
    refine (Any2.slices_BinarySearch_string_empty Tryd.laysBin a cap x w).mono ?_
    rintro e w' ⟨rfl, rfl⟩
    exact ⟨rfl, Below.refl _ _⟩
  · obtain ⟨b, off, rfl, hb, _⟩ := hc 0 (by omega)
    have := Any2.slices_BinarySearch_string Tryd.laysBin b off l.length cap (fun i => l.getD i Tess.w0) x w hsz (fun j hj => by
      obtain ⟨b', off', he, _, hcell⟩ := hc j hj
      cases he
      show _ = some (Value.string (l.getD j Tess.w0))
      rw [Tess.getD_lt l j hj]; exact hcell)
    refine this.mono ?_
    rintro e w' ⟨rfl, q, rfl⟩
    rw [Tess.bs_place l ha x]
    exact ⟨by rw [Bool.decide_and], below_drewN (Below.refl _ _) _⟩

set_option maxHeartbeats 1000000 in
theorem find_any (v : Value) (l : List ByteArray) (x : ByteArray) (w : World) (hv : SlOf w v (l.map .string)) : Calls Tryd.prog 19 #[v, .string x] w (FindPost l x w) := by
  have hri := right_any v l w hv
  have HV := Lib.hid hv
  clear hv
  unfold FindPost Tess.findW
  cases hr : Tess.right l
  · rw [hr] at hri
    have HR := Lib.hid hri
    clear hri
    go_enter Tryd.func19, Tryd.ntmps19
    go_wp2_with (go_at_call 26; refine HR.out.mono ?_; rintro e w1 ⟨rfl, hB1⟩; have HB := Lib.hid hB1; clear hB1)
    go_ret2
    exact ⟨rfl, HB.out⟩
  · rw [hr] at hri
    have HR := Lib.hid hri
    have hlen := Tess.right_len l hr
    have HA := Lib.hid (Tess.right_asc l hr)
    clear hri
    go_enter Tryd.func19, Tryd.ntmps19
    go_wp2_with (first
      | (go_at_call 26; refine HR.out.mono ?_; rintro e w1 ⟨rfl, hB1⟩; have HB := Lib.hid hB1; clear hB1)
      | (go_at_call 41; refine (bin_any v l x _ (HV.out.below HB.out) HA.out (by omega)).mono ?_; rintro e w1 ⟨rfl, hB1⟩; have HB := Lib.hid (Bt HB.out hB1); clear hB1))
    go_ret2
    exact ⟨rfl, HB.out⟩
end Go.Proofs.YtpbecldgoimkmaaDoor
