/- until: how many words are ahead, as long as they are (sort.Search with a function of the caller's); its closures. -/
import Derived.Test.YtpbecldgoimkmaaDoorD12p
namespace Go.Proofs.YtpbecldgoimkmaaDoor
open Go.RowKit Go.Sort Go.Shelf

/-- What a caller's function says of a word; it draws and lays blocks, at most. -/
def Says (g : Nat) (cb : Array Value) (q : ByteArray → Bool) (w : World) : Prop :=
  ∀ (x : ByteArray) (n : Nat) (os : Array Obj), Calls Tryd.prog g (#[.string x] ++ cb) (grow (w.drewN n) os) fun e w' => e = .returned (.bool (q x)) ∧ ∃ k os', w' = grow ((grow (w.drewN n) os).drewN k) os'

set_option maxHeartbeats 1000000 in
theorem until1_any (g : Nat) (cb : Array Value) (q : ByteArray → Bool) (ba bf b off n cap i : Nat) (x : ByteArray) (W : World) (eg : ∀ args w, (callFunc g args).run Tryd.prog w = .ok (.enter g args) w) (hi : i < n)
    (hs : Says g cb q W) (ha : W.cell? ⟨ba, 0, none⟩ = some (.slice (some ⟨b, off, none⟩) n cap)) (hf : W.cell? ⟨bf, 0, none⟩ = some (.func (.func g) #[] cb)) (hc : W.cell? ⟨b, off + i, none⟩ = some (.string x)) :
    Calls Tryd.prog 61 (#[.int .i64 i] ++ #[.pointer (some ⟨bf, 0, none⟩), .pointer (some ⟨ba, 0, none⟩)]) W fun e w' => e = .returned (.bool (!q x)) ∧ ∃ k os, w' = grow (W.drewN k) os := by
  have hiz : (i : Int) < (n : Int) := by omega
  have H := Lib.hid (hs x)
  clear hs
  go_enter Tryd.func61, Tryd.ntmps61
  go_wp2
  have q1 := fun k os => cell_grown (World.block_lt_of_cell? _ _ ha) ha k os
  have q2 := fun k os => cell_grown (World.block_lt_of_cell? _ _ hf) hf k os
  have q3 := fun k os => cell_grown (World.block_lt_of_cell? _ _ hc) hc k os
  clear ha hf hc
  refine wp_region_quiet_grown (by kernel_rfl) (by kernel_rfl) ?_
  repeat (go_big_quiet_step (exact Calls.grown_of (H.out _ _)))
  refine wpQuiet_nil ?_
  intro _ hw'
  obtain ⟨⟨nq, osq⟩, hw''⟩ := hw'
  subst hw''
  go_wp2
  go_ret
  exact ⟨rfl, _, _, rfl⟩

theorem Says.later {g : Nat} {cb : Array Value} {q : ByteArray → Bool} {w w' : World} (h : Says g cb q w) (n : Nat) (os : Array Obj) (hw : w' = grow (w.drewN n) os) : Says g cb q w' := by
  subst hw
  intro x m os'
  have e : grow ((grow (w.drewN n) os).drewN m) os' = grow (w.drewN (n + m)) (os ++ os') := by
    show grow (grow ((w.drewN n).drewN m) os) os' = _
    rw [grow_grow, World.drewN_drewN]
  rw [e]; exact h x _ _

set_option maxHeartbeats 2000000 in
theorem until_any (v : Value) (l : List ByteArray) (g : Nat) (cb : Array Value) (q : ByteArray → Bool) (w : World) (hv : SlOf w v (l.map .string)) (eg : ∀ args w, (callFunc g args).run Tryd.prog w = .ok (.enter g args) w)
    (hs : Says g cb q w) (hm : ∀ a b, a ≤ b → b < l.length → q (l.getD a Tess.w0) = false → q (l.getD b Tess.w0) = false) (hsz : l.length < 4611686018427387904) :
    Calls Tryd.prog 42 #[v, .func (.func g) #[] cb] w fun e w' => e = .returned (.int .i64 ((l.findIdx fun y => !q y : Nat) : Int)) ∧ Below w.heap.size w w' := by
  obtain ⟨a, cap, rfl, hlen, hc⟩ := sls_open hv
  obtain ⟨W0, hW0⟩ : ∃ W0, W0 = (w.alloc (.cells #[.slice a l.length cap] 22)).alloc (.cells #[.func (.func g) #[] cb] 71) := ⟨_, rfl⟩
  have hsize : W0.heap.size = w.heap.size + 1 + 1 := by rw [hW0]; simp
  have ca : W0.cell? ⟨w.heap.size, 0, none⟩ = some (.slice a l.length cap) := by rw [hW0]; exact cell_alloc_sl _ (cell_new_sl w _ _)
  have cf : W0.cell? ⟨w.heap.size + 1, 0, none⟩ = some (.func (.func g) #[] cb) := by rw [hW0]; have := cell_new_sl (w.alloc (.cells #[.slice a l.length cap] 22)) (.func (.func g) #[] cb) 71; rwa [World.size_alloc] at this
  have hsW : Says g cb q W0 := hs.later 0 (#[.cells #[.slice a l.length cap] 22 (0, 0)] ++ #[.cells #[.func (.func g) #[] cb] 71 (0, 0)]) (by rw [hW0, ← grow_grow]; rfl)
  have eu : ∀ args w, (callFunc 61 args).run Tryd.prog w = .ok (.enter 61 args) w := enters_of Tryd.func61 (by kernel_rfl) rfl
  have hS := Any.sort_Search Tryd.laysSearch 61 #[.pointer (some ⟨w.heap.size + 1, 0, none⟩), .pointer (some ⟨w.heap.size, 0, none⟩)] l.length (fun i => !q (l.getD i Tess.w0)) W0 eu hsz
    (fun m os i hi => by
      obtain ⟨b, off, rfl, hb, hcell⟩ := hc i hi
      have hci : W0.cell? ⟨b, off + i, none⟩ = some (.string l[i]) := by rw [hW0]; exact cell_alloc_sl _ (cell_alloc_sl _ hcell)
      rw [Tess.getD_lt l i hi]
      exact until1_any g cb q w.heap.size (w.heap.size + 1) b off l.length cap i l[i] _ eg hi (hsW.later m os rfl) (cell_grown (by simp [hsize]; omega) ca m os) (cell_grown (by simp [hsize]) cf m os) (cell_grown (by simp [hsize]; omega) hci m os))
    (fun a b hab hb h => by
      have h' : q (l.getD a Tess.w0) = false := by simpa using h
      have := hm a b hab hb h'
      simpa using this)
  rw [Tess.count_down q l hm] at hS
  change Calls Tryd.prog 60 _ _ _ at hS
  clear hc ca cf hs hsW hm
  generalize (l.findIdx fun y => !q y) = r at hS ⊢
  have HS := Lib.hid hS
  have HW := Lib.hid hW0
  clear hS hW0
  go_enter Tryd.func42, Tryd.ntmps42
  go_wp2_with (go_at_call 60; rw [← HW.out]; refine HS.out.mono ?_; rintro e w' ⟨rfl, q, os, rfl⟩)
  go_ret
  refine ⟨rfl, ?_⟩
  have hB0 : Below w.heap.size w W0 := by rw [HW.out]; exact ((Below.refl _ w).alloc (Nat.le_refl _) _).alloc (by simp) _
  exact hB0.trans (below_grown_sl w.heap.size W0 q os (by omega))
end Go.Proofs.YtpbecldgoimkmaaDoor
