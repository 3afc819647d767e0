/- The statements' concrete filters. -/
import Derived.Test.YtdfnolgcdododaaDoorF27
namespace Go.Proofs.YtdfnolgcdododaaDoor
open Go.RowKit Go.Sort
open Tess (Fil)

def wA : ByteArray := ⟨#[97]⟩
def wB : ByteArray := ⟨#[98]⟩
def wX : ByteArray := ⟨#[120]⟩
def shS : Tess.Sch := ⟨[wA, wB], [], 1⟩
def shF : Fil := .mk 7 ByteArray.empty [] 0 0 [.mk 3 wB [] 0 0 []]
def shG : Fil := .mk 2 wA [wX] 0 0 []
def shZ : Fil := .mk 0 ByteArray.empty [] 0 0 []
def shD : List Tess.Val := [⟨wX, false⟩, ⟨ByteArray.empty, true⟩]
theorem sh_f : Fil.holdsE shS 0 shD shF = (false, 0) := by decide +kernel
theorem sh_g : Fil.holdsE shS 0 shD shG = (true, 0) := by decide +kernel
theorem sh_z : Fil.checkE shS shZ = 140 := by decide +kernel

theorem sl_row {w : World} {b : Nat} {t : TypeId} (l : List Value) (h : w.heap[b]? = some (.cells l.toArray t (0, 0))) (h0 : l.length ≤ maxLen) : SlP (fun _ => True) w (.slice (some ⟨b, 0, none⟩) l.length l.length) l :=
  ⟨⟨h0, _, _, rfl, fun _ => ⟨b, 0, rfl, (Array.getElem?_eq_some_iff.1 h).1, fun j hj => by rw [Nat.zero_add, cell_of_row w b j _ _ _ h]; simp [hj]⟩⟩, fun _ _ _ => trivial, fun n c e => by cases e⟩
theorem sh_sch {w : World} {b : Nat} {t : TypeId} (h : w.heap[b]? = some (.cells #[.string wA, .string wB] t (0, 0))) : SchAt (fun _ => True) w (.agg #[.slice (some ⟨b, 0, none⟩) 2 2, .slice none 0 0, .int .i64 1]) shS :=
  ⟨_, _, rfl, sl_row [.string wA, .string wB] h (by decide), SlP.nil _ _, (fun x hx => by simp [shS] at hx; rcases hx with rfl | rfl <;> decide), (fun x hx => by simp [shS] at hx)⟩
theorem sh_vals {w : World} {b : Nat} {t : TypeId} (h : w.heap[b]? = some (.cells #[.string wX, .bool false, .string ByteArray.empty, .bool true] t (0, 0))) : ValsAt (fun _ => True) w (.slice (some ⟨b, 0, none⟩) 2 2) shD := by
  refine ⟨_, _, rfl, by decide, (fun x hx => by simp [shD] at hx; rcases hx with rfl | rfl <;> decide), (fun e => by cases e), fun _ => ⟨b, 0, rfl, (Array.getElem?_eq_some_iff.1 h).1, trivial, fun j hj => ?_⟩⟩
  have : j = 0 ∨ j = 1 := by simp [shD] at hj; omega
  rcases this with rfl | rfl
  · exact ⟨cell_of_row w b 0 _ _ _ h, cell_of_row w b 1 _ _ _ h⟩
  · exact ⟨cell_of_row w b 2 _ _ _ h, cell_of_row w b 3 _ _ _ h⟩
theorem sh_leaf (w : World) (n : Nat) (k : Int) (nm : ByteArray) (hn : nm.size ≤ maxLen) : FilAt (fun _ => True) (n + 1) w (.agg #[.int .i64 k, .string nm, .slice none 0 0, .int .i64 0, .int .i64 0, .slice none 0 0]) (.mk k nm [] 0 0 []) :=
  ⟨_, _, _, rfl, hn, SlP.nil _ _, (fun x hx => by cases hx), Nat.zero_le _, fun _ => rfl, fun h => absurd h (by simp [Fil.l])⟩
theorem sh_filF {w : World} {b : Nat} {t : TypeId} (h : w.heap[b]? = some (.cells #[.int .i64 3, .string wB, .slice none 0 0, .int .i64 0, .int .i64 0, .slice none 0 0] t (0, 0))) : FilAt (fun _ => True) 2 w (.agg #[.int .i64 7, .string ByteArray.empty, .slice none 0 0, .int .i64 0, .int .i64 0, .slice (some ⟨b, 0, none⟩) 1 1]) shF := by
  refine ⟨_, _, _, rfl, by decide, SlP.nil _ _, (fun x hx => by cases hx), by decide, (fun e => by cases e), fun _ => ⟨b, 0, rfl, (Array.getElem?_eq_some_iff.1 h).1, trivial, fun j hj => ?_⟩⟩
  have : j = 0 := by simp [shF, Fil.l] at hj; omega
  subst this
  exact ⟨_, _, _, _, _, _, sh_leaf w 0 3 wB (by decide), cell_of_row w b 0 _ _ _ h, cell_of_row w b 1 _ _ _ h, cell_of_row w b 2 _ _ _ h, cell_of_row w b 3 _ _ _ h, cell_of_row w b 4 _ _ _ h, cell_of_row w b 5 _ _ _ h⟩
theorem sh_filG {w : World} {b : Nat} {t : TypeId} (h : w.heap[b]? = some (.cells #[.string wX] t (0, 0))) : FilAt (fun _ => True) 2 w (.agg #[.int .i64 2, .string wA, .slice (some ⟨b, 0, none⟩) 1 1, .int .i64 0, .int .i64 0, .slice none 0 0]) shG :=
  ⟨_, _, _, rfl, by decide, sl_row [.string wX] h (by decide), (fun x hx => by simp [shG, Fil.words] at hx; subst hx; decide), Nat.zero_le _, fun _ => rfl, fun h => absurd h (by simp [shG, Fil.l])⟩

set_option maxRecDepth 100000 in
set_option maxHeartbeats 1000000 in
theorem shown_any (a0 a1 : Addr) (w : World) (hV : Vars a0 a1 w) : Calls Tryd.prog 10 #[] w fun e w' => e = .returned (.bool true) ∧ Below w.heap.size w w' := by
  obtain ⟨W0, hW0⟩ : ∃ W0, ((((w.alloc (.cells #[.string ⟨#[97]⟩, .string ⟨#[98]⟩] 9)).alloc (.cells #[.slice (some ⟨w.heap.size, 0, none⟩) 2 2, .slice none 0 0, .int .i64 1] 24)).alloc (.cells #[.string ⟨#[120]⟩, .bool false, .string ⟨#[]⟩, .bool true] 44)).alloc (.cells #[.int .i64 3, .string ⟨#[98]⟩, .slice none 0 0, .int .i64 0, .int .i64 0, .slice none 0 0] 29)) = W0 := ⟨_, rfl⟩
  obtain ⟨h0, h1, h2, h3, hS, hB⟩ := laid4 w (.cells #[.string ⟨#[97]⟩, .string ⟨#[98]⟩] 9) (.cells #[.slice (some ⟨w.heap.size, 0, none⟩) 2 2, .slice none 0 0, .int .i64 1] 24) (.cells #[.string ⟨#[120]⟩, .bool false, .string ⟨#[]⟩, .bool true] 44) (.cells #[.int .i64 3, .string ⟨#[98]⟩, .slice none 0 0, .int .i64 0, .int .i64 0, .slice none 0 0] 29)
  rw [hW0] at h0 h1 h2 h3 hS hB
  have HF : RowKit.Hid (Calls Tryd.prog 15 #[.agg #[.slice (some ⟨w.heap.size, 0, none⟩) 2 2, .slice none 0 0, .int .i64 1], .agg #[.int .i64 7, .string ⟨#[]⟩, .slice none 0 0, .int .i64 0, .int .i64 0, .slice (some ⟨w.heap.size + 1 + 1 + 1, 0, none⟩) 1 1], .int .i64 0, .slice (some ⟨w.heap.size + 1 + 1, 0, none⟩) 2 2] W0 fun e w' => e = .returned (.tuple #[.bool false, .int .i64 0]) ∧ Below W0.heap.size W0 w') := Lib.hid (by
    have := fHolds_any a0 a1 (fun _ => True) 2 _ _ _ shS shF 0 shD W0 (hV.below hB) (sh_sch h0) (sh_filF h3) (sh_vals h2) (by omega) (by unfold kindsOk; decide +kernel)
    rw [sh_f] at this
    exact this)
  have HG : RowKit.Hid (∀ W, Below W0.heap.size W0 W → Calls Tryd.prog 15 #[.agg #[.slice (some ⟨w.heap.size, 0, none⟩) 2 2, .slice none 0 0, .int .i64 1], .agg #[.int .i64 2, .string ⟨#[97]⟩, .slice (some ⟨W.heap.size, 0, none⟩) 1 1, .int .i64 0, .int .i64 0, .slice none 0 0], .int .i64 0, .slice (some ⟨w.heap.size + 1 + 1, 0, none⟩) 2 2] (W.alloc (.cells #[.string ⟨#[120]⟩] 9)) fun e w' => e = .returned (.tuple #[.bool true, .int .i64 0]) ∧ Below (W.alloc (.cells #[.string ⟨#[120]⟩] 9)).heap.size (W.alloc (.cells #[.string ⟨#[120]⟩] 9)) w') := Lib.hid (fun W hW => by
    obtain ⟨k1, _, hA⟩ := laid1 W (.cells #[.string ⟨#[120]⟩] 9)
    have hWA := Bt hW hA
    have := fHolds_any a0 a1 (fun _ => True) 2 _ _ _ shS shG 0 shD _ (hV.below (Bt hB hWA)) (sh_sch ((hWA.block _ (by omega)).trans h0)) (sh_filG k1) (sh_vals ((hWA.block _ (by omega)).trans h2)) (by omega) (by unfold kindsOk; decide +kernel)
    rw [sh_g] at this
    exact this)
  have HZ : RowKit.Hid (∀ W, Below W0.heap.size W0 W → Calls Tryd.prog 14 #[.agg #[.slice (some ⟨w.heap.size, 0, none⟩) 2 2, .slice none 0 0, .int .i64 1], .agg #[.int .i64 0, .string ⟨#[]⟩, .slice none 0 0, .int .i64 0, .int .i64 0, .slice none 0 0]] W fun e w' => e = .returned (.int .i64 140) ∧ Below W.heap.size W w') := Lib.hid (fun W hW => by
    have := check_any a0 a1 (fun _ => True) 1 _ _ shS shZ W (hV.below (Bt hB hW)) (sh_sch ((hW.block _ (by omega)).trans h0)) (sh_leaf W 0 0 ByteArray.empty (by decide)) (by omega) (by unfold kindsOk; decide +kernel)
    rw [sh_z] at this
    exact this)
  have H1 := Lib.hid h1
  have HB := Lib.hid hB
  have HW0 := Lib.hid hW0
  clear h0 h1 h2 h3 hS hB hW0 hV
  go_enter Tryd.func10, Tryd.ntmps10
  go_wp2_with (first | (have hxx := HF; clear hxx; go_at_call 15; rw [HW0.out]; refine HF.out.mono ?_; rintro e w1 ⟨rfl, hB1⟩; obtain ⟨x0, x1, x2⟩ := right_cells3 hB1 H1.out; have HB1 := Lib.hid hB1; clear hB1 HF) | (have hxx := HG; clear hxx; go_at_call 15; refine (HG.out w1 HB1.out).mono ?_; rintro e w2 ⟨rfl, hB2⟩; have HB2 := Lib.hid (Bt (Bt HB1.out (laid1 w1 _).2.2) hB2); obtain ⟨z0, z1, z2⟩ := right_cells3 HB2.out H1.out; clear hB2 HG) | (go_at_call 14; refine (HZ.out w2 HB2.out).mono ?_; rintro e w3 ⟨rfl, hB3⟩; have HB3 := Lib.hid (Bt HB2.out hB3); clear hB3))
  go_ret
  exact ⟨rfl, Bt HB.out HB3.out⟩
end Go.Proofs.YtdfnolgcdododaaDoor
