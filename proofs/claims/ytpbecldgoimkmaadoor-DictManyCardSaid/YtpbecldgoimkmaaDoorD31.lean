/- What is shown of a dictionary: its bytes, computed. -/
import Derived.Test.YtpbecldgoimkmaaDoorD30
namespace Tess
def wab : ByteArray := ⟨#[97, 98]⟩
def wabc : ByteArray := ⟨#[97, 98, 99]⟩
def wb : ByteArray := ⟨#[98]⟩
def sh3 : List ByteArray := [wab, wabc, wb]
theorem fits_list (l : List ByteArray) (i : Nat) : fits l i = (decide ((l.getD i w0).size ≤ 100) && (i == 0 || decide ((l.getD (i - 1) w0).data.toList < (l.getD i w0).data.toList))) := by
  unfold fits; rw [bl_lt, tl, tl]
theorem right_sh3 : right sh3 = true := by
  unfold right rightTo
  rw [show fits sh3 = fun i => (decide ((sh3.getD i w0).size ≤ 100) && (i == 0 || decide ((sh3.getD (i - 1) w0).data.toList < (sh3.getD i w0).data.toList))) from funext (fits_list sh3)]
  decide
theorem enc_sh3 : encW sh3 = (⟨#[3, 0, 2, 97, 98, 2, 1, 99, 0, 1, 98]⟩, 0) := by
  unfold encW
  rw [if_pos right_sh3]
  have h1 : one w0 wab = [0, 2, 97, 98] := by
    unfold one
    rw [show shared w0 wab = 0 by decide, show wab.size - 0 = 2 from rfl, putL_lt 0 (by decide), putL_lt 2 (by decide)]
    rfl
  have h2 : one wab wabc = [2, 1, 99] := by
    unfold one
    rw [show shared wab wabc = 2 by decide, show wabc.size - 2 = 1 from rfl, putL_lt 2 (by decide), putL_lt 1 (by decide)]
    rfl
  have h3 : one wabc wb = [0, 1, 98] := by
    unfold one
    rw [show shared wabc wb = 0 by decide, show wb.size - 0 = 1 from rfl, putL_lt 0 (by decide), putL_lt 1 (by decide)]
    rfl
  have h4 : encL sh3 = [3, 0, 2, 97, 98, 2, 1, 99, 0, 1, 98] := by
    show putL 3 ++ ((([] ++ one w0 wab) ++ one wab wabc) ++ one wabc wb) = _
    rw [h1, h2, h3, putL_lt 3 (by decide)]
    rfl
  rw [h4]
theorem find_sh3 : findW sh3 wabc = (1, true) := by
  have h1 : bl wab wabc = true := by rw [bl_lt, tl, tl]; decide
  have hp : place sh3 wabc = 1 := by
    unfold place sh3
    rw [List.findIdx_cons, h1]
    simp [List.findIdx_cons, bl_irrefl]
  unfold findW
  rw [if_pos right_sh3, hp]
  rfl
theorem get1 : getW ⟨#[1, 1, 0]⟩ = (1, ⟨#[1, 0]⟩, 0) := by
  unfold getW
  rw [show stop (⟨#[1, 1, 0]⟩ : ByteArray).data.toList = 0 by decide, if_pos (by decide), if_pos (by decide)]
  rfl
theorem get2 : getW ⟨#[1, 0]⟩ = (1, ⟨#[0]⟩, 0) := by
  unfold getW
  rw [show stop (⟨#[1, 0]⟩ : ByteArray).data.toList = 0 by decide, if_pos (by decide), if_pos (by decide)]
  rfl
theorem dec_110 : (decW ⟨#[1, 1, 0]⟩).2.2 = 50 := by
  have h1 : numW ⟨#[1, 1, 0]⟩ 1000 = (1, ⟨#[1, 0]⟩, 0) := by unfold numW; simp only [get1, if_true]; rfl
  have h2 : numW ⟨#[1, 0]⟩ w0.size = (0, ⟨#[1, 0]⟩, 50) := by unfold numW; simp only [get2, if_true]; rfl
  have h3 := wordW_of ⟨#[1, 0]⟩ w0 0 _ ⟨#[1, 0]⟩ _ 50 _ h2 rfl
  rw [if_neg (by decide)] at h3
  have h4 : wordsW 1 ⟨#[1, 0]⟩ w0 = ([], ⟨#[1, 0]⟩, 50) := by simp only [wordsW, h3]; rfl
  rw [decW_of _ _ _ _ h1, if_pos rfl, h4]
  rfl
end Tess
namespace Go.Proofs.YtpbecldgoimkmaaDoor
open Go.RowKit Go.Sort Go.Shelf

set_option maxRecDepth 100000 in
set_option maxHeartbeats 1000000 in
theorem shown_any (a0 a1 : Addr) (w : World) (hv : Vars a0 a1 w) : Calls Tryd.prog 10 #[] w fun e w' => e = .returned (.bool true) ∧ Below w.heap.size w w' := by
  have hsl : ∀ W : World, SlOf (W.alloc (.cells #[.string Tess.wab, .string Tess.wabc, .string Tess.wb] 9)) (.slice (some ⟨W.heap.size, 0, none⟩) 3 3) (Tess.sh3.map .string) := fun W => by
    refine ⟨by decide, some ⟨W.heap.size, 0, none⟩, 3, rfl, fun _ => ⟨W.heap.size, 0, rfl, by simp, fun i hi => ?_⟩⟩
    have h := World.alloc_heap_new W (.cells #[.string Tess.wab, .string Tess.wabc, .string Tess.wb] 9)
    have hc : ∀ j, (W.alloc (.cells #[.string Tess.wab, .string Tess.wabc, .string Tess.wb] 9)).cell? ⟨W.heap.size, j, none⟩ = (#[.string Tess.wab, .string Tess.wabc, .string Tess.wb] : Array Value)[j]? := fun j => Lib.cell_of_heap h j
    rw [hc]
    have hi3 : i < 3 := hi
    match i, hi3 with
    | 0, _ => rfl
    | 1, _ => rfl
    | 2, _ => rfl
  have henc := fun W => encode_any _ Tess.sh3 _ (hsl W)
  have hfnd := fun W => find_any _ Tess.sh3 Tess.wabc _ (hsl W)
  have hdec : ∀ W, Below w.heap.size w W → Calls Tryd.prog 14 #[.string ⟨#[1, 1, 0]⟩] W fun e w' => ∃ v r, e = .returned (.tuple #[v, r, .int .i64 50]) ∧ Below W.heap.size W w' := fun W hB =>
    (decode_any a0 a1 ⟨#[1, 1, 0]⟩ W (hv.below hB) (by decide)).mono fun e w' ⟨v, he, _, hb⟩ => ⟨v, .string (Tess.decW ⟨#[1, 1, 0]⟩).2.1, by rw [he, Tess.dec_110]; rfl, hb⟩
  unfold EncPost at henc
  unfold FindPost at hfnd
  rw [Tess.enc_sh3] at henc
  rw [Tess.find_sh3] at hfnd
  have HE := Lib.hid henc
  have HF := Lib.hid hfnd
  have HD := Lib.hid hdec
  clear henc hfnd hdec hsl hv
  go_enter Tryd.func10, Tryd.ntmps10
  go_wp2_with (first
    | (go_at_call 12; refine (HE.out _).mono ?_; rintro e w1 ⟨rfl, hB1⟩; have HB := Lib.hid (Bt ((Below.refl _ _).alloc (Nat.le_refl _) _) hB1); clear hB1)
    | (go_at_call 19; refine (HF.out _).mono ?_; rintro e w1 ⟨rfl, hB1⟩; have HB := Lib.hid (Bt (Bt HB.out ((Below.refl _ _).alloc (Nat.le_refl _) _)) hB1); clear hB1)
    | (go_at_call 14; refine (HD.out _ HB.out).mono ?_; rintro e w1 ⟨v, r, rfl, hB1⟩; have HB := Lib.hid (Bt HB.out hB1); clear hB1))
  go_ret
  exact ⟨rfl, HB.out⟩
end Go.Proofs.YtpbecldgoimkmaaDoor
