/- Is a word one that a filter asks for? The program's, walked. -/
import Derived.Sort.Walk0
import Derived.Test.YtdfnolgcdododaaDoorSh
import Derived.Test.YtdfnolgcdododaaDoorF22
namespace Go.Proofs.YtdfnolgcdododaaDoor
open Go.RowKit Go.Sort Go.Shelf
open Tess (Fil)

theorem _root_.Tess.bl_lt (a b : ByteArray) : Tess.bl a b = decide (a.toList < b.toList) := bytesLess_eq _ _
theorem _root_.Tess.bl_irrefl (a : ByteArray) : Tess.bl a a = false := by rw [Tess.bl_lt]; exact decide_eq_false (List.lt_irrefl _)
theorem _root_.Tess.bl_trans {a b c : ByteArray} (h : Tess.bl a b = true) (h' : Tess.bl b c = true) : Tess.bl a c = true := by
  rw [Tess.bl_lt] at *; exact decide_eq_true (List.lt_trans (of_decide_eq_true h) (of_decide_eq_true h'))
theorem _root_.Tess.toList_inj {a b : ByteArray} (h : a.toList = b.toList) : a = b := str_eq' (by rw [h]; simp)
theorem _root_.Tess.bl_antisymm {a b : ByteArray} (h : Tess.bl a b = false) (h' : Tess.bl b a = false) : a = b := by
  rw [Tess.bl_lt] at *
  exact Tess.toList_inj (List.le_antisymm (List.not_lt.1 (of_decide_eq_false h')) (List.not_lt.1 (of_decide_eq_false h)))
theorem leq_not (x p : ByteArray) : (Op.bytesLess x.toList p.toList || x.toList == p.toList) = !Tess.bl p x := by
  cases h : Tess.bl x p
  · rw [show Op.bytesLess x.toList p.toList = false from h, Bool.false_or]
    cases h2 : Tess.bl p x
    · have := Tess.bl_antisymm h h2
      subst this
      simp
    · have hne : x.toList ≠ p.toList := fun e => by rw [Tess.toList_inj e, Tess.bl_irrefl] at h2; cases h2
      simpa using hne
  · rw [show Op.bytesLess x.toList p.toList = true from h]
    cases h2 : Tess.bl p x
    · rfl
    · have := Tess.bl_trans h h2
      rw [Tess.bl_irrefl] at this; cases this

set_option maxRecDepth 100000 in
theorem isWord_any (p : Nat → Prop) (n : Nat) (v : Value) (f : Fil) (x : ByteArray) (w : World) (hf : FilAt p n w v f) (h4 : f.kind = 4 → 1 ≤ f.words.length) (h5 : f.kind = 5 → 2 ≤ f.words.length) :
    Calls Tryd.prog 62 #[v, .string x] w fun e w' => e = .returned (.bool (Fil.isWord f x)) ∧ Below w.heap.size w w' := by
  cases n with
  | zero => exact hf.elim
  | succ n =>
  obtain ⟨vw, za, zc, rfl, _, hw, _, _, _, _⟩ := hf
  have hw := hw.1
  obtain ⟨wa, wc, rfl, hl, hc⟩ := sls_open hw
  have hB := (laid1 w (.cells #[.int .i64 f.kind, .string f.name, .slice wa f.words.length wc, .int .i64 f.frm, .int .i64 f.to, .slice za f.l.length zc] 29)).2.2
  have HCELL : RowKit.Hid (∀ k (hk : k < f.words.length), ∃ b off, wa = some ⟨b, off, none⟩ ∧ (w.alloc (.cells #[.int .i64 f.kind, .string f.name, .slice wa f.words.length wc, .int .i64 f.frm, .int .i64 f.to, .slice za f.l.length zc] 29)).cell? ⟨b, off + k, none⟩ = some (.string (f.words.getD k ByteArray.empty))) := Lib.hid fun k hk => by
    obtain ⟨b, off, ha, hb, hcl⟩ := hc k hk
    refine ⟨b, off, ha, ?_⟩
    rw [hB.cell (p := ⟨b, off + k, none⟩) hb, hcl]
    simp [hk]
  have HC := Lib.hid (contains_any _ f.words x _ (hw.below hB))
  have HB := Lib.hid hB
  clear hw hc hB
  by_cases k4 : f.kind = 4
  · have hr : Fil.isWord f x = (f.words.getD 0 ByteArray.empty).data.toList.isPrefixOf x.data.toList := by simp [Fil.isWord, k4]
    have e4 : (f.kind == (4 : Int)) = true := by rw [k4]; rfl
    have hlen := h4 k4
    clear k4 h4 h5
    rw [hr]
    obtain ⟨b, off, rfl, h0⟩ := HCELL.out 0 hlen
    rw [Nat.add_zero] at h0
    generalize f.words.getD 0 ByteArray.empty = y0 at *
    have HP := Lib.hid (Tryd.strings_HasPrefix x y0)
    have hz : (0 : Int) < (f.words.length : Int) := by omega
    go_enter Tryd.func62, Tryd.ntmps62
    go_wp2_with (go_at_call 94; refine (HP.out _).mono ?_; rintro e W1 ⟨rfl, rfl⟩)
    go_ret
    exact ⟨rfl, HB.out⟩
  have e4 : (f.kind == (4 : Int)) = false := by rw [beq_eq_false_iff_ne]; exact k4
  by_cases k5 : f.kind = 5
  · have hr : Fil.isWord f x = (!Tess.bl x (f.words.getD 0 ByteArray.empty) && !Tess.bl (f.words.getD 1 ByteArray.empty) x) := by simp [Fil.isWord, k5]
    have e5 : (f.kind == (5 : Int)) = true := by rw [k5]; rfl
    have hlen := h5 k5
    clear k4 k5 h4 h5
    rw [hr]
    obtain ⟨b, off, rfl, h0⟩ := HCELL.out 0 (by omega)
    obtain ⟨b', off', hh, h1⟩ := HCELL.out 1 (by omega)
    obtain ⟨rfl, rfl⟩ : b' = b ∧ off' = off := by cases hh; exact ⟨rfl, rfl⟩
    clear hh
    rw [Nat.add_zero] at h0
    generalize f.words.getD 0 ByteArray.empty = y0 at *
    generalize f.words.getD 1 ByteArray.empty = y1 at *
    have hz : (0 : Int) < (f.words.length : Int) := by omega
    have hz1 : (1 : Int) < (f.words.length : Int) := by omega
    rw [← leq_not x y1]
    cases hA : Tess.bl x y0
    · have hbl : Op.bytesLess x.toList y0.toList = false := hA
      clear hA
      go_enter Tryd.func62, Tryd.ntmps62
      go_wp2
      go_ret
      exact ⟨rfl, HB.out⟩
    · have hbl : Op.bytesLess x.toList y0.toList = true := hA
      clear hA
      go_enter Tryd.func62, Tryd.ntmps62
      go_wp2
      go_ret
      exact ⟨rfl, HB.out⟩
  have e5 : (f.kind == (5 : Int)) = false := by rw [beq_eq_false_iff_ne]; exact k5
  have hr : Fil.isWord f x = Tess.hasW f.words x := by simp [Fil.isWord, k4, k5]
  rw [hr]
  clear k4 k5 h4 h5
  go_enter Tryd.func62, Tryd.ntmps62
  go_wp2_with (go_at_call 95; refine HC.out.mono ?_; rintro e W1 ⟨rfl, rfl⟩)
  go_ret
  exact ⟨rfl, HB.out⟩
end Go.Proofs.YtdfnolgcdododaaDoor
