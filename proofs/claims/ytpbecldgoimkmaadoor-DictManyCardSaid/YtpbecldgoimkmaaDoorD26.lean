/- dict's reader: number. -/
import Derived.Test.YtpbecldgoimkmaaDoorD25
namespace Tess
def numW (rest : ByteArray) (most : Nat) : Nat × ByteArray × Nat :=
  if (getW rest).2.2 = 0 then (if most < (getW rest).1 then (0, rest, 50) else ((getW rest).1, (getW rest).2.1, 0)) else (0, rest, (getW rest).2.2)
theorem getW_lt (s : ByteArray) : (getW s).1 < 18446744073709551616 := by
  unfold getW
  split
  · rename_i h
    split
    · rename_i hg
      have hk : stop s.data.toList < s.data.toList.length := by simp; omega
      have hall : ∀ j (hj : j < s.data.toList.length), j < stop s.data.toList → 128 ≤ s.data.toList[j].toNat := fun j hj hjs => by
        have := List.not_of_lt_findIdx (p := fun c : UInt8 => decide (c.toNat < 128)) (xs := s.data.toList.take 10) hjs
        rw [List.getElem_take] at this
        simpa using this
      have hst : s.data.toList[stop s.data.toList].toNat < 128 := by
        have h10 : stop s.data.toList < (s.data.toList.take 10).length := by simp; omega
        have := List.findIdx_getElem (p := fun c : UInt8 => decide (c.toNat < 128)) (xs := s.data.toList.take 10) (w := h10)
        have e : (s.data.toList.take 10)[stop s.data.toList] = s.data.toList[stop s.data.toList] := List.getElem_take
        rw [← e]
        exact of_decide_eq_true this
      exact (again s.data.toList (stop s.data.toList) hk (by omega) hall hst).2 hg
    · show 0 < _; omega
  · show 0 < _; omega
end Tess
namespace Go.Proofs.YtpbecldgoimkmaaDoor
open Go.RowKit Go.Sort Go.Shelf

/-- A reader at block p. -/
def Rd (p : Nat) (rest last : ByteArray) (w : World) : Prop := w.heap[p]? = some (.cells #[.string rest, .string last] 61 (0, 0))
section
variable {p : Nat} {rest last : ByteArray} {w w' : World}
theorem Rd.lt (h : Rd p rest last w) : p < w.heap.size := (Array.getElem?_eq_some_iff.1 h).1
theorem Rd.c0 (h : Rd p rest last w) : w.cell? ⟨p, 0, none⟩ = some (.string rest) := by unfold Rd at h; simp [World.cell?, h]
theorem Rd.c1 (h : Rd p rest last w) : w.cell? ⟨p, 1, none⟩ = some (.string last) := by unfold Rd at h; simp [World.cell?, h]
theorem Rd.z (h : Rd p rest last w) (i : Nat) : w.frozen? ⟨p, i, none⟩ = false := by unfold Rd at h; simp [World.frozen?, h]
theorem Rd.below (h : Rd p rest last w) (hb : Below w.heap.size w w') : Rd p rest last w' := (hb.block _ h.lt).trans h
theorem Rd.set0 (h : Rd p rest last w) (r : ByteArray) : Rd p r last (w.setCell ⟨p, 0, none⟩ (.string r)) := by
  unfold Rd at *
  simp [World.setCell, Array.getElem?_modify, h]
theorem Rd.set1 (h : Rd p rest last w) (r : ByteArray) : Rd p rest r (w.setCell ⟨p, 1, none⟩ (.string r)) := by
  unfold Rd at *
  simp [World.setCell, Array.getElem?_modify, h]
end

theorem Kept.of_below {p : Nat} {w w' : World} (h : Below w.heap.size w w') : Kept w.heap.size p w w' := ⟨h.os, h.tape, h.output, h.size, fun k hk _ => h.block k hk⟩
theorem Kept.on {p : Nat} {w w1 w2 : World} (h : Kept w.heap.size p w w1) (h' : Kept w1.heap.size p w1 w2) : Kept w.heap.size p w w2 :=
  ⟨h'.os.trans h.os, h'.tape.trans h.tape, h'.output.trans h.output, Nat.le_trans h.size h'.size, fun k h1 h2 => (h'.block k (Nat.lt_of_lt_of_le h1 h.size) h2).trans (h.block k h1 h2)⟩
theorem Kept.from {p : Nat} {wb w w' : World} (h : Kept w.heap.size p w w') (hb : Below wb.heap.size wb w) (hp : wb.heap.size ≤ p) : Below wb.heap.size wb w' :=
  ⟨h.os.trans hb.os, h.tape.trans hb.tape, h.output.trans hb.output, Nat.le_trans hb.size h.size, fun k hk => (h.block k (Nat.lt_of_lt_of_le hk hb.size) (by omega)).trans (hb.block k hk)⟩
theorem Kept.owns {p : Nat} {w w' : World} {base : Nat} {e : TypeId} {size : Nat} {v : Value} {n : Nat} {xs : List Value} (h : Kept w.heap.size p w w') (ho : w.ownsRow base e size v n xs) (hp : p < base) : w'.ownsRow base e size v n xs := by
  obtain ⟨h1, h2⟩ := ho
  refine ⟨h1, ?_⟩
  rcases h2 with h2 | ⟨g, cap, cur, hv, hb, hg, r⟩
  · exact .inl h2
  · exact .inr ⟨g, cap, cur, hv, hb, (h.block g (Array.getElem?_eq_some_iff.1 hg).1 (by omega)).trans hg, r⟩

set_option maxRecDepth 100000 in
set_option maxHeartbeats 1000000 in
theorem number_any (a0 a1 : Addr) (wb : World) (p most : Nat) (rest last : ByteArray) (w : World) (hv : Vars a0 a1 wb) (hB : Below wb.heap.size wb w) (hr : Rd p rest last w) (hm : most ≤ 1000) :
    Calls Tryd.prog 35 #[.pointer (some ⟨p, 0, none⟩), .int .i64 most] w fun e w' => e = .returned (.tuple #[.int .i64 ((Tess.numW rest most).1 : Nat), dErr (Tess.numW rest most).2.2]) ∧ Rd p (Tess.numW rest most).2.1 last w' ∧ Kept w.heap.size p w w' := by
  have hget := get_any a0 a1 rest w (hv.below hB)
  have hlt := Tess.getW_lt rest
  unfold GetPost at hget
  unfold Tess.numW
  obtain ⟨⟨n, r2, c⟩, hg⟩ : ∃ g, g = Tess.getW rest := ⟨_, rfl⟩
  rw [← hg] at hget hlt ⊢
  simp only at hget hlt ⊢
  have c0 := hr.c0
  have HR := Lib.hid hr
  have HG := Lib.hid hget
  clear hget hv hB hr hg
  by_cases hc : c = 0
  · subst hc
    by_cases hn : most < n
    · have hcond : (if (0 : Nat) = 0 then (if most < n then ((0 : Nat), rest, (50 : Nat)) else (n, r2, 0)) else (0, rest, 0)) = (0, rest, 50) := by rw [if_pos rfl, if_pos hn]
      rw [hcond]
      have hni : (most : Int) < (n : Int) := by omega
      have hw : IntKind.u64.wrap (most : Int) = (most : Int) := by go_bits; first | trivial | omega
      clear hcond
      go_enter Tryd.func35, Tryd.ntmps35
      go_wp2_with (first
        | (go_at_call 55; refine HG.out.mono ?_; rintro e w1 ⟨rfl, hB1⟩; have HB1 := Lib.hid hB1; clear hB1)
        | (go_at_call 56; refine (dfirst_any _ 50 _ (cell_new_sl _ _ _)).mono ?_; rintro e w2 ⟨rfl, rfl⟩))
      go_ret2
      exact ⟨rfl, (HR.out.below HB1.out).below ((Below.refl _ _).alloc (Nat.le_refl _) _), Kept.of_below (Bt HB1.out ((Below.refl _ _).alloc (Nat.le_refl _) _))⟩
    · have hcond : (if (0 : Nat) = 0 then (if most < n then ((0 : Nat), rest, (50 : Nat)) else (n, r2, 0)) else (0, rest, 0)) = (n, r2, 0) := by rw [if_pos rfl, if_neg hn]
      rw [hcond]
      have hni : ¬ (most : Int) < (n : Int) := by omega
      have hw : IntKind.u64.wrap (most : Int) = (most : Int) := by go_bits; first | trivial | omega
      have hw2 : IntKind.i64.wrap (n : Int) = (n : Int) := by go_bits; first | trivial | omega
      clear hcond
      go_enter Tryd.func35, Tryd.ntmps35
      go_wp2_with (go_at_call 55; refine HG.out.mono ?_; rintro e w1 ⟨rfl, hB1⟩; have HB1 := Lib.hid hB1; clear hB1; have d0 := (HR.out.below HB1.out).c0; have z0 := (HR.out.below HB1.out).z 0)
      go_ret2
      exact ⟨rfl, (HR.out.below HB1.out).set0 r2, (Kept.of_below HB1.out).trans (Kept.setCell _ _ _ _ _)⟩
  · have hcond : (if c = 0 then (if most < n then ((0 : Nat), rest, (50 : Nat)) else (n, r2, 0)) else (0, rest, c)) = (0, rest, c) := by rw [if_neg hc]
    rw [hcond]
    have hci : ((c : Int) != 0) = true := by rw [bne_iff_ne]; omega
    have hci2 : ¬ (c : Int) = 0 := by omega
    clear hcond
    go_enter Tryd.func35, Tryd.ntmps35
    go_wp2_with (first
      | (go_at_call 55; refine HG.out.mono ?_; rintro e w1 ⟨rfl, hB1⟩; have HB1 := Lib.hid hB1; clear hB1)
      | (go_at_call 56; refine (dfirst_any _ c _ (cell_new_sl _ _ _)).mono ?_; rintro e w2 ⟨rfl, rfl⟩))
    go_ret2
    exact ⟨rfl, (HR.out.below HB1.out).below ((Below.refl _ _).alloc (Nat.le_refl _) _), Kept.of_below (Bt HB1.out ((Below.refl _ _).alloc (Nat.le_refl _) _))⟩
end Go.Proofs.YtpbecldgoimkmaaDoor
