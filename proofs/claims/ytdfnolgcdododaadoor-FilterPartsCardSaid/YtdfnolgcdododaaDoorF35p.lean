/- Filters that ask for words: plain. -/
import Derived.Test.YtdfnolgcdododaaDoorF31p
namespace Tess
open Go
theorem distinct_ne : ∀ {l : List ByteArray}, distinct l = true → ∀ {i j : Nat} (hi : i < l.length) (hj : j < l.length), i < j → l[i] ≠ l[j]
  | [], _, _, _, hi, _, _ => absurd hi (by simp)
  | a :: r, h, i, j, hi, hj, hij => by
    simp only [distinct, Bool.and_eq_true, Bool.not_eq_true'] at h
    obtain ⟨j, rfl⟩ : ∃ k, j = k + 1 := ⟨j - 1, by omega⟩
    cases i with
    | zero =>
      intro e
      have hn := (hasW_not r a).1 h.1
      exact hn (by simp only [List.getElem_cons_zero, List.getElem_cons_succ] at e; rw [e]; exact List.getElem_mem _)
    | succ i =>
      simp only [List.getElem_cons_succ]
      exact distinct_ne h.2 _ _ (by omega)
/-- A right schema's dimension is found at its place. -/
theorem dimW_at (s : Sch) (h : schOk s = true) (k : Nat) (hk : k < s.dims.length) : dimW s s.dims[k] = (k, true) := by
  unfold dimW placeW
  have hw : hasW s.dims s.dims[k] = true := (hasW_iff _ _).2 (List.getElem_mem hk)
  rw [h, hw, Bool.and_self, if_pos rfl]
  refine congrArg (·, true) (idxW_at _ _ k hk rfl fun j hj hjk => ?_)
  have hd : distinct (s.dims ++ s.mets) = true := by
    unfold schOk namesOk at h
    simp only [Bool.and_eq_true] at h
    exact h.2.1
  have := distinct_ne hd (i := j) (j := k) (by simp; omega) (by simp; omega) hjk
  rwa [List.getElem_append_left hj, List.getElem_append_left hk] at this
namespace Fil
def fIs (nm : ByteArray) (ws : List ByteArray) : Fil := .mk 2 nm ws 0 0 []
theorem is_own (s : Sch) (nm : ByteArray) (u v : List ByteArray) (hu : 1 ≤ u.length ∧ u.length ≤ 8) (hv : 1 ≤ v.length ∧ v.length ≤ 8) (h : ∀ x, x ∈ u ↔ x ∈ v) : own s (fIs nm u) = own s (fIs nm v) := by
  have e : (u.any fun x => decide (100 < x.size)) = v.any fun x => decide (100 < x.size) := by
    rw [Bool.eq_iff_iff]; simp only [List.any_eq_true]; exact ⟨fun ⟨x, hx, q⟩ => ⟨x, (h x).1 hx, q⟩, fun ⟨x, hx, q⟩ => ⟨x, (h x).2 hx, q⟩⟩
  unfold own fIs
  simp only [kind, name, words, frm, to, l, form, e]
  simp [inW, hu.1, hu.2, hv.1, hv.2]
theorem is_check (s : Sch) (nm : ByteArray) (u v : List ByteArray) (hu : 1 ≤ u.length ∧ u.length ≤ 8) (hv : 1 ≤ v.length ∧ v.length ≤ 8) (h : ∀ x, x ∈ u ↔ x ∈ v) : checkE s (fIs nm u) = checkE s (fIs nm v) := by
  have ho := is_own s nm u v hu hv h
  have b : ∀ q, badGrain s (fIs nm q) = false := fun q => by simp [badGrain, fIs, kind]
  rw [checkE_eq, checkE_eq]
  simp only [count_eq, deep_eq, allP_eq, ho, b]
  simp [fIs, l]
theorem is_holds (s : Sch) (t : Int) (d : List Val) (nm : ByteArray) (u : List ByteArray) : holds s t d (fIs nm u) = (!(d.getD (dimW s nm).1 ⟨ByteArray.empty, false⟩).null && hasW u (d.getD (dimW s nm).1 ⟨ByteArray.empty, false⟩).s) := by
  rw [holds_eq]
  have e : ∀ v : Val, (if v.null || decide ((2 : Int) = 3) then v.null && decide ((2 : Int) = 3) else hasW u v.s) = (!v.null && hasW u v.s) := fun v => by cases v.null <;> simp
  exact e _
theorem is_same (s : Sch) (t : Int) (d : List Val) (nm : ByteArray) (u v : List ByteArray) (hu : 1 ≤ u.length ∧ u.length ≤ 8) (hv : 1 ≤ v.length ∧ v.length ≤ 8) (h : ∀ x, x ∈ u ↔ x ∈ v) : holdsE s t d (fIs nm u) = holdsE s t d (fIs nm v) := by
  unfold holdsE
  rw [is_check s nm u v hu hv h, is_holds, is_holds]
  have : ∀ x, hasW u x = hasW v x := fun x => by rw [Bool.eq_iff_iff, hasW_iff, hasW_iff]; exact h x
  simp only [this]
/-- What is told of a dimension's words. -/
theorem is_told (s : Sch) (t : Int) (d : List Val) (k : Nat) (hk : k < s.dims.length) (u : List ByteArray) (hd : d.length = s.dims.length) :
    (holdsE s t d (fIs s.dims[k] u)).2 ≠ 0 ∨ ((holdsE s t d (fIs s.dims[k] u)).2 = 0 ∧ (holdsE s t d (fIs s.dims[k] u)).1 = (u.any fun x => !(d[k]'(by omega)).null && decide ((d[k]'(by omega)).s = x))) := by
  unfold holdsE
  rw [if_pos hd]
  split
  · rename_i hc
    refine .inr ⟨rfl, ?_⟩
    have hs := ((check0 s _).1 hc).1
    have hkd : k < d.length := by omega
    show holds _ _ _ _ = _
    rw [is_holds, dimW_at s hs k hk]
    simp only [List.getD_eq_getElem?_getD, List.getElem?_eq_getElem hkd, Option.getD_some]
    cases h : (d[k]'(by omega)).null
    · simp only [Bool.not_false, Bool.true_and, hasW]
      congr 1; funext y; rw [Bool.eq_iff_iff]; simp only [decide_eq_true_eq]; exact eq_comm
    · simp
  · rename_i hc
    exact .inl hc
end Fil
end Tess
