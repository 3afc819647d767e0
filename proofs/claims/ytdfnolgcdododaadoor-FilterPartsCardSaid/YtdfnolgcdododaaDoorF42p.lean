/- A word, another one, none: plain. -/
import Derived.Test.YtdfnolgcdododaaDoorF35p
import Derived.Test.YtdfnolgcdododaaDoorF36
namespace Tess.Fil
open Go
def leaf (k : Int) (nm : ByteArray) (ws : List ByteArray) : Fil := .mk k nm ws 0 0 []
theorem leaf_check (s : Sch) (k : Int) (nm : ByteArray) (ws : List ByteArray) (hs : schOk s = true) (h6 : k ≠ 6) (p : Nat × Nat) (hf : form k = some (true, false, p, (0, 0))) (hd : (dimW s nm).2 = true) (hp : p.1 ≤ ws.length ∧ ws.length ≤ p.2) (hw : ∀ x ∈ ws, x.size ≤ 100) : checkE s (leaf k nm ws) = 0 := by
  rw [check0]
  have ho : own s (leaf k nm ws) = true := by
    have e : (ws.any fun x => decide (100 < x.size)) = false := by
      rw [List.any_eq_false]; intro x hx; have := hw x hx; simp; omega
    unfold own leaf
    simp only [kind, name, words, frm, to, l, hf, hd, e]
    simp [inW, hp.1, hp.2]
  have hb : badGrain s (leaf k nm ws) = false := by simp [badGrain, leaf, kind, h6]
  refine ⟨hs, ?_, ?_, ?_, ?_⟩
  · rw [count_eq]; simp [leaf, l, countL]
  · rw [deep_eq]; simp [leaf, l, deepL]
  · rw [allP_eq, ho]; simp [leaf, l]
  · rw [allP_eq, hb]; simp [leaf, l]
section
variable (s : Sch) (t : Int) (d : List Val) (nm : ByteArray) (v : Val)
theorem leaf_is (w : ByteArray) (hv : d.getD (dimW s nm).1 ⟨ByteArray.empty, false⟩ = v) : holds s t d (leaf 2 nm [w]) = (!v.null && decide (v.s = w)) := by
  rw [holds_eq]
  have e : ∀ v : Val, (if v.null || decide ((2 : Int) = 3) then v.null && decide ((2 : Int) = 3) else hasW [w] v.s) = (!v.null && decide (v.s = w)) := fun v => by
    have : hasW [w] v.s = decide (v.s = w) := by rw [Bool.eq_iff_iff, hasW_iff]; simp
    rw [this]; cases v.null <;> simp
  exact (e (d.getD (dimW s nm).1 ⟨ByteArray.empty, false⟩)).trans (by rw [hv])
theorem leaf_none (hv : d.getD (dimW s nm).1 ⟨ByteArray.empty, false⟩ = v) : holds s t d (leaf 3 nm []) = v.null := by
  rw [holds_eq]
  have e : ∀ v : Val, (if v.null || decide ((3 : Int) = 3) then v.null && decide ((3 : Int) = 3) else hasW [] v.s) = v.null := fun v => by cases v.null <;> simp
  exact (e (d.getD (dimW s nm).1 ⟨ByteArray.empty, false⟩)).trans (by rw [hv])
theorem leaf_prefix (hv : d.getD (dimW s nm).1 ⟨ByteArray.empty, false⟩ = v) : holds s t d (leaf 4 nm [ByteArray.empty]) = !v.null := by
  rw [holds_eq]
  have e : ∀ v : Val, (if v.null || decide ((4 : Int) = 3) then v.null && decide ((4 : Int) = 3) else ([ByteArray.empty].getD 0 ByteArray.empty).data.toList.isPrefixOf v.s.data.toList) = !v.null := fun v => by
    have : ([ByteArray.empty].getD 0 ByteArray.empty).data.toList.isPrefixOf v.s.data.toList = true := rfl
    rw [this]; cases v.null <;> simp
  exact (e (d.getD (dimW s nm).1 ⟨ByteArray.empty, false⟩)).trans (by rw [hv])
theorem leaf_one (w : ByteArray) (hv : d.getD (dimW s nm).1 ⟨ByteArray.empty, false⟩ = v) (hbl : (!bl v.s w && !bl w v.s) = decide (v.s = w)) : holds s t d (leaf 5 nm [w, w]) = (!v.null && decide (v.s = w)) := by
  rw [holds_eq]
  have e : ∀ v : Val, (if v.null || decide ((5 : Int) = 3) then v.null && decide ((5 : Int) = 3) else (!bl v.s ([w, w].getD 0 ByteArray.empty) && !bl ([w, w].getD 1 ByteArray.empty) v.s)) = (!v.null && (!bl v.s w && !bl w v.s)) := fun v => by cases v.null <;> simp
  exact (e (d.getD (dimW s nm).1 ⟨ByteArray.empty, false⟩)).trans (by rw [hv, hbl])
end
end Tess.Fil
