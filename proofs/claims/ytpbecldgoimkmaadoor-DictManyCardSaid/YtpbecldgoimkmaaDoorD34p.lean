/- What is built, plain: what is sorted, without what stands there twice. -/
import Derived.Test.YtpbecldgoimkmaaDoorD32
import Derived.Lib.SlicesCompact
namespace Tess
open Go
/-- Words in order, one by one. -/
def Up (l : List ByteArray) : Prop := l.Pairwise fun x y => bl x y = true
theorem bl_asymm {a b : ByteArray} (h : bl a b = true) (h' : bl b a = true) : False := by
  have := bl_trans h h'
  rw [bl_irrefl] at this
  cases this
theorem up_only : ∀ (l m : List ByteArray), Up l → Up m → (∀ x, x ∈ l ↔ x ∈ m) → l = m := by
  intro l
  induction l with
  | nil =>
    intro m _ _ h
    cases m with
    | nil => rfl
    | cons b m => exact absurd ((h b).2 (by simp)) (by simp)
  | cons a l ih =>
    intro m hl hm h
    cases m with
    | nil => exact absurd ((h a).1 (by simp)) (by simp)
    | cons b m =>
      have hl' := List.pairwise_cons.1 hl
      have hm' := List.pairwise_cons.1 hm
      have hab : a = b := by
        rcases List.mem_cons.1 ((h a).1 (by simp)) with e | e
        · exact e
        · rcases List.mem_cons.1 ((h b).2 (by simp)) with e' | e'
          · exact e'.symm
          · exact (bl_asymm (hm'.1 a e) (hl'.1 b e')).elim
      subst hab
      rw [ih m hl'.2 hm'.2 fun x => ?_]
      constructor
      · intro hx
        rcases List.mem_cons.1 ((h x).1 (by simp [hx])) with e | e
        · subst e; exact (bl_asymm (hl'.1 x hx) (hl'.1 x hx)).elim
        · exact e
      · intro hx
        rcases List.mem_cons.1 ((h x).2 (by simp [hx])) with e | e
        · subst e; exact (bl_asymm (hm'.1 x hx) (hm'.1 x hx)).elim
        · exact e
theorem up_asc {l : List ByteArray} (h : Up l) : Asc l := by
  intro i j hij hj
  rw [getD_lt l i (by omega), getD_lt l j hj]
  exact List.pairwise_iff_getElem.1 h i j (by omega) hj hij
theorem asc_up {l : List ByteArray} (h : Asc l) : Up l := by
  refine List.pairwise_iff_getElem.2 fun i j hi hj hij => ?_
  have := h i j hij hj
  rwa [getD_lt l i hi, getD_lt l j hj] at this
theorem insW_all (o : List ByteArray) (x y : ByteArray) : y ∈ insW o x ↔ y ∈ o ∨ y = x := by
  constructor
  · exact insW_mem o x y
  · intro h
    unfold insW
    split
    · rename_i hc
      rcases h with h | h
      · exact h
      · rw [getD_lt o _ hc.1] at hc
        rw [h, ← hc.2]
        exact List.getElem_mem _
    · rcases h with h | h
      · rw [← List.take_append_drop (place o x) o] at h
        rcases List.mem_append.1 h with h | h
        · simp [h]
        · simp [h]
      · simp [h]
theorem insW_up (o : List ByteArray) (x : ByteArray) (h : Up o) : Up (insW o x) := by
  have ha := up_asc h
  have hp := place_spec o x
  unfold insW
  split
  · exact h
  · rename_i hc
    have hle := place_le o x
    generalize place o x = p at *
    refine List.pairwise_append.2 ⟨List.pairwise_append.2 ⟨h.sublist (List.take_sublist _ _), List.pairwise_singleton _ _, ?_⟩, h.sublist (List.drop_sublist _ _), ?_⟩
    · intro y hy z hz
      obtain rfl := List.mem_singleton.1 hz
      obtain ⟨j, hj, rfl⟩ := List.getElem_of_mem hy
      simp only [List.length_take] at hj
      have := hp.1 j (by omega)
      rw [getD_lt o j (by omega)] at this
      simpa using this
    · intro y hy z hz
      obtain ⟨j, hj, rfl⟩ := List.getElem_of_mem hz
      simp only [List.length_drop] at hj
      have hlt : p < o.length := by omega
      have hx : bl x o[p] = true := by
        have h1 := hp.2 hlt
        rw [getD_lt o p hlt] at h1
        cases h2 : bl x o[p] with
        | true => rfl
        | false => exact absurd ⟨hlt, by rw [getD_lt o p hlt]; exact bl_antisymm h1 h2⟩ hc
      have hxz : bl x (o.drop p)[j] = true := by
        rw [List.getElem_drop]
        rcases Nat.eq_zero_or_pos j with rfl | hj0
        · simpa using hx
        · have := ha p (p + j) (by omega) (by omega)
          rw [getD_lt o p hlt, getD_lt o (p + j) (by omega)] at this
          exact bl_trans hx this
      rcases List.mem_append.1 hy with hy | hy
      · obtain ⟨i, hi, rfl⟩ := List.getElem_of_mem hy
        simp only [List.length_take] at hi
        have := hp.1 i (by omega)
        rw [getD_lt o i (by omega)] at this
        exact bl_trans (by simpa using this) hxz
      · obtain rfl := List.mem_singleton.1 hy
        exact hxz
theorem builtTo_up (l : List ByteArray) : ∀ k, k ≤ l.length → Up (builtTo l k) := by
  intro k
  induction k with
  | zero => intro _; simp [builtTo, Up]
  | succ k ih =>
    intro hk
    rw [builtTo_succ l k (by omega)]
    exact insW_up _ _ (ih (by omega))
theorem builtTo_all (l : List ByteArray) (y : ByteArray) : ∀ k, k ≤ l.length → (y ∈ builtTo l k ↔ y ∈ l.take k) := by
  intro k
  induction k with
  | zero => intro _; simp [builtTo]
  | succ k ih =>
    intro hk
    rw [builtTo_succ l k (by omega), insW_all, ih (by omega), List.take_succ_eq_append_getElem (by omega), List.mem_append, List.mem_singleton]
abbrev Lt := List UInt8
theorem up_compact (zs : List Lt) (h : zs.Pairwise fun x y => x ≤ y) : (Lib.compact zs).Pairwise fun x y => x < y := by
  unfold Lib.compact Lib.compactUpTo
  rw [List.pairwise_map]
  rw [List.pairwise_filter]
  refine List.Pairwise.imp_of_mem ?_ (List.pairwise_lt_range (n := zs.length))
  intro i j hi hj hij _ hk
  have hi' := List.mem_range.1 hi
  have hj' := List.mem_range.1 hj
  unfold Lib.keeps at hk
  have hne : zs[j] ≠ zs[j - 1] := by
    have := of_decide_eq_true hk
    rcases this with e | e
    · omega
    · simpa [getElem!_pos, hj', show j - 1 < zs.length by omega] using e
  have hle : ∀ a b (hab : a ≤ b) (hb : b < zs.length), zs[a] ≤ zs[b] := by
    intro a b hab hb
    rcases Nat.lt_or_ge a b with hlt | hge
    · exact List.pairwise_iff_getElem.1 h a b (by omega) hb hlt
    · have : a = b := by omega
      subst this
      exact List.le_refl _
  have h1 := hle i (j - 1) (by omega) (by omega)
  have h2 := hle (j - 1) j (by omega) hj'
  have h3 : zs[j - 1] < zs[j] := by
    rcases Classical.em (zs[j - 1] < zs[j]) with h | h
    · exact h
    · exact absurd (List.le_antisymm (List.not_lt.1 h) h2) hne
  have h4 : zs[i] < zs[j] := List.lt_of_le_of_lt h1 h3
  simpa [getElem!_pos, hj', show i < zs.length by omega] using h4
theorem mem_compact (zs : List Lt) (x : Lt) : x ∈ Lib.compact zs ↔ x ∈ zs := by
  constructor
  · intro h
    unfold Lib.compact Lib.compactUpTo at h
    obtain ⟨i, hi, rfl⟩ := List.mem_map.1 h
    have hi' : i < zs.length := List.mem_range.1 (List.mem_filter.1 hi).1
    simp [getElem!_pos, hi']
  · intro h
    obtain ⟨i, hi, rfl⟩ := List.getElem_of_mem h
    clear h
    induction i with
    | zero =>
      unfold Lib.compact Lib.compactUpTo
      exact List.mem_map.2 ⟨0, List.mem_filter.2 ⟨List.mem_range.2 hi, by simp [Lib.keeps]⟩, by simp [getElem!_pos, hi]⟩
    | succ i ih =>
      by_cases e : zs[i + 1] = zs[i]
      · rw [e]; exact ih (by omega)
      · unfold Lib.compact Lib.compactUpTo
        exact List.mem_map.2 ⟨i + 1, List.mem_filter.2 ⟨List.mem_range.2 hi, by simpa [Lib.keeps, getElem!_pos, hi, show i < zs.length by omega] using e⟩, by simp [getElem!_pos, hi]⟩
def bytesOf (l : List ByteArray) : List Lt := l.map (·.data.toList)
def sortB (l : List ByteArray) : List Lt := (bytesOf l).mergeSort fun x y => decide (x ≤ y)
def sortW (l : List ByteArray) : List ByteArray := (Lib.compact (sortB l)).map fun b => ⟨b.toArray⟩
theorem sortB_up (l : List ByteArray) : (sortB l).Pairwise fun x y => x ≤ y := by
  unfold sortB
  refine List.Pairwise.imp (fun h => of_decide_eq_true h) (List.pairwise_mergeSort (le := fun (x y : Lt) => decide (x ≤ y)) ?_ ?_ _)
  · intro a b c h1 h2
    exact decide_eq_true (List.le_trans (of_decide_eq_true h1) (of_decide_eq_true h2))
  · intro a b
    rcases List.le_total a b with h | h <;> simp [h]
theorem sortW_up (l : List ByteArray) : Up (sortW l) := by
  unfold sortW Up
  rw [List.pairwise_map]
  refine List.Pairwise.imp (fun {a b} h => ?_) (up_compact _ (sortB_up l))
  rw [bl_lt, tl, tl]
  exact decide_eq_true h
theorem sortW_all (l : List ByteArray) (y : ByteArray) : y ∈ sortW l ↔ y ∈ l := by
  unfold sortW
  rw [List.mem_map]
  constructor
  · rintro ⟨b, hb, rfl⟩
    rw [mem_compact] at hb
    have hb' := (List.mergeSort_perm _ _).mem_iff.1 hb
    obtain ⟨x, hx, rfl⟩ := List.mem_map.1 hb'
    simpa using hx
  · intro h
    refine ⟨y.data.toList, ?_, by simp⟩
    rw [mem_compact]
    exact (List.mergeSort_perm _ _).mem_iff.2 (List.mem_map.2 ⟨y, h, rfl⟩)
theorem built_sort (l : List ByteArray) : builtTo l l.length = sortW l :=
  up_only _ _ (builtTo_up l _ (Nat.le_refl _)) (sortW_up l) fun x => by rw [builtTo_all l x _ (Nat.le_refl _), List.take_length, sortW_all]
theorem sortW_len (l : List ByteArray) : (Lib.compact (sortB l)).length = (sortW l).length := by unfold sortW; rw [List.length_map]
theorem sortB_len (l : List ByteArray) : (sortB l).length = l.length := by unfold sortB bytesOf; simp
end Tess
