/- Who was built in is found, at its place; those that begin with a word are among those between: plain. -/
import Derived.Test.YtpbecldgoimkmaaDoorD35p
namespace Tess
open Go
theorem place_mem (d : List ByteArray) (ha : Asc d) (i : Nat) (hi : i < d.length) : place d d[i] = i := by
  refine place_at d d[i] i (Nat.le_of_lt hi) (fun j hj hji => ?_) (.inr ⟨hi, bl_irrefl _⟩)
  have := ha j i hji hi
  rwa [getD_lt d j hj, getD_lt d i hi] at this
theorem findW_of (d : List ByteArray) (hr : right d = true) (x : ByteArray) (hx : x ∈ d) : ∃ n, ∃ h : n < d.length, d[n] = x ∧ findW d x = (n, true) := by
  obtain ⟨i, hi, rfl⟩ := List.getElem_of_mem hx
  refine ⟨i, hi, rfl, ?_⟩
  unfold findW
  rw [if_pos hr, place_mem d (right_asc d hr) i hi, getD_lt d i hi, decide_eq_true hi, decide_eq_true rfl]
  rfl
theorem findW_not (d : List ByteArray) (x : ByteArray) (hx : ¬ x ∈ d) : (findW d x).2 = false := by
  unfold findW
  split
  · rcases Nat.lt_or_ge (place d x) d.length with h | h
    · show (decide _ && decide _) = false
      rw [getD_lt d _ h, decide_eq_false (fun e : d[place d x] = x => hx (e ▸ List.getElem_mem h)), Bool.and_false]
    · show (decide _ && decide _) = false
      rw [decide_eq_false (by omega), Bool.false_and]
  · rfl
def has (l : List ByteArray) (x : ByteArray) : Bool := l.any fun y => decide (y = x)
theorem has_iff (l : List ByteArray) (x : ByteArray) : has l x = true ↔ x ∈ l := by
  unfold has
  rw [List.any_eq_true]
  constructor
  · rintro ⟨y, hy, he⟩
    rw [← of_decide_eq_true he]; exact hy
  · exact fun h => ⟨x, h, decide_eq_true rfl⟩
theorem has_same {l m : List ByteArray} (x : ByteArray) (h : x ∈ l ↔ x ∈ m) : has l x = has m x := by
  rw [Bool.eq_iff_iff, has_iff, has_iff, h]
theorem has_succ (l : List ByteArray) (x : ByteArray) (k : Nat) (h : k < l.length) : has (l.take (k + 1)) x = (has (l.take k) x || decide (l[k] = x)) := by
  unfold has
  rw [List.take_succ_eq_append_getElem h, List.any_append]
  simp
theorem findW_is (d : List ByteArray) (hr : right d = true) (x : ByteArray) : (findW d x).2 = has d x := by
  by_cases h : x ∈ d
  · obtain ⟨n, _, _, he⟩ := findW_of d hr x h
    rw [he, (has_iff d x).2 h]
  · rw [findW_not d x h]
    cases hh : has d x with
    | true => exact absurd ((has_iff d x).1 hh) h
    | false => rfl
theorem buildW_self (d : List ByteArray) (h : right d = true) : buildW d = (d, 0) := by
  have hs := right_size d h
  have hl := right_len d h
  have e : sortW d = d := up_only _ _ (sortW_up d) (asc_up (right_asc d h)) (sortW_all d)
  have hn : ¬ d.any isLong = true := by
    rw [List.any_eq_true]
    rintro ⟨x, hx, hlx⟩
    obtain ⟨j, hj, rfl⟩ := List.getElem_of_mem hx
    have := hs j hj
    rw [getD_lt d j hj] at this
    have := of_decide_eq_true hlx
    omega
  unfold buildW
  rw [built_sort, if_neg hn, e, if_neg (by omega)]
def ffs (k : Nat) : ByteArray := ⟨(List.replicate k (255 : UInt8)).toArray⟩
theorem ffs_size (k : Nat) : (ffs k).size = k := by show (List.replicate k (255 : UInt8)).toArray.size = k; simp
theorem not_lt_ff : ∀ (t : List UInt8) (k : Nat), t.length ≤ k → ¬ List.replicate k 255 < t := by
  intro t
  induction t with
  | nil => intro k _; exact List.not_lt_nil _
  | cons b t ih =>
    intro k hk
    cases k with
    | zero => simp at hk
    | succ k =>
      rw [List.replicate_succ, List.cons_lt_cons_iff]
      rintro (h | ⟨_, h⟩)
      · have := b.toNat_lt
        rw [UInt8.lt_iff_toNat_lt] at h
        have e : (255 : UInt8).toNat = 255 := rfl
        omega
      · exact ih k (by simpa using hk) h
theorem not_lt_append (p t u : List UInt8) (h : ¬ u < t) : ¬ p ++ u < p ++ t := by
  induction p with
  | nil => exact h
  | cons a p ih =>
    rw [List.cons_append, List.cons_append, List.cons_lt_cons_iff]
    rintro (h | ⟨_, h⟩)
    · exact absurd h (by rw [UInt8.lt_iff_toNat_lt]; omega)
    · exact ih h
theorem pre_last (w z : ByteArray) (hw : pre w z = true) (k : Nat) (hk : z.size ≤ k) : bl (w ++ ffs k) z = false := by
  rw [← isPre, List.isPrefixOf_iff_prefix] at hw
  obtain ⟨t, ht⟩ := hw
  rw [bl_lt, tl, tl, ← ht]
  refine decide_eq_false ?_
  have e : (w ++ ffs k).data.toList = w.data.toList ++ List.replicate k 255 := by
    rw [ByteArray.data_append, Array.toList_append]; rfl
  rw [e]
  refine not_lt_append _ _ _ (not_lt_ff t k ?_)
  have h1 : z.data.toList.length = z.size := by simp
  rw [← ht, List.length_append] at h1
  omega
theorem prefix_between (d : List ByteArray) (hr : right d = true) (w : ByteArray) (k : Nat) (hk : 100 ≤ k) : ∃ a b f : Nat, prefixW d w = (a, b) ∧ betweenW d w (w ++ ffs k) = (a, f) ∧ a ≤ b ∧ b ≤ f ∧ f ≤ d.length := by
  have hle := place_le d w
  obtain ⟨u1, u2, u3, _⟩ := upTo_facts (pre w) d (place d w) hle
  obtain ⟨v1, v2, _, v4⟩ := upTo_facts (nb (w ++ ffs k)) d (place d w) hle
  refine ⟨place d w, upTo (pre w) d (place d w), upTo (nb (w ++ ffs k)) d (place d w), by unfold prefixW; rw [if_pos hr], by unfold betweenW; rw [if_pos hr], u1, ?_, v2⟩
  rcases Nat.lt_or_ge (upTo (nb (w ++ ffs k)) d (place d w)) (upTo (pre w) d (place d w)) with h | h
  · have h1 := u3 _ v1 h
    have h2 := v4 (by omega)
    have h3 := right_size d hr (upTo (nb (w ++ ffs k)) d (place d w)) (by omega)
    generalize d.getD (upTo (nb (w ++ ffs k)) d (place d w)) w0 = z at h1 h2 h3
    unfold nb at h2
    rw [pre_last w z h1 k (by omega)] at h2
    cases h2
  · exact h
end Tess
