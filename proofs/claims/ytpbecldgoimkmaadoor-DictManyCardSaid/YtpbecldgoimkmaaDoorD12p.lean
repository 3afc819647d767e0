/- A dictionary is in order; whom a search finds in it: plain. -/
import Derived.Test.YtpbecldgoimkmaaDoorD11
namespace Tess
open Go Go.Proofs
theorem bl_lt (a b : ByteArray) : bl a b = decide (a.toList < b.toList) := bytesLess_eq _ _
theorem bl_irrefl (a : ByteArray) : bl a a = false := by rw [bl_lt]; exact decide_eq_false (List.lt_irrefl _)
theorem bl_trans {a b c : ByteArray} (h : bl a b = true) (h' : bl b c = true) : bl a c = true := by
  rw [bl_lt] at *; exact decide_eq_true (List.lt_trans (of_decide_eq_true h) (of_decide_eq_true h'))
theorem toList_inj {a b : ByteArray} (h : a.toList = b.toList) : a = b := by
  rw [tl, tl] at h; exact ByteArray.ext (Array.toList_inj.1 h)
theorem bl_le_trans {a b c : ByteArray} (h : bl b a = false) (h' : bl b c = true) : bl a c = true := by
  rw [bl_lt] at *
  have h1 : a.toList ≤ b.toList := List.not_lt.1 (of_decide_eq_false h)
  exact decide_eq_true (List.lt_of_le_of_lt h1 (of_decide_eq_true h'))
theorem bl_antisymm {a b : ByteArray} (h : bl a b = false) (h' : bl b a = false) : a = b := by
  rw [bl_lt] at *
  exact toList_inj (List.le_antisymm (List.not_lt.1 (of_decide_eq_false h')) (List.not_lt.1 (of_decide_eq_false h)))
/-- In order. -/
def Asc (l : List ByteArray) : Prop := ∀ i j, i < j → j < l.length → bl (l.getD i w0) (l.getD j w0) = true
theorem right_asc (l : List ByteArray) (h : right l = true) : Asc l := by
  rw [right_parts, Bool.and_eq_true] at h
  have hc := h.2
  unfold chainTo at hc
  rw [List.all_eq_true] at hc
  have step : ∀ i, i + 1 < l.length → bl (l.getD i w0) (l.getD (i + 1) w0) = true := fun i hi => by
    have := hc (i + 1) (List.mem_range.2 hi)
    unfold ord at this
    rw [Nat.add_sub_cancel] at this
    simpa using this
  intro i j hij
  induction j with
  | zero => omega
  | succ j ih =>
    intro hj
    by_cases e : i = j
    · subst e; exact step i hj
    · exact bl_trans (ih (by omega) (by omega)) (step j hj)
theorem right_len (l : List ByteArray) (h : right l = true) : l.length ≤ 1000 := by
  unfold right at h
  rw [Bool.and_eq_true] at h
  exact of_decide_eq_true h.2
theorem findIdx_at (p : ByteArray → Bool) (l : List ByteArray) (n : Nat) (hn : n ≤ l.length) (h : ∀ j, j < n → p (l.getD j w0) = false) (he : n < l.length → p (l.getD n w0) = true) : l.findIdx p = n := by
  rcases Nat.lt_or_ge n l.length with hlt | hge
  · rw [List.findIdx_eq hlt]
    have := he hlt
    rw [getD_lt l n hlt] at this
    exact ⟨this, fun j hj => by have := h j hj; rwa [getD_lt l j (by omega)] at this⟩
  · have : n = l.length := by omega
    subst this
    rw [List.findIdx_eq_length]
    intro y hy
    obtain ⟨j, hj, rfl⟩ := List.getElem_of_mem hy
    have := h j hj; rwa [getD_lt l j hj] at this
theorem findIdx_spec (p : ByteArray → Bool) (l : List ByteArray) : (∀ j, j < l.findIdx p → p (l.getD j w0) = false) ∧ (l.findIdx p < l.length → p (l.getD (l.findIdx p) w0) = true) := by
  constructor
  · intro j hj
    have hjl : j < l.length := Nat.lt_of_lt_of_le hj List.findIdx_le_length
    rw [getD_lt l j hjl]
    have := List.not_of_lt_findIdx hj
    simpa using this
  · intro h
    rw [getD_lt l _ h]
    exact List.findIdx_getElem
theorem place_spec (l : List ByteArray) (x : ByteArray) : (∀ j, j < place l x → bl (l.getD j w0) x = true) ∧ (place l x < l.length → bl (l.getD (place l x) w0) x = false) := by
  have := findIdx_spec (fun y => !bl y x) l
  refine ⟨fun j hj => by have := this.1 j hj; simpa using this, fun h => ?_⟩
  have := this.2 h
  rw [Bool.not_eq_true'] at this
  exact this
theorem asc_behind {l : List ByteArray} (ha : Asc l) {x : ByteArray} {i j : Nat} (hij : i ≤ j) (hj : j < l.length) (h : bl (l.getD i w0) x = false) : bl (l.getD j w0) x = false := by
  rcases Nat.lt_or_ge i j with hlt | hge
  · by_cases hb : bl (l.getD j w0) x = true
    · rw [bl_trans (ha i j hlt hj) hb] at h; cases h
    · simpa using hb
  · rwa [show j = i by omega]
/-- How many places are so, where they all stand ahead. -/
theorem count_down (q : ByteArray → Bool) (l : List ByteArray) (hm : ∀ a b, a ≤ b → b < l.length → q (l.getD a w0) = false → q (l.getD b w0) = false) :
    (List.range l.length).countP (fun i => !(!q (l.getD i w0))) = l.findIdx fun y => !q y := by
  obtain ⟨h1, h2⟩ := findIdx_spec (fun y => !q y) l
  obtain ⟨n, hn⟩ : ∃ n, n = l.findIdx fun y => !q y := ⟨_, rfl⟩
  rw [← hn] at h1 h2 ⊢
  have hnl : n ≤ l.length := by rw [hn]; exact List.findIdx_le_length
  rw [show List.range l.length = List.range n ++ (List.range (l.length - n)).map (n + ·) by rw [← List.range_add]; congr 1; omega, List.countP_append]
  have e1 : (List.range n).countP (fun i => !(!q (l.getD i w0))) = n := by
    rw [List.countP_eq_length.2 ?_, List.length_range]
    intro i hi
    have := h1 i (List.mem_range.1 hi)
    simpa using this
  have e2 : ((List.range (l.length - n)).map (n + ·)).countP (fun i => !(!q (l.getD i w0))) = 0 := by
    rw [List.countP_eq_zero]
    intro i hi
    obtain ⟨k, hk, rfl⟩ := List.mem_map.1 hi
    have hk := List.mem_range.1 hk
    have := h2 (by omega)
    have h3 := hm n (n + k) (by omega) (by omega) (by simpa using this)
    show ¬ ((!(!q (l.getD (n + k) w0))) = true)
    rw [h3]; decide
  omega
/-- The search by halves finds the place. -/
theorem bs_place (l : List ByteArray) (ha : Asc l) (x : ByteArray) : Lib.bsGo (fun t => Op.bytesLess (l.getD t w0).toList x.toList) l.length 0 l.length = place l x := by
  obtain ⟨h1, h2⟩ := place_spec l x
  have hpl : place l x ≤ l.length := List.findIdx_le_length
  have e : Lib.bsGo (fun t => Op.bytesLess (l.getD t w0).toList x.toList) l.length 0 l.length = Lib.bsGo (fun t => decide (t < l.length) && Op.bytesLess (l.getD t w0).toList x.toList) l.length 0 l.length := by
    have key : ∀ (f lo hi : Nat), hi ≤ l.length → Lib.bsGo (fun t => Op.bytesLess (l.getD t w0).toList x.toList) f lo hi = Lib.bsGo (fun t => decide (t < l.length) && Op.bytesLess (l.getD t w0).toList x.toList) f lo hi := by
      intro f
      induction f with
      | zero => intro lo hi _; rfl
      | succ f ih =>
        intro lo hi hhi
        unfold Lib.bsGo
        by_cases hlt : lo < hi
        · simp only [hlt, if_true]
          have : decide ((lo + hi) / 2 < l.length) = true := decide_eq_true (by omega)
          simp only [this, Bool.true_and]
          rw [ih _ _ hhi, ih _ _ (by omega)]
        · simp only [hlt, if_false]
    exact key _ _ _ (Nat.le_refl _)
  rw [e]
  refine Lib.bsGo_spec _ _ (fun t ht => ?_) (fun t ht => ?_) _ _ _ (by omega) (Nat.zero_le _) hpl
  · have := h1 t ht
    rw [show decide (t < l.length) = true from decide_eq_true (by omega), Bool.true_and]; exact this
  · by_cases htl : t < l.length
    · have := asc_behind ha ht htl (h2 (by omega))
      rw [show decide (t < l.length) = true from decide_eq_true htl, Bool.true_and]; exact this
    · rw [show decide (t < l.length) = false from decide_eq_false htl]; rfl
theorem upTo_spec (f : ByteArray → Bool) (l : List ByteArray) (a n : Nat) (ha : a ≤ n) (hn : n ≤ l.length) (h : ∀ j, a ≤ j → j < n → f (l.getD j w0) = true) (he : n < l.length → f (l.getD n w0) = false) : upTo f l a = n := by
  refine upTo_at f l a n ha hn (fun j hj h1 h2 => by have := h j h1 h2; rwa [getD_lt l j hj] at this) ?_
  rcases Nat.lt_or_ge n l.length with h' | h'
  · right; exact ⟨h', by have := he h'; rwa [getD_lt l n h'] at this⟩
  · left; omega
/-- Those not behind: as many as the place, or more. -/
theorem between_max (l : List ByteArray) (ha : Asc l) (x y : ByteArray) : max (place l x) (l.findIdx fun z => !!bl y z) = upTo (nb y) l (place l x) := by
  obtain ⟨h1, h2⟩ := findIdx_spec (fun z => !!bl y z) l
  have hpl : place l x ≤ l.length := List.findIdx_le_length
  have hfl : (l.findIdx fun z => !!bl y z) ≤ l.length := List.findIdx_le_length
  symm
  refine upTo_spec _ _ _ _ (Nat.le_max_left _ _) (Nat.max_le.2 ⟨hpl, hfl⟩) (fun j h3 h4 => ?_) (fun h3 => ?_)
  · have := h1 j (by omega)
    simpa [nb] using this
  · have h4 : (l.findIdx fun z => !!bl y z) < l.length := by omega
    have h5 := h2 h4
    have h6 : bl y (l.getD (l.findIdx fun z => !!bl y z) w0) = true := by simpa using h5
    unfold nb
    rcases Nat.lt_or_ge (l.findIdx fun z => !!bl y z) (max (place l x) (l.findIdx fun z => !!bl y z)) with h7 | h7
    · rw [bl_trans h6 (ha _ _ h7 h3)]; rfl
    · rw [show max (place l x) (l.findIdx fun z => !!bl y z) = (l.findIdx fun z => !!bl y z) by omega, h6]; rfl
theorem down_behind (l : List ByteArray) (ha : Asc l) (y : ByteArray) : ∀ a b, a ≤ b → b < l.length → (!bl y (l.getD a w0)) = false → (!bl y (l.getD b w0)) = false := by
  intro a b hab hb h
  have h' : bl y (l.getD a w0) = true := by simpa using h
  rcases Nat.lt_or_ge a b with hlt | hge
  · rw [bl_trans h' (ha a b hlt hb)]; rfl
  · rw [show b = a by omega, h']; rfl
theorem down_ahead (l : List ByteArray) (ha : Asc l) (x : ByteArray) : ∀ a b, a ≤ b → b < l.length → bl (l.getD a w0) x = false → bl (l.getD b w0) x = false := fun _ _ hab hb h => asc_behind ha hab hb h
/-- Who stands between a word and one that begins with it begins with it. -/
theorem prefix_mid : ∀ (p y t : List UInt8), ¬ y < p → y < p ++ t → p.isPrefixOf y = true := by
  intro p
  induction p with
  | nil => intro y t _ _; rfl
  | cons a p ih =>
    intro y t h1 h2
    cases y with
    | nil => exact absurd (List.nil_lt_cons a p) h1
    | cons b y =>
      rw [List.cons_append, List.cons_lt_cons_iff] at h2
      rw [List.cons_lt_cons_iff] at h1
      rcases h2 with h2 | ⟨rfl, h2⟩
      · exact absurd (Or.inl h2) h1
      · have := ih y t (fun h => h1 (Or.inr ⟨rfl, h⟩)) h2
        simp [List.isPrefixOf, this]
theorem isPre (p y : ByteArray) : p.data.toList.isPrefixOf y.data.toList = pre p y := by
  unfold pre
  rw [Bool.eq_iff_iff, List.isPrefixOf_iff_prefix, List.prefix_iff_eq_take, Bool.and_eq_true, decide_eq_true_eq, decide_eq_true_eq]
  constructor
  · intro h
    have hlen : p.size ≤ y.size := by
      have := congrArg List.length h
      simp at this
      omega
    refine ⟨hlen, ?_⟩
    apply ByteArray.ext
    apply Array.toList_inj.1
    rw [ByteArray.data_extract, Array.toList_extract]
    simp only [List.extract_eq_take_drop, List.drop_zero, Nat.sub_zero]
    rw [h]; simp
  · rintro ⟨hlen, h⟩
    have h2 := congrArg (fun b => b.data.toList) h
    simp only [ByteArray.data_extract, Array.toList_extract, List.extract_eq_take_drop, List.drop_zero, Nat.sub_zero] at h2
    rw [← h2]; simp
def apre (p y : ByteArray) : Bool := bl y p || pre p y
theorem down_pre (l : List ByteArray) (ha : Asc l) (p : ByteArray) : ∀ a b, a ≤ b → b < l.length → apre p (l.getD a w0) = false → apre p (l.getD b w0) = false := by
  intro a b hab hb h
  rcases Nat.lt_or_ge a b with hlt | hge
  · unfold apre at *
    rw [Bool.or_eq_false_iff] at h ⊢
    obtain ⟨g1, g2⟩ := h
    have g3 := asc_behind ha hab hb g1
    refine ⟨g3, ?_⟩
    by_cases hp : pre p (l.getD b w0) = true
    · rw [← isPre, List.isPrefixOf_iff_prefix] at hp
      obtain ⟨t, ht⟩ := hp
      have g4 := ha a b hlt hb
      rw [bl_lt, tl, tl, ← ht] at g4
      rw [bl_lt, tl, tl] at g1
      have := prefix_mid _ _ _ (of_decide_eq_false g1) (of_decide_eq_true g4)
      rw [isPre, g2] at this; cases this
    · simpa using hp
  · rwa [show b = a by omega]
theorem prefix_upTo (l : List ByteArray) (ha : Asc l) (p : ByteArray) : (l.findIdx fun y => !apre p y) = upTo (pre p) l (place l p) := by
  obtain ⟨h1, h2⟩ := findIdx_spec (fun y => !apre p y) l
  obtain ⟨p1, p2⟩ := place_spec l p
  have hpl : place l p ≤ l.length := List.findIdx_le_length
  have hfl : (l.findIdx fun y => !apre p y) ≤ l.length := List.findIdx_le_length
  symm
  refine upTo_spec _ _ _ _ ?_ hfl (fun j h3 h4 => ?_) (fun h3 => ?_)
  · rcases Nat.lt_or_ge (l.findIdx fun y => !apre p y) (place l p) with h | h
    · have g1 := p1 _ h
      have g2 := h2 (by omega)
      generalize l.getD (l.findIdx fun y => !apre p y) w0 = z at g1 g2
      rw [show apre p z = true by unfold apre; rw [g1]; rfl] at g2; cases g2
    · exact h
  · have g1 := h1 j h4
    have g2 := asc_behind ha h3 (by omega) (p2 (by omega))
    rw [Bool.not_eq_false'] at g1
    unfold apre at g1
    rw [g2, Bool.false_or] at g1
    exact g1
  · have g2 := h2 h3
    rw [Bool.not_eq_true'] at g2
    generalize l.getD (l.findIdx fun y => !apre p y) w0 = z at g2
    unfold apre at g2
    rw [Bool.or_eq_false_iff] at g2
    exact g2.2
end Tess
