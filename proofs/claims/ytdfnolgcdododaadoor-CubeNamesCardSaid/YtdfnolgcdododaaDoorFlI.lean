/- A region that draws its order and ends in a tail of one order, inside the wide fence: the head by the words of its operations. -/
import Derived.Test.YtdfnolgcdododaaDoorFl
import Derived.OwnWalkIn
import Derived.RegionIn
namespace Go.Flow
open Go Go.RowKit
section
variable {P : Program} {ops : Array Oper} {n : Nat}

theorem wpIn_of_yields {o : Oper} {a : Act} {w : World} {K : Act → World → Prop} {Q : Exit → Act → World → Prop} (hy : yields P o a.eval w fun v w' => K (a.put o.dst v) w') : o.wpIn Fence.wide n P a w K Q := by
  unfold Oper.wpIn
  refine ⟨fun _ _ => trivial, ?_⟩
  have he : o.semAt Fence.wide.round a.eval = execOp a.eval o := by simp [Oper.semAt, Fence.wide]
  rw [he]
  unfold yields at hy
  generalize (execOp a.eval o).run P w = r at *
  cases r with
  | ok nx w' =>
    cases nx <;> simp only [Oper.uponIn] <;> first
      | exact hy
      | exact (show False from hy).elim
      | exact ⟨(fun h => by cases h), callsIn_wide.2 (Calls.mono hy (fun e w'' ⟨v, he, hr⟩ => by subst he; exact hr))⟩
  | halt x w' => exact hy.elim

theorem wpAnyIn_of_seq {md : Region.Mode} {F : Fence} {Q' : Exit → Act → World → Prop} : ∀ (l : List Oper) (k : Nat) (listed : Array Bool) (a : Act) (w : World), (∀ j, l[j]? = ops[k + j]?) →
    Region.seqB md ops l.length k listed = true → wpListIn F n P ops Q' l a w → wpAnyIn F n P md ops Q' l.length listed a w
  | [], _, _, _, _, _, hB, h => ⟨by simpa [Region.seqB] using hB, h⟩
  | o :: l, k, listed, a, w, hl, hB, h => by
    have h0 : ops[k]? = some o := by simpa using (hl 0).symm
    simp only [List.length_cons, Region.seqB, Bool.and_eq_true, decide_eq_true_eq] at hB
    refine ⟨fun h1 => (by rw [hB.1] at h1; cases h1), fun i hi => ?_⟩
    rw [hB.1] at hi
    have hik : i = k := by simpa using hi
    subst hik
    have hw : wpOpIn F n P ops Q' i (wpListIn F n P ops Q' l) a w := by unfold wpOpIn; simp only [h0]; exact h
    exact wpOpIn_mono (fun a' w' h' => wpAnyIn_of_seq l (i + 1) _ a' w' (fun j => by have := hl (j + 1); simpa [Nat.add_assoc, Nat.add_comm 1 j] using this) hB.2 h') hw

theorem wpAnyIn_of_anyFL {S : Nat → Spec} {w0 : World} (hS : ∀ i, (S i).mono) {m g : Nat} {L : Array Bool → Act → (Nat → World → Prop) → Prop} {Q : Exit → Act → World → Prop}
    (hL : ∀ listed a Γ w, L listed a Γ → Below w0.heap.size w0 w → (∀ j, Γ j w) → wpAnyIn Fence.wide n P .any ops Q g listed a w) : ∀ (f : Nat) (listed : Array Bool) (a : Act) (Γ : Nat → World → Prop) (w : World),
    anyFL P ops S w0 m L f listed a Γ → Below w0.heap.size w0 w → (∀ j, Γ j w) → (∀ j, Mono (Γ j)) → wpAnyIn Fence.wide n P .any ops Q (f + g) listed a w
  | 0, _, _, _, _, h, hB, hG, _ => by rw [Nat.zero_add]; exact hL _ _ _ _ h hB hG
  | f + 1, listed, a, Γ, w, h, hB, hG, hM => by
    rw [show f + 1 + g = (f + g) + 1 by omega]
    refine ⟨fun h0 => absurd h0 h.1, fun i hi => ?_⟩
    have h1 := (h.2 i hi).2
    unfold fOp at h1
    unfold wpOpIn
    have hM' : ∀ v j, Mono (upd Γ i ((S i).holds v) j) := fun v j => by
      by_cases e : j = i
      · subst e; rw [upd_same]; exact hS j v
      · rw [upd_ne e]; exact hM j
    have hG' : ∀ v w', Below w.heap.size w w' → (S i).holds v w' → ∀ j, upd Γ i ((S i).holds v) j w' := fun v w' hb hv j => by
      by_cases e : j = i
      · subst e; rw [upd_same]; exact hv
      · rw [upd_ne e]; exact hM j _ _ (hG j) hb
    have hok : ∀ v w', (S i).holds v w' → (S i).ok v := fun v w' hv => by
      cases hs : S i with
      | inl u => rw [hs] at hv; exact hv
      | inr V => trivial
    split
    · rename_i ho
      simp only [ho] at h1
      exact wpAnyIn_of_anyFL hS hL f _ _ _ _ h1 hB hG hM
    · rename_i o ho
      simp only [ho] at h1
      have h2 := h1.1 w hB (fun j _ => hG j)
      unfold Runs at h2
      split
      · rename_i hw
        simp only [hw, if_true] at h2
        refine wpIn_of_yields (yields_mono ?_ h2)
        intro v w' ⟨hb, hv⟩
        exact wpAnyIn_of_anyFL hS hL f _ _ _ _ (h1.2 v (hok v w' hv)) (hB.trans (hb.mono hB.size)) (hG' v w' hb hv) (hM' v)
      · rename_i hw
        simp only [hw] at h2
        exact ⟨fun _ _ => trivial, wpAnyIn_of_anyFL hS hL f _ _ _ _ (h1.2 undef (hok _ _ h2)) hB (hG' _ _ (Below.refl _ _) h2) (hM' _)⟩

theorem wpIn_region_flow_tail {id : Nat} {Q : Exit → Act → World → Prop} {a : Act} {w : World} {l : List Oper} (m : Nat) (S : Nat → Spec) (hm : P.follows .mixedOrders = true) (hB : Region.lexTailB .any l.toArray m = true) (hS : ∀ i, (S i).mono)
    (h : Tree P l.toArray S w (fun a' Γ => ∀ w', Below w.heap.size w w' → (∀ j, Γ j w') → wpListIn Fence.wide n P l.toArray Q (l.drop m) a' w') (l.take m) 0 a (fun _ _ => True)) : (Code.region id l.toArray true).wpIn Fence.wide n P Q a w := by
  simp only [Region.lexTailB, Bool.and_eq_true, decide_eq_true_eq] at hB
  obtain ⟨⟨⟨⟨hsel, hn⟩, hs⟩, hc⟩, hlex⟩ := hB
  have hn' : m < l.length := by simpa using hn
  have htl : (l.take m).length = m := by simp; omega
  have hdl : (l.drop m).length = l.toArray.size - m := by simp
  have inv0 : HeadInv .any l.toArray m (Array.replicate l.toArray.size false) :=
    ⟨by simp, fun j oj _ hl => (by rw [getD_replicate_false] at hl; cases hl), fun t _ ht => getD_in (by simpa using ht) (getD_replicate_false _ _)⟩
  have H := anyFL_lex (g := l.toArray.size - m) hsel hs hc hn (l.take m) 0 _ a (fun _ _ => True) (fun j hj => by
    have hj' : j < m := by rw [htl] at hj; exact hj
    simp [hj']) (by simpa using htl) inv0 (by rw [htl]; exact hlex) h
  refine wpIn_region_any hm ?_
  have := wpAnyIn_of_anyFL (n := n) (Q := Q) (g := l.toArray.size - m) hS (fun listed a' Γ' w' hL hb hG => by
    have := wpAnyIn_of_seq (md := .any) (F := Fence.wide) (n := n) (Q' := Q) (l.drop m) m listed a' w' (fun j => by simp [List.getElem?_drop]) (by rw [hdl]; exact hL.1) (hL.2 w' hb hG)
    rwa [hdl] at this) _ _ _ _ { w with drawn := w.drawn + 1 } H ((Below.refl _ _).drew) (fun _ => trivial) (fun _ _ _ _ _ => trivial)
  rw [htl, show m + (l.toArray.size - m) = l.toArray.size by omega] at this
  exact this
end
end Go.Flow
