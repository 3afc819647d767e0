/- As Fl (a region that draws its order), but each operation's word also knows between which blocks its own new ones lie; at the end these are told apart. -/
import Derived.Test.YtdfnolgcdododaaDoorFl
namespace Go.FlX
open Go Go.RowKit
open Go.Flow (yields yields_mono wp_of_yields dep not_dep)

/-- An operation's word: its value; what is known of its value, its new blocks, the world; none: its value hangs on the frame alone. -/
abbrev Spec := Option (Value ⊕ (Value → Nat → Nat → World → Prop))
def Spec.holds : Spec → Value → Nat → Nat → World → Prop
  | some (.inl u), v, _, _, _ => v = u
  | some (.inr V), v, s, e, w => V v s e w
  | none, _, _, _, _ => True
def Spec.ok (P : Program) (w0 : World) (s : Spec) (o : Oper) (a : Act) (v : Value) : Prop := match s with
  | some (.inl u) => v = u
  | some (.inr _) => True
  | none => ∀ u, (execOp a.eval o).run P w0 = .ok (.value u) w0 → v = u
abbrev Ctx := Nat → Nat → Nat → World → Prop
def Mono (p : Nat → Nat → World → Prop) : Prop := ∀ s e w w', p s e w → Below w.heap.size w w' → p s e w'
def Spec.mono (s : Spec) : Prop := ∀ v, Mono (s.holds v)
theorem mono_inl (u : Value) : Spec.mono (some (.inl u)) := fun _ _ _ _ _ h _ => h
theorem mono_none : Spec.mono none := fun _ _ _ _ _ h _ => h

section
variable {P : Program} {ops : Array Oper}

def Runs (P : Program) (ops : Array Oper) (w0 : World) (o : Oper) (s : Spec) (a : Act) (w : World) : Prop :=
  if Region.wanted o (yielded ops a.tmps) then yields P o a.eval w (fun v w' => Below w.heap.size w w' ∧ s.ok P w0 o a v ∧ s.holds v w.heap.size w'.heap.size w') else s.ok P w0 o a undef ∧ s.holds undef w.heap.size w.heap.size w
def Runs' (P : Program) (ops : Array Oper) (w0 : World) (o : Oper) (s : Spec) (a : Act) (Γ : Ctx) : Prop :=
  ∀ w, Below w0.heap.size w0 w → (∀ j, dep o j = true → ∃ b e, Γ j b e w) → Runs P ops w0 o s a w
def upd (Γ : Ctx) (i : Nat) (p : Nat → Nat → World → Prop) : Ctx := fun j => if j = i then p else Γ j
theorem upd_ne {Γ : Ctx} {i j : Nat} {p : Nat → Nat → World → Prop} (h : j ≠ i) : upd Γ i p j = Γ j := by simp [upd, h]
theorem upd_same {Γ : Ctx} {i : Nat} {p : Nat → Nat → World → Prop} : upd Γ i p i = p := by simp [upd]
theorem upd_comm {Γ : Ctx} {i j : Nat} {p q : Nat → Nat → World → Prop} (h : j ≠ i) : upd (upd Γ i p) j q = upd (upd Γ j q) i p := by
  funext k; unfold upd
  by_cases h1 : k = j
  · subst h1; simp [h]
  · simp [h1]
def fOp (P : Program) (ops : Array Oper) (S : Nat → Spec) (w0 : World) (i : Nat) (K : Act → Ctx → Prop) (a : Act) (Γ : Ctx) : Prop :=
  match ops[i]? with
  | none => K a Γ
  | some o => (∃ v, (S i).ok P w0 o a v) ∧ Runs' P ops w0 o (S i) a Γ ∧ ∀ v, (S i).ok P w0 o a v → K (a.put o.dst v) (upd Γ i ((S i).holds v))
theorem ok_same {w0 : World} {s : Spec} {o : Oper} {a a' : Act} {v : Value} (he : execOp a'.eval o = execOp a.eval o) : s.ok P w0 o a' v ↔ s.ok P w0 o a v := by
  unfold Spec.ok
  cases s with
  | none => simp only [he]
  | some x => cases x <;> exact Iff.rfl
theorem Runs'.of_same {w0 : World} {o : Oper} {s : Spec} {a a' : Act} {Γ Γ' : Ctx} (h : Runs' P ops w0 o s a Γ) (he : execOp a'.eval o = execOp a.eval o)
    (hw : Region.wanted o (yielded ops a'.tmps) = Region.wanted o (yielded ops a.tmps)) (hg : ∀ j, dep o j = true → Γ' j = Γ j) : Runs' P ops w0 o s a' Γ' := by
  intro w hB hG
  have := h w hB (fun j hj => by rw [← hg j hj]; exact hG j hj)
  unfold Runs yields at *
  simp only [ok_same he]
  rw [he, hw]
  exact this
def Tree (P : Program) (ops : Array Oper) (S : Nat → Spec) (w0 : World) (E : Act → Ctx → Prop) : List Oper → Nat → Act → Ctx → Prop
  | [], _, a, Γ => E a Γ
  | o :: rest, i, a, Γ => (∃ v, (S i).ok P w0 o a v) ∧ Runs' P ops w0 o (S i) a Γ ∧ ∀ v, (S i).ok P w0 o a v → Tree P ops S w0 E rest (i + 1) (a.put o.dst v) (upd Γ i ((S i).holds v))
def anyFL (P : Program) (ops : Array Oper) (S : Nat → Spec) (w0 : World) (n : Nat) (L : Array Bool → Act → Ctx → Prop) : Nat → Array Bool → Act → Ctx → Prop
  | 0, listed, a, Γ => L listed a Γ
  | f + 1, listed, a, Γ => Region.ready .any ops listed ≠ [] ∧ ∀ i ∈ Region.ready .any ops listed, i < n ∧ fOp P ops S w0 i (anyFL P ops S w0 n L f (listed.setIfInBounds i true)) a Γ
/-- The words hold, each between two blocks of its own; no two of these spans meet. -/
structure Told (w0 : World) (Γ : Ctx) (I : Nat → Nat × Nat) (w : World) : Prop where
  holds : ∀ j, Γ j (I j).1 (I j).2 w
  le : ∀ j, w0.heap.size ≤ (I j).1 ∧ (I j).1 ≤ (I j).2 ∧ (I j).2 ≤ w.heap.size
  apart : ∀ j k, j ≠ k → (I j).2 ≤ (I k).1 ∨ (I k).2 ≤ (I j).1
theorem Told.step {S : Nat → Spec} {w0 w w' : World} {Γ : Ctx} {I : Nat → Nat × Nat} (h : Told w0 Γ I w) (hM : ∀ j, Mono (Γ j)) (hB : Below w0.heap.size w0 w) (i : Nat) (v : Value) (hb : Below w.heap.size w w')
    (hv : (S i).holds v w.heap.size w'.heap.size w') : Told w0 (upd Γ i ((S i).holds v)) (fun j => if j = i then (w.heap.size, w'.heap.size) else I j) w' := by
  refine ⟨fun j => ?_, fun j => ?_, fun j k hjk => ?_⟩
  · by_cases e : j = i
    · subst e; rw [upd_same, if_pos rfl]; exact hv
    · rw [upd_ne e, if_neg e]; exact hM j _ _ _ _ (h.holds j) hb
  · by_cases e : j = i
    · rw [if_pos e]; exact ⟨hB.size, hb.size, Nat.le_refl _⟩
    · rw [if_neg e]; exact ⟨(h.le j).1, (h.le j).2.1, Nat.le_trans (h.le j).2.2 hb.size⟩
  · by_cases e : j = i
    · have ek : k ≠ i := fun e2 => hjk (e.trans e2.symm)
      rw [if_pos e, if_neg ek]; exact .inr (h.le k).2.2
    · rw [if_neg e]
      by_cases ek : k = i
      · rw [if_pos ek]; exact .inl (h.le j).2.2
      · rw [if_neg ek]; exact h.apart j k hjk
theorem mono_upd {S : Nat → Spec} (hS : ∀ i, (S i).mono) {Γ : Ctx} (hM : ∀ j, Mono (Γ j)) (i : Nat) (v : Value) : ∀ j, Mono (upd Γ i ((S i).holds v) j) := fun j => by
  by_cases e : j = i
  · subst e; rw [upd_same]; exact hS j v
  · rw [upd_ne e]; exact hM j
theorem wpAny_of_anyFL {S : Nat → Spec} {w0 : World} (hS : ∀ i, (S i).mono) {n g : Nat} {L : Array Bool → Act → Ctx → Prop} {Q : Exit → Act → World → Prop}
    (hL : ∀ listed a Γ w I, L listed a Γ → Below w0.heap.size w0 w → Told w0 Γ I w → wpAny P .any ops Q g listed a w) : ∀ (f : Nat) (listed : Array Bool) (a : Act) (Γ : Ctx) (w : World) (I : Nat → Nat × Nat),
    anyFL P ops S w0 n L f listed a Γ → Below w0.heap.size w0 w → Told w0 Γ I w → (∀ j, Mono (Γ j)) → wpAny P .any ops Q (f + g) listed a w
  | 0, _, _, _, _, _, h, hB, hG, _ => by rw [Nat.zero_add]; exact hL _ _ _ _ _ h hB hG
  | f + 1, listed, a, Γ, w, I, h, hB, hG, hM => by
    rw [show f + 1 + g = (f + g) + 1 by omega]
    refine ⟨fun h0 => absurd h0 h.1, fun i hi => ?_⟩
    have h1 := (h.2 i hi).2
    unfold fOp at h1
    unfold wpOp
    split
    · rename_i ho
      simp only [ho] at h1
      exact wpAny_of_anyFL hS hL f _ _ _ _ _ h1 hB hG hM
    · rename_i o ho
      simp only [ho] at h1
      have h2 := h1.2.1 w hB (fun j _ => ⟨_, _, hG.holds j⟩)
      unfold Runs at h2
      split
      · rename_i hw
        simp only [hw, if_true] at h2
        refine .inl (wp_of_yields (yields_mono ?_ h2))
        intro v w' ⟨hb, ho, hv⟩
        exact wpAny_of_anyFL hS hL f _ _ _ _ _ (h1.2.2 v ho) (hB.trans (hb.mono hB.size)) (hG.step hM hB i v hb hv) (mono_upd hS hM i v)
      · rename_i hw
        simp only [hw] at h2
        exact wpAny_of_anyFL hS hL f _ _ _ _ _ (h1.2.2 undef h2.1) hB (hG.step hM hB i undef (Below.refl _ _) h2.2) (mono_upd hS hM i undef)
theorem anyFL_first {S : Nat → Spec} {w0 : World} {n i : Nat} {oi : Oper} {L : Array Bool → Act → Ctx → Prop} (hi : ops[i]? = some oi) (hsel : ∀ (j : Nat) (o : Oper) cs b, ops[j]? = some o → o.op ≠ .select cs b)
    (hs : Region.sinkB .any ops n = true) (hc : Region.chainB .any ops n = true) (hn : n < ops.size) (hin : i < n)
    (hdone : ∀ listed a Γ, L listed a Γ → ∀ j ∈ Region.ready .any ops listed, n ≤ j) :
    ∀ (f : Nat) (listed : Array Bool) (a : Act) (Γ : Ctx), HeadInv .any ops n listed →
      (∀ j oj, ops[j]? = some oj → j ≠ i → listed.getD j true = false → (∀ e ∈ oj.after, Region.binds .any e = true → e.on ≠ i) → oi.apart ops oj = true) →
      i ∈ Region.ready .any ops listed → (∃ v, (S i).ok P w0 oi a v) → Runs' P ops w0 oi (S i) a Γ →
      (∀ v, (S i).ok P w0 oi a v → anyFL P ops S w0 n L f (listed.setIfInBounds i true) (a.put oi.dst v) (upd Γ i ((S i).holds v))) → anyFL P ops S w0 n L (f + 1) listed a Γ := by
  intro f
  induction f with
  | zero =>
    intro listed a Γ inv _ hr hex hy H
    obtain ⟨v0, hv0⟩ := hex
    have hun := (mem_ready.1 hr).1
    refine ⟨fun h => (by rw [h] at hr; cases hr), fun j hj => ?_⟩
    have hjn : j < n := by
      rcases Nat.lt_or_ge j n with h | h
      · exact h
      · exact absurd hj (tail_waits hs hc hn inv _ i rfl hin hun j h)
    refine ⟨hjn, ?_⟩
    by_cases hji : j = i
    · subst hji
      unfold fOp; simp only [hi]; exact ⟨⟨v0, hv0⟩, hy, H⟩
    · have := hdone _ _ _ (H v0 hv0) j (ready_mono hj hji)
      omega
  | succ f ih =>
    intro listed a Γ inv hfree hr hex hy H
    obtain ⟨v0, hv0⟩ := hex
    have hun := (mem_ready.1 hr).1
    refine ⟨fun h => (by rw [h] at hr; cases hr), fun j hj => ?_⟩
    have hjn : j < n := by
      rcases Nat.lt_or_ge j n with h | h
      · exact h
      · exact absurd hj (tail_waits hs hc hn inv _ i rfl hin hun j h)
    refine ⟨hjn, ?_⟩
    by_cases hji : j = i
    · subst hji
      unfold fOp; simp only [hi]; exact ⟨⟨v0, hv0⟩, hy, H⟩
    · obtain ⟨hjun, oj, hoj, hall⟩ := mem_ready.1 hj
      have unl : ∀ k, listed.getD k true = false → listed.getD k false = true → False := fun k h1 h0 => by rw [getD_both h1] at h0; cases h0
      have hnot : ∀ e ∈ oj.after, Region.binds .any e = true → e.on ≠ i := fun e he hb heq => unl i hun (by rw [← heq]; exact hall e he hb)
      have hnoti : ∀ e ∈ oi.after, Region.binds .any e = true → e.on ≠ j := fun e he hb heq => by
        obtain ⟨_, o', ho', hall'⟩ := mem_ready.1 hr
        rw [hi] at ho'; cases ho'
        exact unl j hjun (by rw [← heq]; exact hall' e he hb)
      have hap := hfree j oj hoj hji hjun hnot
      obtain ⟨h1, h2, h3⟩ := Oper.apart_spec hap
      have hfree' : ∀ k ok, ops[k]? = some ok → k ≠ i → (listed.setIfInBounds j true).getD k true = false →
          (∀ e ∈ ok.after, Region.binds .any e = true → e.on ≠ i) → oi.apart ops ok = true := fun k ok hk hki hun hno => by
        refine hfree k ok hk hki ?_ hno
        by_cases hjk : j = k
        · subst hjk; exact hjun
        · rw [getD_set_ne true hjk] at hun; exact hun
      have Hj : ∀ v, (S i).ok P w0 oi a v → (∃ u, (S j).ok P w0 oj (a.put oi.dst v) u) ∧ Runs' P ops w0 oj (S j) (a.put oi.dst v) (upd Γ i ((S i).holds v)) ∧ ∀ u, (S j).ok P w0 oj (a.put oi.dst v) u →
          anyFL P ops S w0 n L f ((listed.setIfInBounds i true).setIfInBounds j true) ((a.put oi.dst v).put oj.dst u) (upd (upd Γ i ((S i).holds v)) j ((S j).holds u)) := fun v hv => by
        have := ((H v hv).2 j (ready_mono hj hji)).2
        unfold fOp at this
        simpa only [hoj] using this
      unfold fOp
      simp only [hoj]
      have ej := fun v => execOp_put oj (fun cs b => hsel j oj cs b hoj) a oi.dst v h1
      have ei := fun u => execOp_put oi (fun cs b => hsel i oi cs b hi) a oj.dst u h3
      refine ⟨(Hj v0 hv0).1.imp fun u hu => (ok_same (ej v0)).1 hu, (Hj v0 hv0).2.1.of_same (ej v0).symm (wanted_put oj a oi.dst v0 h1).symm (fun k hk => ?_), fun u hu => ?_⟩
      · exact (upd_ne (not_dep hnot hk)).symm
      · refine ih (listed.setIfInBounds j true) _ _ (inv.set hj hjn) hfree' (ready_mono hr (Ne.symm hji)) ⟨v0, (ok_same (ei u)).2 hv0⟩ ?_ (fun v hv => ?_)
        · exact hy.of_same (execOp_put oi (fun cs b => hsel i oi cs b hi) a oj.dst u h3) (wanted_put oi a oj.dst u h3) (fun k hk => upd_ne (not_dep hnoti hk))
        · have hv' := (ok_same (ei u)).1 hv
          have := (Hj v hv').2.2 u ((ok_same (ej v)).2 hu)
          rw [Array.setIfInBounds_comm _ _ hji, ← Act.put_comm a v u h2, ← upd_comm hji]
          exact this

theorem anyFL_lex {S : Nat → Spec} {w0 : World} {n g : Nat} {Lq : Act → Ctx → Prop} (hsel : Region.noSelect ops = true) (hs : Region.sinkB .any ops n = true) (hc : Region.chainB .any ops n = true) (hn : n < ops.size) :
    ∀ (l : List Oper) (k : Nat) (listed : Array Bool) (a : Act) (Γ : Ctx), (∀ j, j < l.length → l[j]? = ops[k + j]?) → k + l.length = n → HeadInv .any ops n listed →
    Region.lexHead .any ops g l.length k listed = true → Tree P ops S w0 Lq l k a Γ →
    anyFL P ops S w0 n (fun listed' a' Γ' => Region.seqB .any ops g n listed' = true ∧ Lq a' Γ') l.length listed a Γ
  | [], k, listed, a, Γ, _, hk, _, hB, h => by
    have : k = n := by simpa using hk
    subst this
    exact ⟨by simpa [Region.lexHead] using hB, h⟩
  | o :: l, k, listed, a, Γ, hl, hk, inv, hB, h => by
    have h0 : ops[k]? = some o := by simpa using (hl 0 (by simp)).symm
    simp only [List.length_cons, Region.lexHead, Bool.and_eq_true] at hB
    obtain ⟨⟨hr, hf⟩, hB'⟩ := hB
    have hkn : k < n := by simp only [List.length_cons] at hk; omega
    have hr' : k ∈ Region.ready .any ops listed := by simpa using hr
    exact anyFL_first h0 (Region.noSelect_spec hsel) hs hc hn hkn (fun listed' a' Γ' hL => seqB_ready hL.1) l.length listed a Γ inv (Region.free_spec h0 hf) hr' h.1 h.2.1
      (fun v hv => anyFL_lex hsel hs hc hn l (k + 1) _ _ _ (fun j hj => by have := hl (j + 1) (by simp; omega); simpa [Nat.add_assoc, Nat.add_comm 1 j] using this) (by simp only [List.length_cons] at hk; omega) (inv.set hr' hkn) hB' (h.2.2 v hv))

theorem wp_region_flow_tail {id : Nat} {Q : Exit → Act → World → Prop} {a : Act} {w : World} {l : List Oper} (n : Nat) (S : Nat → Spec) (hm : P.follows .mixedOrders = true) (hB : Region.lexTailB .any l.toArray n = true) (hS : ∀ i, (S i).mono)
    (h : Tree P l.toArray S w (fun a' Γ => ∀ w', Below w.heap.size w w' → (∃ I, Told w Γ I w') → wpList P l.toArray Q (l.drop n) a' w') (l.take n) 0 a (fun _ _ _ _ => True)) : (Code.region id l.toArray true).wp P Q a w := by
  simp only [Region.lexTailB, Bool.and_eq_true, decide_eq_true_eq] at hB
  obtain ⟨⟨⟨⟨hsel, hn⟩, hs⟩, hc⟩, hlex⟩ := hB
  have hn' : n < l.length := by simpa using hn
  have htl : (l.take n).length = n := by simp; omega
  have hdl : (l.drop n).length = l.toArray.size - n := by simp
  have inv0 : HeadInv .any l.toArray n (Array.replicate l.toArray.size false) :=
    ⟨by simp, fun j oj _ hl => (by rw [getD_replicate_false] at hl; cases hl), fun t _ ht => getD_in (by simpa using ht) (getD_replicate_false _ _)⟩
  have H := anyFL_lex (g := l.toArray.size - n) hsel hs hc hn (l.take n) 0 _ a (fun _ _ _ _ => True) (fun j hj => by
    have hj' : j < n := by rw [htl] at hj; exact hj
    simp [hj']) (by simpa using htl) inv0 (by rw [htl]; exact hlex) h
  refine wp_region_any hm ?_
  have := wpAny_of_anyFL (Q := Q) (g := l.toArray.size - n) hS (fun listed a' Γ' w' I hL hb hG => by
    have := wpAny_of_seq (md := .any) (Q' := Q) (l.drop n) n listed a' w' (fun j => by simp [List.getElem?_drop]) (by rw [hdl]; exact hL.1) (hL.2 w' hb ⟨I, hG⟩)
    rwa [hdl] at this) _ _ _ _ { w with drawn := w.drawn + 1 } (fun _ => (w.heap.size, w.heap.size)) H ((Below.refl _ _).drew) ⟨fun _ => trivial, fun _ => ⟨Nat.le_refl _, Nat.le_refl _, Nat.le_refl _⟩, fun _ _ _ => .inl (Nat.le_refl _)⟩ (fun _ _ _ _ _ _ _ => trivial)
  rw [htl, show n + (l.toArray.size - n) = l.toArray.size by omega] at this
  exact this

theorem tree_nil {S : Nat → Spec} {w0 : World} {E : Act → Ctx → Prop} {i : Nat} {a : Act} {Γ : Ctx} (h : E a Γ) : Tree P ops S w0 E [] i a Γ := h
def specs (l : List Spec) : Nat → Spec := fun i => l.getD i none
theorem specs_mono {l : List Spec} (h : ∀ s ∈ l, Spec.mono s) : ∀ i, (specs l i).mono := fun i => by
  unfold specs
  rcases Nat.lt_or_ge i l.length with h' | h'
  · rw [List.getD_eq_getElem?_getD, List.getElem?_eq_getElem h']; exact h _ (List.getElem_mem h')
  · rw [List.getD_eq_getElem?_getD, List.getElem?_eq_none h']; exact mono_none
/-- As Flow's: an operation whose value is known. -/
def RunsV (P : Program) (ops : Array Oper) (o : Oper) (u : Value) (a : Act) (w : World) : Prop :=
  if Region.wanted o (yielded ops a.tmps) then yields P o a.eval w (fun v w' => Below w.heap.size w w' ∧ v = u) else undef = u
/-- .. of whose value something is known. -/
def RunsR (P : Program) (ops : Array Oper) (o : Oper) (V : Value → Nat → Nat → World → Prop) (a : Act) (w : World) : Prop :=
  if Region.wanted o (yielded ops a.tmps) then yields P o a.eval w (fun v w' => Below w.heap.size w w' ∧ V v w.heap.size w'.heap.size w') else V undef w.heap.size w.heap.size w
theorem tree_valK {S : Nat → Spec} {w0 : World} {E : Act → Ctx → Prop} {o : Oper} {rest : List Oper} {i : Nat} {a : Act} {Γ : Ctx} {u : Value} (hs : S i = some (.inl u))
    (h : ∀ K : Act → Prop, (∀ a', Tree P ops S w0 E rest (i + 1) a' (upd Γ i (fun _ _ _ => True)) → K a') → (∀ w, Below w0.heap.size w0 w → (∀ j, dep o j = true → ∃ b e, Γ j b e w) → RunsV P ops o u a w) ∧ K (a.put o.dst u)) : Tree P ops S w0 E (o :: rest) i a Γ := by
  refine ⟨by rw [hs]; exact ⟨u, rfl⟩, ?_, fun v hv => ?_⟩
  · intro w hB hG
    have := (h (fun _ => True) (fun _ _ => trivial)).1 w hB hG
    rw [hs]
    unfold RunsV at this
    unfold Runs
    split
    · rename_i hw; simp only [hw, if_true] at this
      exact yields_mono (fun v w' h => ⟨h.1, h.2, h.2⟩) this
    · rename_i hw; simp only [hw] at this
      exact ⟨this, this⟩
  · rw [hs] at hv ⊢
    have hv' : v = u := hv
    subst hv'
    have e : Spec.holds (some (.inl v)) v = fun _ _ _ => True := by funext a b c; simp [Spec.holds]
    rw [e]
    exact (h (fun a' => Tree P ops S w0 E rest (i + 1) a' (upd Γ i (fun _ _ _ => True))) (fun _ h => h)).2
theorem tree_varK {S : Nat → Spec} {w0 : World} {E : Act → Ctx → Prop} {o : Oper} {rest : List Oper} {i : Nat} {a : Act} {Γ : Ctx} {V : Value → Nat → Nat → World → Prop} (hs : S i = some (.inr V))
    (h : ∀ K : Act → (Nat → Nat → World → Prop) → Prop, (∀ a' v, Tree P ops S w0 E rest (i + 1) a' (upd Γ i (V v)) → K a' (V v)) → (∀ w, Below w0.heap.size w0 w → (∀ j, dep o j = true → ∃ b e, Γ j b e w) → RunsR P ops o V a w) ∧ ∀ v, K (a.put o.dst v) (V v)) : Tree P ops S w0 E (o :: rest) i a Γ := by
  refine ⟨by rw [hs]; exact ⟨undef, trivial⟩, ?_, fun v _ => ?_⟩
  · intro w hB hG
    have := (h (fun _ _ => True) (fun _ _ _ => trivial)).1 w hB hG
    rw [hs]
    unfold RunsR at this
    unfold Runs
    split
    · rename_i hw; simp only [hw, if_true] at this
      exact yields_mono (fun v w' h => ⟨h.1, trivial, h.2⟩) this
    · rename_i hw; simp only [hw] at this
      exact ⟨trivial, this⟩
  · rw [hs]
    exact (h (fun a' p => Tree P ops S w0 E rest (i + 1) a' (upd Γ i p)) (fun _ _ h => h)).2 v
/-- An operation that the frame decides. -/
theorem tree_pureK {S : Nat → Spec} {w0 : World} {E : Act → Ctx → Prop} {o : Oper} {rest : List Oper} {i : Nat} {a : Act} {Γ : Ctx} (hs : S i = none)
    (h : ∀ K : Act → Prop, (∀ a', Tree P ops S w0 E rest (i + 1) a' (upd Γ i (fun _ _ _ => True)) → K a') → (∀ w, Below w0.heap.size w0 w → (∀ j, dep o j = true → ∃ b e, Γ j b e w) → Region.wanted o (yielded ops a.tmps) = true ∧ ∃ u, (execOp a.eval o).run P w = .ok (.value u) w ∧ (execOp a.eval o).run P w0 = .ok (.value u) w0) ∧
      ∀ v, (∀ u, (execOp a.eval o).run P w0 = .ok (.value u) w0 → v = u) → K (a.put o.dst v)) : Tree P ops S w0 E (o :: rest) i a Γ := by
  refine ⟨?_, ?_, fun v hv => ?_⟩
  · rw [hs]
    by_cases hu : ∃ u, (execOp a.eval o).run P w0 = .ok (.value u) w0
    · obtain ⟨u, hu⟩ := hu
      exact ⟨u, fun u' h' => by rw [hu] at h'; simpa using h'⟩
    · exact ⟨undef, fun u' h' => absurd ⟨u', h'⟩ hu⟩
  · intro w hB hG
    obtain ⟨hw, u, h1, h2⟩ := (h (fun _ => True) (fun _ _ => trivial)).1 w hB hG
    rw [hs]
    unfold Runs yields
    rw [if_pos hw, h1]
    exact ⟨Below.refl _ _, fun u' h' => by rw [h2] at h'; simpa using h', trivial⟩
  · rw [hs] at hv ⊢
    have e : Spec.holds none v = fun _ _ _ => True := by funext a b c; simp [Spec.holds]
    rw [e]
    exact (h (fun a' => Tree P ops S w0 E rest (i + 1) a' (upd Γ i (fun _ _ _ => True))) (fun _ h => h)).2 v hv
theorem lmono_nil : ∀ s ∈ ([] : List Spec), s.mono := fun _ h => by cases h
theorem lmono_inl {u : Value} {l : List Spec} (h : ∀ s ∈ l, s.mono) : ∀ s ∈ (some (.inl u) :: l : List Spec), s.mono := fun s hs => by
  rcases List.mem_cons.1 hs with rfl | hs
  · exact mono_inl u
  · exact h s hs
theorem lmono_none {l : List Spec} (h : ∀ s ∈ l, s.mono) : ∀ s ∈ (none :: l : List Spec), s.mono := fun s hs => by
  rcases List.mem_cons.1 hs with rfl | hs
  · exact mono_none
  · exact h s hs
theorem lmono_inr {V : Value → Nat → Nat → World → Prop} {l : List Spec} (hV : Spec.mono (some (.inr V))) (h : ∀ s ∈ l, s.mono) : ∀ s ∈ (some (.inr V) :: l : List Spec), s.mono := fun s hs => by
  rcases List.mem_cons.1 hs with rfl | hs
  · exact hV
  · exact h s hs
end
end Go.FlX
