/- As Fl, over any relation between worlds that holds of one world, goes on, and holds of a draw: a region whose operations may store into what they have made themselves. -/
import Derived.Still
import Derived.StillTail
import Derived.Below
import Derived.Deep.QuietTactic
import Derived.WalkKit
import Derived.Test.YtdfnolgcdododaaDoorFl
namespace Go.FlowR
open Go Go.RowKit

/-- What may become of a world. -/
structure Rel where
  r : World → World → Prop
  rf : ∀ w, r w w
  tr : ∀ {a b c}, r a b → r b c → r a c
  drew : ∀ w : World, r w { w with drawn := w.drawn + 1 }
abbrev Spec := Value ⊕ (Value → World → Prop)
def Spec.holds : Spec → Value → World → Prop
  | .inl u, v, _ => v = u
  | .inr V, v, w => V v w
def Spec.ok : Spec → Value → Prop
  | .inl u, v => v = u
  | .inr _, _ => True
def Mono (R : Rel) (p : World → Prop) : Prop := ∀ w w', p w → R.r w w' → p w'
def Spec.mono (R : Rel) (s : Spec) : Prop := ∀ v, Mono R (s.holds v)
theorem mono_inl {R : Rel} (u : Value) : Spec.mono R (.inl u) := fun _ _ _ h _ => h

section
variable {R : Rel} {P : Program} {ops : Array Oper}

/-- What an operation yields, and the world behind it. -/
def yields (P : Program) (o : Oper) (ρ : Operand → Value) (w : World) (R : Value → World → Prop) : Prop :=
  match (execOp ρ o).run P w with
  | .ok (.value v) w' => R v w'
  | .ok .skip w' => R undef w'
  | .ok (.enter f args) w' => Calls P f args w' fun e w'' => ∃ v, e = .returned v ∧ R v w''
  | _ => False

theorem yields_mono {o : Oper} {ρ : Operand → Value} {w : World} {R R' : Value → World → Prop} (h : ∀ v w, R v w → R' v w) (hy : yields P o ρ w R) : yields P o ρ w R' := by
  unfold yields at *
  generalize (execOp ρ o).run P w = r at *
  cases r with
  | ok n w' =>
    cases n <;> first
      | exact h _ _ hy
      | exact Calls.mono hy (fun e w'' ⟨v, he, hr⟩ => ⟨v, he, h _ _ hr⟩)
      | exact hy
  | halt x w' => exact hy

theorem wp_of_yields {o : Oper} {a : Act} {w : World} {K : Act → World → Prop} {Q : Exit → Act → World → Prop} (hy : yields P o a.eval w fun v w' => K (a.put o.dst v) w') : o.wp P a w K Q := by
  unfold yields at hy
  unfold Oper.wp
  generalize (execOp a.eval o).run P w = r at *
  cases r with
  | ok n w' =>
    cases n <;> simp only [Oper.upon] <;> first
      | exact hy
      | exact (show False from hy).elim
      | exact Calls.mono hy (fun e w'' ⟨v, he, hr⟩ => by subst he; exact hr)
  | halt x w' => exact hy.elim

/-- An operation keeps its word, in a frame and a world. -/
def Runs (R : Rel) (P : Program) (ops : Array Oper) (o : Oper) (s : Spec) (a : Act) (w : World) : Prop :=
  if Region.wanted o (yielded ops a.tmps) then yields P o a.eval w (fun v w' => R.r w w' ∧ s.holds v w') else s.holds undef w

def dep (o : Oper) (j : Nat) : Bool := o.after.any fun e => Region.binds .any e && e.on == j

/-- .. in every world of the region's in which those that it waits for have kept theirs. -/
def Runs' (R : Rel) (P : Program) (ops : Array Oper) (w0 : World) (o : Oper) (s : Spec) (a : Act) (Γ : Nat → World → Prop) : Prop :=
  ∀ w, R.r w0 w → (∀ j, dep o j = true → Γ j w) → Runs R P ops o s a w

def upd (Γ : Nat → World → Prop) (i : Nat) (p : World → Prop) : Nat → World → Prop := fun j => if j = i then p else Γ j
theorem upd_ne {Γ : Nat → World → Prop} {i j : Nat} {p : World → Prop} (h : j ≠ i) : upd Γ i p j = Γ j := by simp [upd, h]
theorem upd_same {Γ : Nat → World → Prop} {i : Nat} {p : World → Prop} : upd Γ i p i = p := by simp [upd]
theorem upd_comm {Γ : Nat → World → Prop} {i j : Nat} {p q : World → Prop} (h : j ≠ i) : upd (upd Γ i p) j q = upd (upd Γ j q) i p := by
  funext k; unfold upd
  by_cases h1 : k = j
  · subst h1; simp [h]
  · simp [h1]

/-- What is asked of an operation may hang on the value of one slot that it looks at. -/
def sp (S : Nat → Value → Spec) (σ : Nat → Nat) (i : Nat) (a : Act) : Spec := S i (a.tmps.getD (σ i) undef)
def SpOk (ops : Array Oper) (S : Nat → Value → Spec) (σ : Nat → Nat) : Prop := ∀ i oi, ops[i]? = some oi → σ i ∈ oi.looksAt ops ∨ ∀ x y, S i x = S i y
theorem sp_put {S : Nat → Value → Spec} {σ : Nat → Nat} (hS : SpOk ops S σ) {i : Nat} {oi : Oper} (hi : ops[i]? = some oi) (a : Act) (dst : Option Tmp) (v : Value) (h : ∀ d, dst = some d → d ∉ oi.looksAt ops) : sp S σ i (a.put dst v) = sp S σ i a := by
  rcases hS i oi hi with h1 | h1
  · unfold sp
    cases dst with
    | none => rfl
    | some d =>
      have hne : d ≠ σ i := fun e => h d rfl (e ▸ h1)
      congr 1
      simp [Act.put, hne]
  · exact h1 _ _

def fOp (R : Rel) (P : Program) (ops : Array Oper) (S : Nat → Value → Spec) (σ : Nat → Nat) (w0 : World) (i : Nat) (K : Act → (Nat → World → Prop) → Prop) (a : Act) (Γ : Nat → World → Prop) : Prop :=
  match ops[i]? with
  | none => K a Γ
  | some o => Runs' R P ops w0 o (sp S σ i a) a Γ ∧ ∀ v, (sp S σ i a).ok v → K (a.put o.dst v) (upd Γ i ((sp S σ i a).holds v))

def anyF (R : Rel) (P : Program) (ops : Array Oper) (S : Nat → Value → Spec) (σ : Nat → Nat) (w0 : World) (E : Act → (Nat → World → Prop) → Prop) : Nat → Array Bool → Act → (Nat → World → Prop) → Prop
  | 0, listed, a, Γ => Region.ready .any ops listed = [] ∧ E a Γ
  | fuel + 1, listed, a, Γ =>
    (Region.ready .any ops listed = [] → E a Γ) ∧
    ∀ i ∈ Region.ready .any ops listed, fOp R P ops S σ w0 i (anyF R P ops S σ w0 E fuel (listed.setIfInBounds i true)) a Γ

theorem fOp_mono {S : Nat → Value → Spec} {σ : Nat → Nat} {w0 : World} {i : Nat} {K K' : Act → (Nat → World → Prop) → Prop} {a : Act} {Γ : Nat → World → Prop} (h : ∀ a Γ, K a Γ → K' a Γ) (hh : fOp R P ops S σ w0 i K a Γ) : fOp R P ops S σ w0 i K' a Γ := by
  unfold fOp at *
  split
  · rename_i ho; simp only [ho] at hh; exact h _ _ hh
  · rename_i o ho; simp only [ho] at hh; exact ⟨hh.1, fun v hv => h _ _ (hh.2 v hv)⟩

/-- It serves whatever order is picked. -/
theorem wpAny_of_anyF {S : Nat → Value → Spec} {σ : Nat → Nat} {w0 : World} (hS : ∀ i x, Spec.mono R (S i x)) {E : Act → (Nat → World → Prop) → Prop} {Q : Exit → Act → World → Prop}
    (hE : ∀ a Γ w, E a Γ → R.r w0 w → (∀ j, Γ j w) → Q .normal a w) : ∀ (fuel : Nat) (listed : Array Bool) (a : Act) (Γ : Nat → World → Prop) (w : World),
    anyF R P ops S σ w0 E fuel listed a Γ → R.r w0 w → (∀ j, Γ j w) → (∀ j, Mono R (Γ j)) → wpAny P .any ops Q fuel listed a w
  | 0, _, _, _, _, h, hB, hG, _ => ⟨h.1, hE _ _ _ h.2 hB hG⟩
  | fuel + 1, listed, a, Γ, w, h, hB, hG, hM => by
    refine ⟨fun h0 => hE _ _ _ (h.1 h0) hB hG, fun i hi => ?_⟩
    have h1 := h.2 i hi
    unfold fOp at h1
    unfold wpOp
    have hM' : ∀ v j, Mono R (upd Γ i ((sp S σ i a).holds v) j) := fun v j => by
      by_cases e : j = i
      · subst e; rw [upd_same]; exact hS j _ v
      · rw [upd_ne e]; exact hM j
    have hG' : ∀ v w', R.r w w' → (sp S σ i a).holds v w' → ∀ j, upd Γ i ((sp S σ i a).holds v) j w' := fun v w' hb hv j => by
      by_cases e : j = i
      · subst e; rw [upd_same]; exact hv
      · rw [upd_ne e]; exact hM j _ _ (hG j) hb
    have hok : ∀ v w', (sp S σ i a).holds v w' → (sp S σ i a).ok v := fun v w' hv => by
      cases hs : sp S σ i a with
      | inl u => rw [hs] at hv; exact hv
      | inr V => trivial
    split
    · rename_i ho
      simp only [ho] at h1
      exact wpAny_of_anyF hS hE fuel _ _ _ _ h1 hB hG hM
    · rename_i o ho
      simp only [ho] at h1
      have h2 := h1.1 w hB (fun j _ => hG j)
      unfold Runs at h2
      split
      · rename_i hw
        simp only [hw, if_true] at h2
        refine .inl (wp_of_yields (yields_mono ?_ h2))
        intro v w' ⟨hb, hv⟩
        exact wpAny_of_anyF hS hE fuel _ _ _ _ (h1.2 v (hok v w' hv)) (R.tr hB hb) (hG' v w' hb hv) (hM' v)
      · rename_i hw
        simp only [hw] at h2
        exact wpAny_of_anyF hS hE fuel _ _ _ _ (h1.2 undef (hok _ _ h2)) hB (hG' _ _ (R.rf _) h2) (hM' _)

theorem Runs'.of_same {w0 : World} {o : Oper} {s : Spec} {a a' : Act} {Γ Γ' : Nat → World → Prop} (h : Runs' R P ops w0 o s a Γ) (he : execOp a'.eval o = execOp a.eval o)
    (hw : Region.wanted o (yielded ops a'.tmps) = Region.wanted o (yielded ops a.tmps)) (hg : ∀ j, dep o j = true → Γ' j = Γ j) : Runs' R P ops w0 o s a' Γ' := by
  intro w hB hG
  have := h w hB (fun j hj => by rw [← hg j hj]; exact hG j hj)
  unfold Runs yields at *
  rw [he, hw]
  exact this

theorem not_dep {o : Oper} {i : Nat} (h : ∀ e ∈ o.after, Region.binds .any e = true → e.on ≠ i) {j : Nat} (hj : dep o j = true) : j ≠ i := by
  obtain ⟨e, he, hb⟩ := Array.any_eq_true'.1 hj
  rw [Bool.and_eq_true, beq_iff_eq] at hb
  intro e2
  exact h e he hb.1 (by rw [hb.2, e2])

/-- An operation that may come up now may be taken first. -/
theorem anyF_first {S : Nat → Value → Spec} {σ : Nat → Nat} {w0 : World} {E : Act → (Nat → World → Prop) → Prop} {i : Nat} {oi : Oper} (hSp : SpOk ops S σ) (hi : ops[i]? = some oi) (hsel : ∀ (j : Nat) (o : Oper) cs b, ops[j]? = some o → o.op ≠ .select cs b) :
    ∀ (fuel : Nat) (listed : Array Bool) (a : Act) (Γ : Nat → World → Prop),
      (∀ j oj, ops[j]? = some oj → j ≠ i → listed.getD j true = false → (∀ e ∈ oj.after, Region.binds .any e = true → e.on ≠ i) → oi.apart ops oj = true) →
      i ∈ Region.ready .any ops listed → Runs' R P ops w0 oi (sp S σ i a) a Γ →
      (∀ v, (sp S σ i a).ok v → anyF R P ops S σ w0 E fuel (listed.setIfInBounds i true) (a.put oi.dst v) (upd Γ i ((sp S σ i a).holds v))) → anyF R P ops S σ w0 E (fuel + 1) listed a Γ := by
  have hex : ∀ a, ∃ v, (sp S σ i a).ok v := fun a => by
    cases hs : sp S σ i a with
    | inl u => exact ⟨u, rfl⟩
    | inr V => exact ⟨undef, trivial⟩
  intro fuel
  induction fuel with
  | zero =>
    intro listed a Γ _ hr hy H
    obtain ⟨v0, hv0⟩ := hex a
    refine ⟨fun h => (by rw [h] at hr; cases hr), fun j hj => ?_⟩
    by_cases hji : j = i
    · subst hji
      unfold fOp; simp only [hi]; exact ⟨hy, H⟩
    · have := ready_mono hj hji
      rw [(H v0 hv0).1] at this
      cases this
  | succ fuel ih =>
    intro listed a Γ hfree hr hy H
    obtain ⟨v0, hv0⟩ := hex a
    refine ⟨fun h => (by rw [h] at hr; cases hr), fun j hj => ?_⟩
    by_cases hji : j = i
    · subst hji
      unfold fOp; simp only [hi]; exact ⟨hy, H⟩
    · obtain ⟨hjun, oj, hoj, hall⟩ := mem_ready.1 hj
      have hiun := (mem_ready.1 hr).1
      have unl : ∀ k, listed.getD k true = false → listed.getD k false = true → False := fun k h1 h0 => by
        rcases Nat.lt_or_ge k listed.size with h' | h'
        · simp [h'] at h0 h1; rw [h0] at h1; cases h1
        · simp [Array.getElem?_eq_none h'] at h1
      have hnot : ∀ e ∈ oj.after, Region.binds .any e = true → e.on ≠ i := fun e he hb heq => unl i hiun (by rw [← heq]; exact hall e he hb)
      have hnoti : ∀ e ∈ oi.after, Region.binds .any e = true → e.on ≠ j := fun e he hb heq => by
        obtain ⟨_, o', ho', hall'⟩ := mem_ready.1 hr
        rw [hi] at ho'; cases ho'
        exact unl j hjun (by rw [← heq]; exact hall' e he hb)
      have hap := hfree j oj hoj hji hjun hnot
      obtain ⟨h1, h2, h3⟩ := Oper.apart_spec hap
      have hfree' : ∀ k ok, ops[k]? = some ok → k ≠ i → (listed.setIfInBounds j true).getD k true = false →
          (∀ e ∈ ok.after, Region.binds .any e = true → e.on ≠ i) → oi.apart ops ok = true := fun k ok hk hki hun hno => by
        refine hfree k ok hk hki ?_ hno
        by_cases hjk : j = k
        · subst hjk; exact hjun
        · rw [getD_set_ne true hjk] at hun; exact hun
      have ej : ∀ v, sp S σ j (a.put oi.dst v) = sp S σ j a := fun v => sp_put hSp hoj a oi.dst v h1
      have ei : ∀ u, sp S σ i (a.put oj.dst u) = sp S σ i a := fun u => sp_put hSp hi a oj.dst u h3
      have Hj : ∀ v, (sp S σ i a).ok v → Runs' R P ops w0 oj (sp S σ j a) (a.put oi.dst v) (upd Γ i ((sp S σ i a).holds v)) ∧ ∀ u, (sp S σ j a).ok u →
          anyF R P ops S σ w0 E fuel ((listed.setIfInBounds i true).setIfInBounds j true) ((a.put oi.dst v).put oj.dst u) (upd (upd Γ i ((sp S σ i a).holds v)) j ((sp S σ j a).holds u)) := fun v hv => by
        have := (H v hv).2 j (ready_mono hj hji)
        unfold fOp at this
        simpa only [hoj, ej v] using this
      unfold fOp
      simp only [hoj]
      refine ⟨(Hj v0 hv0).1.of_same (execOp_put oj (fun cs b => hsel j oj cs b hoj) a oi.dst v0 h1).symm (wanted_put oj a oi.dst v0 h1).symm (fun k hk => ?_), fun u hu => ?_⟩
      · exact (upd_ne (not_dep hnot hk)).symm
      · refine ih (listed.setIfInBounds j true) _ _ hfree' (ready_mono hr (Ne.symm hji)) ?_ (fun v hv => ?_)
        · rw [ei u]
          exact hy.of_same (execOp_put oi (fun cs b => hsel i oi cs b hi) a oj.dst u h3) (wanted_put oi a oj.dst u h3) (fun k hk => upd_ne (not_dep hnoti hk))
        · rw [ei u] at hv ⊢
          have := (Hj v hv).2 u hu
          rw [Array.setIfInBounds_comm _ _ hji, ← Act.put_comm a v u h2, ← upd_comm hji]
          exact this

/-- The walk in the order of the text. -/
def Tree (R : Rel) (P : Program) (ops : Array Oper) (S : Nat → Value → Spec) (σ : Nat → Nat) (w0 : World) (E : Act → (Nat → World → Prop) → Prop) : List Oper → Nat → Act → (Nat → World → Prop) → Prop
  | [], _, a, Γ => E a Γ
  | o :: rest, i, a, Γ => Runs' R P ops w0 o (sp S σ i a) a Γ ∧ ∀ v, (sp S σ i a).ok v → Tree R P ops S σ w0 E rest (i + 1) (a.put o.dst v) (upd Γ i ((sp S σ i a).holds v))

theorem anyF_lex {S : Nat → Value → Spec} {σ : Nat → Nat} {w0 : World} {E : Act → (Nat → World → Prop) → Prop} (hSp : SpOk ops S σ) (hs : Region.noSelect ops = true) : ∀ (l : List Oper) (k : Nat) (listed : Array Bool) (a : Act) (Γ : Nat → World → Prop), (∀ j, l[j]? = ops[k + j]?) →
    Region.lexFrom .any ops l.length k listed = true → Tree R P ops S σ w0 E l k a Γ → anyF R P ops S σ w0 E l.length listed a Γ
  | [], _, _, _, _, _, hB, h => ⟨by simpa [Region.lexFrom] using hB, h⟩
  | o :: l, k, listed, a, Γ, hl, hB, h => by
    have h0 : ops[k]? = some o := by simpa using (hl 0).symm
    simp only [List.length_cons, Region.lexFrom, Bool.and_eq_true] at hB
    obtain ⟨⟨hr, hf⟩, hB'⟩ := hB
    exact anyF_first hSp h0 (Region.noSelect_spec hs) l.length listed a Γ (Region.free_spec h0 hf) (by simpa using hr) h.1
      (fun v hv => anyF_lex hSp hs l (k + 1) _ _ _ (fun j => by have := hl (j + 1); simpa [Nat.add_assoc, Nat.add_comm 1 j] using this) hB' (h.2 v hv))

/-- A region that draws its order: the words of its operations, and the walk in the order of the text. -/
theorem wp_region_flow {id : Nat} {Q : Exit → Act → World → Prop} {a : Act} {w : World} {l : List Oper} (S : Nat → Value → Spec) (σ : Nat → Nat) (hSp : SpOk l.toArray S σ) (hm : P.follows .mixedOrders = true) (hB : Region.lexB .any l.toArray = true) (hS : ∀ i x, Spec.mono R (S i x))
    (h : Tree R P l.toArray S σ w (fun a' Γ => ∀ w', R.r w w' → (∀ j, Γ j w') → Q .normal a' w') l 0 a (fun _ _ => True)) : (Code.region id l.toArray true).wp P Q a w := by
  simp only [Region.lexB, Bool.and_eq_true] at hB
  refine wp_region_any hm (wpAny_of_anyF (S := S) (σ := σ) (w0 := w) (E := fun a' Γ => ∀ w', R.r w w' → (∀ j, Γ j w') → Q .normal a' w') (Γ := fun _ _ => True) hS (fun a' Γ w' hE hb hG => hE w' hb hG) _ _ _ _ ?_ (R.drew _) (fun _ => trivial) (fun _ _ _ _ _ => trivial))
  have := anyF_lex hSp hB.1 l 0 (Array.replicate l.toArray.size false) a (fun _ _ => True) (by simp) (by simpa using hB.2) h
  simpa using this

theorem tree_nil {S : Nat → Value → Spec} {σ : Nat → Nat} {w0 : World} {E : Act → (Nat → World → Prop) → Prop} {i : Nat} {a : Act} {Γ : Nat → World → Prop} (h : E a Γ) : Tree R P ops S σ w0 E [] i a Γ := h
/-- An operation whose value is known. -/
theorem tree_val {S : Nat → Value → Spec} {σ : Nat → Nat} {w0 : World} {E : Act → (Nat → World → Prop) → Prop} {o : Oper} {rest : List Oper} {i : Nat} {a : Act} {Γ : Nat → World → Prop} (u : Value) (hs : sp S σ i a = .inl u)
    (hr : ∀ w, R.r w0 w → (∀ j, dep o j = true → Γ j w) → Runs R P ops o (.inl u) a w) (h : Tree R P ops S σ w0 E rest (i + 1) (a.put o.dst u) (upd Γ i (fun _ => True))) : Tree R P ops S σ w0 E (o :: rest) i a Γ := by
  refine ⟨by rw [hs]; exact hr, fun v hv => ?_⟩
  rw [hs] at hv ⊢
  cases hv
  have : (fun w => Spec.holds (.inl u) u w) = fun _ => True := by funext w; simp [Spec.holds]
  rw [show Spec.holds (.inl u) u = fun _ => True from this]
  exact h
/-- An operation of whose value something is known. -/
theorem tree_var {S : Nat → Value → Spec} {σ : Nat → Nat} {w0 : World} {E : Act → (Nat → World → Prop) → Prop} {o : Oper} {rest : List Oper} {i : Nat} {a : Act} {Γ : Nat → World → Prop} (V : Value → World → Prop) (hs : sp S σ i a = .inr V)
    (hr : ∀ w, R.r w0 w → (∀ j, dep o j = true → Γ j w) → Runs R P ops o (.inr V) a w) (h : ∀ v, Tree R P ops S σ w0 E rest (i + 1) (a.put o.dst v) (upd Γ i (V v))) : Tree R P ops S σ w0 E (o :: rest) i a Γ := by
  refine ⟨by rw [hs]; exact hr, fun v _ => ?_⟩
  rw [hs]
  exact h v

@[go_sem] theorem rel_rf (R : Rel) (w : World) : R.r w w = True := eq_true (R.rf w)
/-- One operation's word hangs on a slot, the others' on none. -/
def specs (n : Nat) (f : Value → Spec) (l : List Spec) : Nat → Value → Spec := fun i x => if i = n then f x else l.getD i (.inl undef)
theorem specs_mono {n : Nat} {f : Value → Spec} {l : List Spec} (hf : ∀ x, Spec.mono R (f x)) (h : ∀ s ∈ l, Spec.mono R s) : ∀ i x, Spec.mono R (specs n f l i x) := fun i x => by
  unfold specs
  split
  · exact hf x
  · rcases Nat.lt_or_ge i l.length with h' | h'
    · rw [List.getD_eq_getElem?_getD, List.getElem?_eq_getElem h']; exact h _ (List.getElem_mem h')
    · rw [List.getD_eq_getElem?_getD, List.getElem?_eq_none h']; exact mono_inl _
theorem specs_ok {n s : Nat} {f : Value → Spec} {l : List Spec} (h : (match ops[n]? with | some o => (o.looksAt ops).contains s | none => true) = true) : SpOk ops (specs n f l) (fun _ => s) := fun i oi hi => by
  by_cases e : i = n
  · subst e
    rw [hi] at h
    exact .inl (by simpa using h)
  · exact .inr fun x y => by unfold specs; rw [if_neg e, if_neg e]
theorem runs_val {o : Oper} {a : Act} {w : World} {u : Value} (hw : Region.wanted o (yielded ops a.tmps) = true) (h : (execOp a.eval o).run P w = .ok (.value u) w) : Runs R P ops o (.inl u) a w := by
  unfold Runs yields
  rw [if_pos hw, h]
  exact ⟨R.rf _, rfl⟩
theorem runs_call {o : Oper} {a : Act} {w : World} {s : Spec} {f : FuncId} {args : Array Value} (hw : Region.wanted o (yielded ops a.tmps) = true) (h : (execOp a.eval o).run P w = .ok (.enter f args) w)
    (hc : Calls P f args w fun e w' => ∃ v, e = .returned v ∧ R.r w w' ∧ s.holds v w') : Runs R P ops o s a w := by
  unfold Runs yields
  rw [if_pos hw, h]
  exact hc
theorem runs_ok {o : Oper} {a : Act} {w w' : World} {s : Spec} {u : Value} (hw : Region.wanted o (yielded ops a.tmps) = true) (h : (execOp a.eval o).run P w = .ok (.value u) w') (hb : R.r w w') (hv : s.holds u w') : Runs R P ops o s a w := by
  unfold Runs yields
  rw [if_pos hw, h]
  exact ⟨hb, hv⟩
theorem runs_not {o : Oper} {a : Act} {w : World} (hw : Region.wanted o (yielded ops a.tmps) = false) : Runs R P ops o (.inl undef) a w := by
  unfold Runs
  rw [hw]; rfl

theorem tree_valK {S : Nat → Value → Spec} {σ : Nat → Nat} {w0 : World} {E : Act → (Nat → World → Prop) → Prop} {o : Oper} {rest : List Oper} {i : Nat} {a : Act} {Γ : Nat → World → Prop} {u : Value} (hs : sp S σ i a = .inl u)
    (h : ∀ K : Act → Prop, (∀ a', Tree R P ops S σ w0 E rest (i + 1) a' (upd Γ i (fun _ => True)) → K a') → (∀ w, R.r w0 w → (∀ j, dep o j = true → Γ j w) → Runs R P ops o (.inl u) a w) ∧ K (a.put o.dst u)) : Tree R P ops S σ w0 E (o :: rest) i a Γ :=
  tree_val u hs (h (fun _ => True) (fun _ _ => trivial)).1 (h _ (fun _ h => h)).2
theorem tree_varK {S : Nat → Value → Spec} {σ : Nat → Nat} {w0 : World} {E : Act → (Nat → World → Prop) → Prop} {o : Oper} {rest : List Oper} {i : Nat} {a : Act} {Γ : Nat → World → Prop} {V : Value → World → Prop} (hs : sp S σ i a = .inr V)
    (h : ∀ K : Act → (World → Prop) → Prop, (∀ a' v, Tree R P ops S σ w0 E rest (i + 1) a' (upd Γ i (V v)) → K a' (V v)) → (∀ w, R.r w0 w → (∀ j, dep o j = true → Γ j w) → Runs R P ops o (.inr V) a w) ∧ ∀ v, K (a.put o.dst v) (V v)) : Tree R P ops S σ w0 E (o :: rest) i a Γ := by
  refine tree_var V hs (h (fun _ _ => True) (fun _ _ _ => trivial)).1 fun v => ?_
  have := (h (fun a' p => Tree R P ops S σ w0 E rest (i + 1) a' (upd Γ i p)) (fun _ _ h => h)).2 v
  exact this
@[go_sem] theorem holds_inl (u v : Value) (w : World) : Spec.holds (.inl u) v w = (v = u) := rfl

theorem lmono_nil : ∀ s ∈ ([] : List Spec), Spec.mono R s := fun _ h => by cases h
theorem lmono_inl {u : Value} {l : List Spec} (h : ∀ s ∈ l, Spec.mono R s) : ∀ s ∈ (.inl u :: l : List Spec), Spec.mono R s := fun s hs => by
  rcases List.mem_cons.1 hs with rfl | hs
  · exact mono_inl u
  · exact h s hs
theorem lmono_inr {V : Value → World → Prop} {l : List Spec} (hV : Spec.mono R (.inr V)) (h : ∀ s ∈ l, Spec.mono R s) : ∀ s ∈ (.inr V :: l : List Spec), Spec.mono R s := fun s hs => by
  rcases List.mem_cons.1 hs with rfl | hs
  · exact hV
  · exact h s hs

end
end Go.FlowR
namespace Go.FlowR
open Go Go.RowKit
/-- Worlds in which new blocks of one type may turn once, from one content to another. -/
def once (B : Nat) (t : TypeId) (Z Y : Array Value) : Rel where
  r w w' := w'.os = w.os ∧ w'.tape = w.tape ∧ w'.output = w.output ∧ w.heap.size ≤ w'.heap.size ∧ (∀ k, k < B → w'.heap[k]? = w.heap[k]?) ∧
    ∀ k, k < w.heap.size → w'.heap[k]? = w.heap[k]? ∨ (w.heap[k]? = some (.cells Z t (0, 0)) ∧ w'.heap[k]? = some (.cells Y t (0, 0)))
  rf w := ⟨rfl, rfl, rfl, Nat.le_refl _, fun _ _ => rfl, fun _ _ => .inl rfl⟩
  tr := by
    rintro a b c ⟨h1, h2, h3, h4, h5, h6⟩ ⟨k1, k2, k3, k4, k5, k6⟩
    refine ⟨k1.trans h1, k2.trans h2, k3.trans h3, Nat.le_trans h4 k4, fun k hk => (k5 k hk).trans (h5 k hk), fun k hk => ?_⟩
    rcases h6 k hk with e1 | ⟨e1, e1'⟩ <;> rcases k6 k (Nat.lt_of_lt_of_le hk h4) with e2 | ⟨e2, e2'⟩
    · exact .inl (e2.trans e1)
    · exact .inr ⟨e1 ▸ e2, e2'⟩
    · exact .inr ⟨e1, e2.trans e1'⟩
    · exact .inr ⟨e1, e2'⟩
  drew w := ⟨rfl, rfl, rfl, Nat.le_refl _, fun _ _ => rfl, fun _ _ => .inl rfl⟩
section
variable {B : Nat} {t : TypeId} {Z Y : Array Value} {w w' : World}
theorem once_below (h : (once B t Z Y).r w w') : Below B w w' := ⟨h.1, h.2.1, h.2.2.1, h.2.2.2.1, h.2.2.2.2.1⟩
theorem once_of (h : Below w.heap.size w w') (hB : B ≤ w.heap.size) : (once B t Z Y).r w w' := ⟨h.os, h.tape, h.output, h.size, fun k hk => h.block k (by omega), fun k hk => .inl (h.block k hk)⟩
/-- A block of that type, before or behind its turn. -/
def One (B : Nat) (t : TypeId) (Z Y : Array Value) (v : Value) (w : World) : Prop := ∃ g, v = .pointer (some ⟨g, 0, none⟩) ∧ B ≤ g ∧ (w.heap[g]? = some (.cells Z t (0, 0)) ∨ w.heap[g]? = some (.cells Y t (0, 0)))
/-- Behind it. -/
def Done (B : Nat) (t : TypeId) (Y : Array Value) (x : Value) (_ : Value) (w : World) : Prop := ∃ g, x = .pointer (some ⟨g, 0, none⟩) ∧ B ≤ g ∧ w.heap[g]? = some (.cells Y t (0, 0))
theorem one_mono : Spec.mono (once B t Z Y) (.inr (One B t Z Y)) := by
  rintro v a b ⟨g, h1, h2, h3⟩ hr
  refine ⟨g, h1, h2, ?_⟩
  have hlt : g < a.heap.size := by rcases h3 with h | h <;> exact (Array.getElem?_eq_some_iff.1 h).1
  rcases hr.2.2.2.2.2 g hlt with e | ⟨_, e⟩
  · rcases h3 with h | h
    · exact .inl (e.trans h)
    · exact .inr (e.trans h)
  · exact .inr e
theorem done_mono (x : Value) : Spec.mono (once B t Z Y) (.inr (Done B t Y x)) := by
  rintro v a b ⟨g, h1, h2, h3⟩ hr
  refine ⟨g, h1, h2, ?_⟩
  rcases hr.2.2.2.2.2 g (Array.getElem?_eq_some_iff.1 h3).1 with e | ⟨_, e⟩
  · exact e.trans h3
  · exact e
end
end Go.FlowR
