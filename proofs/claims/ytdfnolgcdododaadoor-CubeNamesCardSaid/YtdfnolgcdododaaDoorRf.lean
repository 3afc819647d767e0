/- A range over a function at the wide fence: the statement, one round; the iterator is walked in place, with the loop's record in sight. -/
import Derived.RangeFuncRecord
import Derived.RangeFuncIn
import Derived.RangeFuncLeaves
import Derived.RangeFuncCalls
import Derived.Below
import Derived.Test.YtdfnolgcdododaaDoorB
namespace Go.Rf
open Go Go.RowKit
variable {P : Program} {n : Nat}

/-- One world is as the other but for what lies at block l. -/
structure SameBut (l : Nat) (W W' : World) : Prop where
  os : W'.os = W.os
  tape : W'.tape = W.tape
  output : W'.output = W.output
  size : W'.heap.size = W.heap.size
  block : ∀ k, k ≠ l → W'.heap[k]? = W.heap[k]?
theorem SameBut.put (W : World) (l : Nat) (o : Obj) : SameBut l W (W.putObj l o) := ⟨rfl, rfl, rfl, by simp, fun k hk => World.putObj_heap_other hk⟩
theorem SameBut.below {l B : Nat} {W W' : World} (h : SameBut l W W') (hl : B ≤ l) : Below B W W' := ⟨h.os, h.tape, h.output, Nat.le_of_eq h.size.symm, fun k hk => h.block k (by omega)⟩
theorem SameBut.cell {l : Nat} {W W' : World} (h : SameBut l W W') {a : Addr} (ha : a.block ≠ l) : W'.cell? a = W.cell? a := World.cell?_of_block (h.block _ ha)
theorem SameBut.frozen {l : Nat} {W W' : World} (h : SameBut l W W') {a : Addr} (ha : a.block ≠ l) : W'.frozen? a = W.frozen? a := World.frozen?_of_block (h.block _ ha)
theorem SameBut.owns {l : Nat} {W W' : World} (h : SameBut l W W') {base : Nat} {e : TypeId} {size : Nat} {v : Value} {m : Nat} {xs : List Value} {o : Obj} (ho : W.ownsRow base e size v m xs) (hl : W.heap[l]? = some o) (hc : o.isCells = false) : W'.ownsRow base e size v m xs := by
  obtain ⟨h1, h2⟩ := ho
  refine ⟨h1, ?_⟩
  rcases h2 with h2 | ⟨g, cap, cur, hv, hb, hg, r⟩
  · exact .inl h2
  · refine .inr ⟨g, cap, cur, hv, hb, ?_, r⟩
    rw [h.block g (fun e => by subst e; rw [hl] at hg; cases hg; cases hc)]; exact hg

/-- The statement: its record lies at the heap's size and one; the iterator is called with yield; behind it the pending jump is taken up. -/
theorem range_wide {g : Operand} {ps : Array Tmp} {assign body : Code} {Q : Exit → Act → World → Prop} {a : Act} {w : World} {gf : Nat} {lb : Array Value}
    (hg : a.eval g = .func (.func gf) #[] lb) (eg : ∀ args w, (callFunc gf args).run P w = .ok (.enter gf args) w)
    (h : ∀ (fn : Nat) (W1 : World), W1.heap[w.heap.size + 1]? = some (.loop { state := .ready, pending := none, fn, tmps := a.tmps, params := ps, assign, body, defers := w.heap.size }) → W1.heap[w.heap.size]? = some (.deferred (some [])) →
      Below w.heap.size w W1 → W1.heap.size = w.heap.size + 2 →
      CallsIn Fence.wide (n - 1) P gf (#[.func (.yield (w.heap.size + 1)) #[] #[]] ++ lb) W1 fun e W3 => (∃ v, e = .returned v) ∧ ∃ r : Loop, W3.heap[w.heap.size + 1]? = some (.loop r) ∧ r.state ≠ .busy ∧
        ∀ W4, SameBut (w.heap.size + 1) W3 W4 → match r.pending with
          | none => Q .normal { a with defers := { target := .collected w.heap.size, args := #[] } :: a.defers } W4
          | some c => c.wpIn Fence.wide n P Q { a with defers := { target := .collected w.heap.size, args := #[] } :: a.defers } W4) :
    (Code.rangeFunc g ps assign body).wpIn Fence.wide n P Q a w := by
  refine wpIn_rangeFunc ?_
  intro fn _
  obtain ⟨W1, hW1⟩ : ∃ W1, (w.alloc (.deferred (some []))).alloc (.loop { state := .ready, pending := none, fn, tmps := a.tmps, params := ps, assign, body, defers := w.heap.size }) = W1 := ⟨_, rfl⟩
  have hL1 : W1.heap[w.heap.size + 1]? = some (.loop { state := .ready, pending := none, fn, tmps := a.tmps, params := ps, assign, body, defers := w.heap.size }) := by
    rw [← hW1]; have := World.alloc_heap_new (w.alloc (.deferred (some []))) (.loop { state := .ready, pending := none, fn, tmps := a.tmps, params := ps, assign, body, defers := w.heap.size }); rwa [World.size_alloc] at this
  have hK1 : W1.heap[w.heap.size]? = some (.deferred (some [])) := by
    rw [← hW1]; exact (Below.heap_alloc _ _ _ (by simp)).trans (World.alloc_heap_new w _)
  have hB1 : Below w.heap.size w W1 := by rw [← hW1]; exact ((Below.refl _ w).alloc (Nat.le_refl _) _).alloc (by simp) _
  have hS1 : W1.heap.size = w.heap.size + 2 := by rw [← hW1]; simp
  have H := h fn _ hL1 hK1 hB1 hS1
  refine ⟨w.heap.size + 1, [{ target := .collected w.heap.size, args := #[] }], W1, { target := .fn (.func gf) lb, args := #[.func (.yield (w.heap.size + 1)) #[] #[]] }, W1, gf,
    #[.func (.yield (w.heap.size + 1)) #[] #[]] ++ lb, W1, ?_, ?_, ?_, ?_, (fun hd => by cases hd), ?_⟩
  · rw [← hW1]; exact run_enterLoop_outer _ _ _ _ _
  · simp only [resolve, hg]
    simp [go_sem]
  · intro f' _; trivial
  · simp [invoke, go_sem, eg]
  · refine H.mono ?_
    rintro e W3 ⟨⟨v, rfl⟩, r, hr, hb, hq⟩
    refine ⟨r.pending, _, run_endLoop hr hb, ?_⟩
    have := hq _ (SameBut.put W3 (w.heap.size + 1) (.loop { r with state := .exhausted }))
    cases hp : r.pending with
    | none => rw [hp] at this; exact this
    | some c => rw [hp] at this; exact this

/-- How a round's body may be left. -/
def roundQ (l : Nat) (r : Loop) (R : Ending → World → Prop) : Exit → Act → World → Prop
  | .normal, _, W3 => W3.heap[l]? = some (.loop { r with state := .busy }) ∧ ∀ W4, SameBut l W3 W4 → W4.heap[l]? = some (.loop { r with state := .ready, pending := none }) → R (.returned (.bool true)) W4
  | .ret, _, W3 => W3.heap[l]? = some (.loop { r with state := .busy }) ∧ ∀ W4, SameBut l W3 W4 → W4.heap[l]? = some (.loop { r with state := .done, pending := some .ret }) → R (.returned (.bool false)) W4
  | .exit id, _, W3 => W3.heap[l]? = some (.loop { r with state := .busy }) ∧ ∀ W4, SameBut l W3 W4 → W4.heap[l]? = some (.loop { r with state := .done, pending := some (.exit id) }) → R (.returned (.bool false)) W4
  | .goto t, _, W3 => W3.heap[l]? = some (.loop { r with state := .busy }) ∧ ∀ W4, SameBut l W3 W4 → W4.heap[l]? = some (.loop { r with state := .done, pending := some (.goto t) }) → R (.returned (.bool false)) W4
  | .panic _, _, _ => False
  | .outgrown, _, _ => False

/-- One round. -/
theorem round_wide {l : Nat} {f : FuncId} {tmps : Array Value} {assign body : Code} {W : World} {R : Ending → World → Prop} {r : Loop}
    (h : assign.wpIn (Fence.wide.inRound l) n P (Exit.then (fun a₁ W₁ => W₁.heap[l]? = some (.loop r) ∧ r.state = .ready ∧ ∀ W₂, SameBut l W₁ W₂ → W₂.heap[l]? = some (.loop { r with state := .busy }) → body.wpIn (Fence.wide.inRound l) n P (roundQ l r R) a₁ W₂) (fun _ _ _ => False))
      { tmps := tmps, defers := [] } W) : RoundIn Fence.wide n P l f tmps assign body W R := by
  refine roundIn_of_wpIn trivial (wpIn_mono h ?_)
  intro e a₁ W₁ hq
  cases e with
  | normal =>
    obtain ⟨hl, hr, hb⟩ := hq
    refine ⟨_, run_beginRound hl hr, ?_⟩
    have hlt : l < W₁.heap.size := (Array.getElem?_eq_some_iff.1 hl).1
    refine wpIn_mono (hb _ (SameBut.put _ _ _) (World.putObj_heap_same hlt)) ?_
    have fin : ∀ (jump : Option Code) (W3 : World), W3.heap[l]? = some (.loop { r with state := .busy }) → ∃ W4, (Instr.endRound l jump).run P W3 = .ok (.bool jump.isNone) W4 ∧ SameBut l W3 W4 ∧
        W4.heap[l]? = some (.loop { r with state := if jump.isNone then .ready else .done, pending := jump }) := fun jump W3 h3 =>
      ⟨_, run_endRound jump h3, SameBut.put _ _ _, World.putObj_heap_same (Array.getElem?_eq_some_iff.1 h3).1⟩
    intro e2 a3 W3 hp
    cases e2 with
    | normal => obtain ⟨h3, hp⟩ := hp; obtain ⟨W4, e4, s4, l4⟩ := fin none W3 h3; exact ⟨_, _, e4, hp W4 s4 l4⟩
    | ret => obtain ⟨h3, hp⟩ := hp; obtain ⟨W4, e4, s4, l4⟩ := fin (some .ret) W3 h3; exact ⟨_, _, e4, hp W4 s4 l4⟩
    | exit id => obtain ⟨h3, hp⟩ := hp; obtain ⟨W4, e4, s4, l4⟩ := fin (some (.exit id)) W3 h3; exact ⟨_, _, e4, hp W4 s4 l4⟩
    | goto t => obtain ⟨h3, hp⟩ := hp; obtain ⟨W4, e4, s4, l4⟩ := fin (some (.goto t)) W3 h3; exact ⟨_, _, e4, hp W4 s4 l4⟩
    | panic _ => exact hp.elim
    | outgrown => exact hp.elim
  | ret => exact hq.elim
  | exit id => exact hq.elim
  | goto t => exact hq.elim
  | panic _ => exact hq.elim
  | outgrown => exact hq.elim

theorem stepR_scope {b : Frame} {a : Act} {k : List Item} {cs : List Frame} {w : World} {c : Code} : step P (lone (b.atR a (.code (.scope c) :: k)) cs w) = .next (lone (b.atR a (.code c :: .inScope c :: k)) cs w) :=
  step_lone_go (by simp [stepG, stepG.exec, Frame.atR])
theorem stepR_inScope {b : Frame} {a : Act} {k : List Item} {cs : List Frame} {w : World} {c : Code} : step P (lone (b.atR a (.inScope c :: k)) cs w) = .next (lone (b.atR a k) cs w) :=
  step_lone_go (by simp [stepG, stepG.exec, Frame.atR])
/-- A scope through which the run goes without a goto. -/
theorem wpIn_scope_straight {F : Fence} {c : Code} {Q : Exit → Act → World → Prop} {a : Act} {w : World} (h : c.wpIn F n P (Exit.noGoto Q) a w) : (Code.scope c).wpIn F n P Q a w := by
  intro b k cs hro hb hr
  have h0 : (lone (b.atR a (.code (.scope c) :: k)) cs w).fenced P F := fenced_calm hb hr rfl
  obtain ⟨e, a₁, w₁, hq, harr⟩ := h b (.inScope c :: k) cs hro hb hr
  cases e with
  | normal => exact ⟨.normal, a₁, w₁, hq, .head h0 stepR_scope (StepsIn.trans harr (.one (fenced_calm hb hr rfl) stepR_inScope))⟩
  | exit id =>
    have hx : exitTo id (.inScope c :: k) = exitTo id k := by simp [exitTo]
    exact ⟨.exit id, a₁, w₁, hq, fun k' hk => .head h0 stepR_scope (harr.1 k' (by rw [hx]; exact hk)),
      fun hr' hk => let ⟨k₁, h1, h2⟩ := harr.2 hr' (by rw [hx]; exact hk); ⟨k₁, h1, .head h0 stepR_scope h2⟩⟩
  | goto l => exact hq.elim
  | ret => exact ⟨_, a₁, w₁, hq, .of_steps (.one h0 stepR_scope) harr⟩
  | panic ch => exact ⟨_, a₁, w₁, hq, .of_steps (.one h0 stepR_scope) harr⟩
  | outgrown => exact ⟨_, a₁, w₁, hq, .of_steps (.one h0 stepR_scope) harr⟩
end Go.Rf
