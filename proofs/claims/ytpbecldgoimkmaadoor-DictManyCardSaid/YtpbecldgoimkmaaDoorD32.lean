/- The document's Build: plain; appends of parts. -/
import Derived.Test.YtpbecldgoimkmaaDoorD31
namespace Tess
def insW (o : List ByteArray) (x : ByteArray) : List ByteArray := if place o x < o.length ∧ o.getD (place o x) w0 = x then o else o.take (place o x) ++ [x] ++ o.drop (place o x)
def builtTo (l : List ByteArray) (k : Nat) : List ByteArray := (l.take k).foldl insW []
def buildW (l : List ByteArray) : List ByteArray × Nat := if l.any isLong then ([], 50) else if 1000 < (builtTo l l.length).length then ([], 50) else (builtTo l l.length, 0)
theorem builtTo_succ (l : List ByteArray) (k : Nat) (h : k < l.length) : builtTo l (k + 1) = insW (builtTo l k) l[k] := by
  unfold builtTo
  rw [List.take_succ_eq_append_getElem h, List.foldl_append]
  rfl
theorem insW_len (o : List ByteArray) (x : ByteArray) : (insW o x).length ≤ o.length + 1 := by
  have := place_le o x
  unfold insW
  split
  · omega
  · simp only [List.length_append, List.length_take, List.length_drop, List.length_singleton]; omega
theorem insW_ne (o : List ByteArray) (x : ByteArray) : insW o x ≠ [] := by
  unfold insW
  split
  · rename_i h
    intro e
    rw [e] at h
    exact absurd h.1 (Nat.not_lt_zero _)
  · simp
theorem insW_mem (o : List ByteArray) (x y : ByteArray) (h : y ∈ insW o x) : y ∈ o ∨ y = x := by
  unfold insW at h
  split at h
  · exact .inl h
  · simp only [List.mem_append, List.mem_singleton] at h
    rcases h with (h | h) | h
    · exact .inl (List.mem_of_mem_take h)
    · exact .inr h
    · exact .inl (List.mem_of_mem_drop h)
theorem buildW_long (l : List ByteArray) (k : Nat) (h : k < l.length) (hx : 100 < l[k].size) : buildW l = ([], 50) := by
  unfold buildW
  rw [if_pos]
  rw [List.any_eq_true]
  exact ⟨l[k], List.getElem_mem h, decide_eq_true hx⟩
theorem buildW_ok (l : List ByteArray) (h : ∀ j (hj : j < l.length), l[j].size ≤ 100) : buildW l = if 1000 < (builtTo l l.length).length then ([], 50) else (builtTo l l.length, 0) := by
  unfold buildW
  rw [if_neg]
  rw [List.any_eq_true]
  rintro ⟨x, hx, hl⟩
  obtain ⟨j, hj, rfl⟩ := List.getElem_of_mem hx
  have := h j hj
  have := of_decide_eq_true hl
  omega
end Tess
namespace Go
open Go.RowKit
theorem owns_lower {w : World} {base base' : Nat} {e : TypeId} {size : Nat} {v : Value} {n : Nat} {xs : List Value} (h : w.ownsRow base e size v n xs) (hb : base' ≤ base) : w.ownsRow base' e size v n xs := by
  refine ⟨h.1, ?_⟩
  rcases h.2 with h | ⟨g, cap, cur, hv, hg, r⟩
  · exact .inl h
  · exact .inr ⟨g, cap, cur, hv, by omega, r⟩
theorem wpList_append_none {P : Program} (w : World) {ops : Array Oper} {rest : List Oper} {o : Oper} {a : Act} {Q : Exit → Act → World → Prop} (hgd : o.guard = none) (s x : Operand) (t : TypeId)
    (hop : o.op = Op.call { callee := Callee.builtin Builtin.append, args := #[s, x], argTypes := #[t, t] })
    (base : Nat) (e : TypeId) (i : TypeInfo) (size : Nat) (h1 : P.underlying t = some (.slice e)) (h2 : P.info? e = some i)
    (v : Value) (k : Nat) (xs : List Value) (hs : a.eval s = v) (hown : w.ownsRow base e size v k xs) (hx : a.eval x = .slice none 0 0)
    (hK : wpList P ops Q rest (a.put o.dst v) w) : wpList P ops Q (o :: rest) a w := by
  refine wpList_plain hgd fun K hK' => ?_
  have hrun := run_append_owned_none (P := P) w base t o.type e i size h1 h2 v k xs hown
  unfold Oper.wp
  simp [execOp, hop, resolve, invoke, builtin, hs, hx, hrun, Result.andThen]
  exact hK' _ _ hK
namespace Flow
variable {P : Program} {ops : Array Oper}
theorem flow_append {o : Oper} {a : Act} {w : World} {V : Value → World → Prop} (s x : Operand) (t : TypeId) (hop : o.op = Op.call { callee := Callee.builtin Builtin.append, args := #[s, x], argTypes := #[t, t] })
    (u : Value) (hs : a.eval s = u) (sv : Value) (hx : a.eval x = sv) (h : ∃ v' w', (Builtin.append_ #[t, t] o.type #[u, sv]).run P w = .ok v' w' ∧ Below w.heap.size w w' ∧ V v' w')
    (hw : Region.wanted o (yielded ops a.tmps) = true) : Runs P ops o (.inr V) a w := by
  obtain ⟨v', w', hrun, hb, hV⟩ := h
  refine runs_ok (w' := w') (u := v') hw ?_ hb hV
  simp [execOp, hop, resolve, invoke, builtin, hs, hx, hrun, Result.andThen]
end Flow
end Go
