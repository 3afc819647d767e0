/- errors.Is at the two errors of package filter; what is told. -/
import Derived.Test.YtdfnolgcdododaaDoorF19
import Derived.LaidEql
import Derived.Stop.Asserts
namespace Go.Proofs.YtdfnolgcdododaaDoor
open Go.RowKit Go.Sort Go.Extern.Stop Go.Stop Go.Extern

/-- The error of a number. -/
def errV (a0 a1 : Addr) (code : Nat) : Value := if code = 0 then .nilIface else .iface 181 (.pointer (some (if code = 140 then a0 else a1)))
/-- What the row's listed variables give a walk. -/
structure Vars (a0 a1 : Addr) (w : World) : Prop where
  ne : a0 ≠ a1
  g1 : w.cell? ⟨0, 0, none⟩ = some (.iface 181 (.pointer (some a0)))
  g2 : w.cell? ⟨1, 0, none⟩ = some (.iface 181 (.pointer (some a1)))
  b0 : ∃ c0 t0, w.heap[a0.block]? = some (.cells c0 t0 (0, 0))
  b1 : ∃ c1 t1, w.heap[a1.block]? = some (.cells c1 t1 (0, 0))
theorem Vars.below {a0 a1 : Addr} {w w' : World} (h : Vars a0 a1 w) (hb : Below w.heap.size w w') : Vars a0 a1 w' := by
  obtain ⟨c0, t0, h0⟩ := h.b0
  obtain ⟨c1, t1, h1⟩ := h.b1
  exact ⟨h.ne, (hb.cell (p := ⟨0, 0, none⟩) (World.block_lt_of_cell? _ _ h.g1)).trans h.g1, (hb.cell (p := ⟨1, 0, none⟩) (World.block_lt_of_cell? _ _ h.g2)).trans h.g2,
    ⟨c0, t0, (hb.block _ (Array.getElem?_eq_some_iff.1 h0).1).trans h0⟩, ⟨c1, t1, (hb.block _ (Array.getElem?_eq_some_iff.1 h1).1).trans h1⟩⟩

theorem isTypeOf (v : Value) (w : World) : (Extern.ReflectliteType.typeOf #[.iface 181 v]).run Tryd.prog w = .ok (.iface 165 (.agg #[.pointer (some ⟨2, 181, none⟩)])) w := by kernel_rfl
def cmpEntry : Array Value → Sem Value := Extern.ReflectliteType.method fun t => do Rtype.noPackHeld "Comparable" t; pure (.bool (← typeInfo t).comparable)
theorem isComparable (w : World) : (cmpEntry #[.agg #[.pointer (some ⟨2, 181, none⟩)]]).run Tryd.prog w = .ok (.bool true) w := by kernel_rfl
theorem isMethodComparable (v : Value) (w : World) : (Go.method 318 165 v "Comparable").run Tryd.prog w = .ok (156, v) w := by kernel_rfl
theorem isComp : (Tryd.prog.info? 181).map (·.comparable) = some true := by kernel_rfl
theorem isSize : (Tryd.prog.info? 206).map (·.size) = some 1 := by kernel_rfl
theorem noIsE (v : Value) (xT : TypeId) (w : World) : (Instr.typeAssert (.iface 181 v) xT 167 true).run Tryd.prog w = .ok (.tuple #[.nilIface, .bool false]) w := run_typeAssert_lacksB Tryd.underlying167 (by kernel_rfl) (by kernel_rfl) v xT w
theorem noUnwrapE (v : Value) (xT : TypeId) (w : World) : (Instr.typeAssert (.iface 181 v) xT 170 true).run Tryd.prog w = .ok (.tuple #[.nilIface, .bool false]) w := run_typeAssert_lacksB Tryd.underlying170 (by kernel_rfl) (by kernel_rfl) v xT w
theorem noUnwrapsE (v : Value) (xT : TypeId) (w : World) : (Instr.typeAssert (.iface 181 v) xT 172 true).run Tryd.prog w = .ok (.tuple #[.nilIface, .bool false]) w := run_typeAssert_lacksB Tryd.underlying172 (by kernel_rfl) (by kernel_rfl) v xT w

theorem is_same (a : Addr) (w : World) :
    Calls Tryd.prog 53 #[.iface 181 (.pointer (some a)), .iface 181 (.pointer (some a))] w fun e w' => e = .returned (.bool true) ∧ w' = w := by
  obtain ⟨i, hi, hcmp⟩ := Option.map_eq_some_iff.1 isComp
  obtain ⟨j, hj, hjs⟩ := Option.map_eq_some_iff.1 isSize
  have h8 := @run_callFunc_extern Tryd.prog 83 _ Extern.ReflectliteType.typeOf Tryd.func83 (by kernel_rfl) (by kernel_rfl) (by kernel_rfl) (by kernel_rfl)
  have h32 := @run_callFunc_extern Tryd.prog 156 _ cmpEntry Tryd.func156 (by kernel_rfl) (by kernel_rfl) (by kernel_rfl) (by kernel_rfl)
  have tT := isTypeOf
  have cT := isComparable
  have mR := isMethodComparable
  have heq := run_eql_iface_ptr_same (P := Tryd.prog) w a Tryd.underlying76 Tryd.underlying181 hi hcmp hj
  go_enter Tryd.func53, Tryd.ntmps53
  go_wp2
  refine wp_loop_rounds 1 ?_
  rw [rounds_succ]
  go_wp2
  go_ret
  exact ⟨rfl, rfl⟩

theorem is_nil (b : Addr) (w : World) :
    Calls Tryd.prog 53 #[.nilIface, .iface 181 (.pointer (some b))] w fun e w' => e = .returned (.bool false) ∧ w' = w := by
  have hn := run_eql_iface_nil_left (P := Tryd.prog) w 181 (.pointer (some b)) Tryd.underlying76
  go_enter Tryd.func53, Tryd.ntmps53
  go_wp2
  go_ret
  exact ⟨rfl, rfl⟩

theorem is_other (a b : Addr) (ca cb : Array Value) (ta tb : TypeId) (w : World) (hne : a ≠ b) (ha : w.heap[a.block]? = some (.cells ca ta (0, 0))) (hb : w.heap[b.block]? = some (.cells cb tb (0, 0))) :
    Calls Tryd.prog 53 #[.iface 181 (.pointer (some a)), .iface 181 (.pointer (some b))] w fun e w' => e = .returned (.bool false) ∧ w' = w := by
  obtain ⟨i, hi, hcmp⟩ := Option.map_eq_some_iff.1 isComp
  obtain ⟨j, hj, hjs⟩ := Option.map_eq_some_iff.1 isSize
  have h8 := @run_callFunc_extern Tryd.prog 83 _ Extern.ReflectliteType.typeOf Tryd.func83 (by kernel_rfl) (by kernel_rfl) (by kernel_rfl) (by kernel_rfl)
  have h32 := @run_callFunc_extern Tryd.prog 156 _ cmpEntry Tryd.func156 (by kernel_rfl) (by kernel_rfl) (by kernel_rfl) (by kernel_rfl)
  have tT := isTypeOf
  have cT := isComparable
  have mR := isMethodComparable
  have nE := noIsE
  have uE := noUnwrapE
  have vE := noUnwrapsE
  have heq := run_eql_iface_ptr_other (P := Tryd.prog) w Tryd.underlying76 Tryd.underlying181 hi hcmp hj (by rw [hjs]; decide) hne ha hb
  go_enter Tryd.func53, Tryd.ntmps53
  go_wp2
  refine wp_loop_rounds 1 ?_
  rw [rounds_succ]
  go_wp2
  go_ret
  exact ⟨rfl, rfl⟩

set_option maxRecDepth 100000 in
theorem told_any (a0 a1 : Addr) (code : Nat) (w : World) (hv : Vars a0 a1 w) (hc : code = 0 ∨ code = 140 ∨ code = 110) :
    Calls Tryd.prog 30 #[errV a0 a1 code] w fun e w' => e = .returned (.int .i64 (code : Nat)) ∧ w' = w := by
  have g1 := hv.g1
  have g2 := hv.g2
  obtain ⟨c0, t0, hb0⟩ := hv.b0
  obtain ⟨c1, t1, hb1⟩ := hv.b1
  have i1 := is_nil a0 w
  have i2 := is_nil a1 w
  have i3 := is_same a0 w
  have i4 := is_same a1 w
  have i5 := is_other a1 a0 c1 c0 t1 t0 w hv.ne.symm hb1 hb0
  have I1 := Lib.hid i1
  have I2 := Lib.hid i2
  have I3 := Lib.hid i3
  have I4 := Lib.hid i4
  have I5 := Lib.hid i5
  clear i1 i2 i3 i4 i5 hv hb0 hb1
  unfold errV
  rcases hc with rfl | rfl | rfl
  · simp only [if_true]
    go_enter Tryd.func30, Tryd.ntmps30
    go_wp2_with (first
      | (go_at_call 53; with_reducible refine I1.out.mono ?_; rintro e w' ⟨rfl, rfl⟩)
      | (go_at_call 53; with_reducible refine I2.out.mono ?_; rintro e w' ⟨rfl, rfl⟩))
    go_ret
    exact ⟨rfl, rfl⟩
  · simp only [if_true, if_false, show (140 : Nat) ≠ 0 by decide]
    go_enter Tryd.func30, Tryd.ntmps30
    go_wp2_with (go_at_call 53; with_reducible refine I3.out.mono ?_; rintro e w' ⟨rfl, rfl⟩)
    go_ret
    exact ⟨rfl, rfl⟩
  · simp only [if_false, show (110 : Nat) ≠ 0 by decide, show (110 : Nat) ≠ 140 by decide]
    go_enter Tryd.func30, Tryd.ntmps30
    go_wp2_with (first
      | (go_at_call 53; with_reducible refine I5.out.mono ?_; rintro e w' ⟨rfl, rfl⟩)
      | (go_at_call 53; with_reducible refine I4.out.mono ?_; rintro e w' ⟨rfl, rfl⟩))
    go_ret
    exact ⟨rfl, rfl⟩
end Go.Proofs.YtdfnolgcdododaaDoor
