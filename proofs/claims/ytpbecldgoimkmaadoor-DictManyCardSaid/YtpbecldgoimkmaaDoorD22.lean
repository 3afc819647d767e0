/- errors.Is at the two errors of package varint; told; Get. -/
import Derived.Test.YtpbecldgoimkmaaDoorD21
import Derived.LaidEql
import Derived.Stop.Asserts
namespace Go.Proofs.YtpbecldgoimkmaaDoor
open Go.RowKit Go.Sort Go.Extern.Stop Go.Stop Go.Extern

theorem isTypeOf (v : Value) (w : World) : (Extern.ReflectliteType.typeOf #[.iface 153 v]).run Tryd.prog w = .ok (.iface 129 (.agg #[.pointer (some ⟨3, 153, none⟩)])) w := by kernel_rfl
def cmpEntry : Array Value → Sem Value := Extern.ReflectliteType.method fun t => do Rtype.noPackHeld "Comparable" t; pure (.bool (← typeInfo t).comparable)
theorem isComparable (w : World) : (cmpEntry #[.agg #[.pointer (some ⟨3, 153, none⟩)]]).run Tryd.prog w = .ok (.bool true) w := by kernel_rfl
theorem isMethodComparable (v : Value) (w : World) : (Go.method 284 129 v "Comparable").run Tryd.prog w = .ok (123, v) w := by kernel_rfl
theorem isComp : (Tryd.prog.info? 153).map (·.comparable) = some true := by kernel_rfl
theorem isSize : (Tryd.prog.info? 172).map (·.size) = some 1 := by kernel_rfl
theorem noIsE (v : Value) (xT : TypeId) (w : World) : (Instr.typeAssert (.iface 153 v) xT 150 true).run Tryd.prog w = .ok (.tuple #[.nilIface, .bool false]) w := run_typeAssert_lacksB Tryd.underlying150 (by kernel_rfl) (by kernel_rfl) v xT w
theorem noUnwrapE (v : Value) (xT : TypeId) (w : World) : (Instr.typeAssert (.iface 153 v) xT 137 true).run Tryd.prog w = .ok (.tuple #[.nilIface, .bool false]) w := run_typeAssert_lacksB Tryd.underlying137 (by kernel_rfl) (by kernel_rfl) v xT w
theorem noUnwrapsE (v : Value) (xT : TypeId) (w : World) : (Instr.typeAssert (.iface 153 v) xT 138 true).run Tryd.prog w = .ok (.tuple #[.nilIface, .bool false]) w := run_typeAssert_lacksB Tryd.underlying138 (by kernel_rfl) (by kernel_rfl) v xT w

theorem is_same (a : Addr) (w : World) :
    Calls Tryd.prog 88 #[.iface 153 (.pointer (some a)), .iface 153 (.pointer (some a))] w fun e w' => e = .returned (.bool true) ∧ w' = w := by
  obtain ⟨i, hi, hcmp⟩ := Option.map_eq_some_iff.1 isComp
  obtain ⟨j, hj, hjs⟩ := Option.map_eq_some_iff.1 isSize
  have h8 := @run_callFunc_extern Tryd.prog 89 _ Extern.ReflectliteType.typeOf Tryd.func89 (by kernel_rfl) (by kernel_rfl) (by kernel_rfl) (by kernel_rfl)
  have h32 := @run_callFunc_extern Tryd.prog 123 _ cmpEntry Tryd.func123 (by kernel_rfl) (by kernel_rfl) (by kernel_rfl) (by kernel_rfl)
  have tT := isTypeOf
  have cT := isComparable
  have mR := isMethodComparable
  have heq := run_eql_iface_ptr_same (P := Tryd.prog) w a Tryd.underlying50 Tryd.underlying153 hi hcmp hj
  go_enter Tryd.func88, Tryd.ntmps88
  go_wp2
  refine wp_loop_rounds 1 ?_
  rw [rounds_succ]
  go_wp2
  go_ret
  exact ⟨rfl, rfl⟩

theorem is_nil (b : Addr) (w : World) :
    Calls Tryd.prog 88 #[.nilIface, .iface 153 (.pointer (some b))] w fun e w' => e = .returned (.bool false) ∧ w' = w := by
  have hn := run_eql_iface_nil_left (P := Tryd.prog) w 153 (.pointer (some b)) Tryd.underlying50
  go_enter Tryd.func88, Tryd.ntmps88
  go_wp2
  go_ret
  exact ⟨rfl, rfl⟩

theorem is_other (a b : Addr) (ca cb : Array Value) (ta tb : TypeId) (w : World) (hne : a ≠ b) (ha : w.heap[a.block]? = some (.cells ca ta (0, 0))) (hb : w.heap[b.block]? = some (.cells cb tb (0, 0))) :
    Calls Tryd.prog 88 #[.iface 153 (.pointer (some a)), .iface 153 (.pointer (some b))] w fun e w' => e = .returned (.bool false) ∧ w' = w := by
  obtain ⟨i, hi, hcmp⟩ := Option.map_eq_some_iff.1 isComp
  obtain ⟨j, hj, hjs⟩ := Option.map_eq_some_iff.1 isSize
  have h8 := @run_callFunc_extern Tryd.prog 89 _ Extern.ReflectliteType.typeOf Tryd.func89 (by kernel_rfl) (by kernel_rfl) (by kernel_rfl) (by kernel_rfl)
  have h32 := @run_callFunc_extern Tryd.prog 123 _ cmpEntry Tryd.func123 (by kernel_rfl) (by kernel_rfl) (by kernel_rfl) (by kernel_rfl)
  have tT := isTypeOf
  have cT := isComparable
  have mR := isMethodComparable
  have nE := noIsE
  have uE := noUnwrapE
  have vE := noUnwrapsE
  have heq := run_eql_iface_ptr_other (P := Tryd.prog) w Tryd.underlying50 Tryd.underlying153 hi hcmp hj (by rw [hjs]; decide) hne ha hb
  go_enter Tryd.func88, Tryd.ntmps88
  go_wp2
  refine wp_loop_rounds 1 ?_
  rw [rounds_succ]
  go_wp2
  go_ret
  exact ⟨rfl, rfl⟩

set_option maxRecDepth 100000 in
theorem vtold_any (a0 a1 : Addr) (code : Nat) (w : World) (hv : Vars a0 a1 w) (hc : code = 0 ∨ code = 20 ∨ code = 21) :
    Calls Tryd.prog 71 #[errV a0 a1 code] w fun e w' => e = .returned (.int .i64 (code : Nat)) ∧ w' = w := by
  have g1 := hv.g1
  have g2 := hv.g2
  obtain ⟨c0, t0, hb0⟩ := hv.b0
  obtain ⟨c1, t1, hb1⟩ := hv.b1
  have i1 := is_nil a0 w
  have i2 := is_nil a1 w
  have i3 := is_same a0 w
  have i4 := is_same a1 w
  have i5 := is_other a1 a0 c1 c0 t1 t0 w hv.ne.symm hb1 hb0
  have I1 := Lib.hid i1
  have I2 := Lib.hid i2
  have I3 := Lib.hid i3
  have I4 := Lib.hid i4
  have I5 := Lib.hid i5
  clear i1 i2 i3 i4 i5 hv hb0 hb1
  unfold errV
  rcases hc with rfl | rfl | rfl
  · simp only [if_true]
    go_enter Tryd.func71, Tryd.ntmps71
    go_wp2_with (first
      | (go_at_call 88; with_reducible refine I1.out.mono ?_; rintro e w' ⟨rfl, rfl⟩)
      | (go_at_call 88; with_reducible refine I2.out.mono ?_; rintro e w' ⟨rfl, rfl⟩))
    go_ret
    exact ⟨rfl, rfl⟩
  · simp only [if_false, show (20 : Nat) ≠ 0 by decide, show (20 : Nat) ≠ 21 by decide]
    go_enter Tryd.func71, Tryd.ntmps71
    go_wp2_with (first
      | (go_at_call 88; with_reducible refine I5.out.mono ?_; rintro e w' ⟨rfl, rfl⟩)
      | (go_at_call 88; with_reducible refine I4.out.mono ?_; rintro e w' ⟨rfl, rfl⟩))
    go_ret
    exact ⟨rfl, rfl⟩
  · simp only [if_true, if_false, show (21 : Nat) ≠ 0 by decide]
    go_enter Tryd.func71, Tryd.ntmps71
    go_wp2_with (go_at_call 88; with_reducible refine I3.out.mono ?_; rintro e w' ⟨rfl, rfl⟩)
    go_ret
    exact ⟨rfl, rfl⟩
end Go.Proofs.YtpbecldgoimkmaaDoor
