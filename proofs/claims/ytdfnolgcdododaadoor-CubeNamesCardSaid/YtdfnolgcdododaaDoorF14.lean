/- What kinds of filters have: the program's map, and what is found there. -/
import Derived.Test.YtdfnolgcdododaaDoorF13
namespace Go
open Go.RowKit
theorem wpList_insert_own {H : Type} {P : Program} (w : World) {ops : Array Oper} {rest : List Oper} {o : Oper} {a : Act} {Q : Exit → Act → World → Prop}
    (hg : o.guard = none) (m x v : Operand) (t : TypeId) (hop : o.op = Op.insert t m x v)
    (k e : TypeId) (K : Maps.Keyed P k) (ht : P.underlying t = some (.map k e)) (R : Value → Option (DataW H × List MemPlace)) (b n : Nat) (D : DataW H)
    (hm : a.eval m = .map (some b)) (hown : w.ownsMap P k R b n D) (hn : n < maxLen) (key val : Value) (kl : Lit) (hx : a.eval x = key) (hv : a.eval v = val) (hkey : keyOf P k key = some kl)
    (d : DataW H) (ps : List MemPlace) (hval : R val = some (d, ps))
    (hK : ∀ w', w'.ownsMap P k R b (n + 1) (D.put kl d) → w.grownBy w' (some b) → wpList P ops Q rest (a.put o.dst undef) w') :
    wpList P ops Q (o :: rest) a w := by
  refine wpList_plain hg fun K' hK' => ?_
  obtain ⟨w', hrun, r1, r2⟩ := hown.update K ht hn hkey hval
  unfold Oper.wp
  simp [execOp, hop, hm, hx, hv, hrun, Result.andThen]
  exact hK' _ _ (hK w' r1 r2)
/-- A value as it is. -/
def asIs (v : Value) : Option (DataW Value × List MemPlace) := some (.held v, [])
end Go
namespace Go.Proofs.YtdfnolgcdododaaDoor
open Go.RowKit Go.Sort Go.Maps
open Tess (Fil)

def formV (x : Bool × Bool × (Nat × Nat) × (Nat × Nat)) : Value := .agg #[.bool x.1, .bool x.2.1, .int .i64 (x.2.2.1.1 : Nat), .int .i64 (x.2.2.1.2 : Nat), .int .i64 (x.2.2.2.1 : Nat), .int .i64 (x.2.2.2.2 : Nat)]
def zeroForm : Bool × Bool × (Nat × Nat) × (Nat × Nat) := (false, false, (0, 0), (0, 0))
def formsD : DataW Value :=
  (((((((((DataW.map []).put (.int .i64 1) (.held (formV (false, false, (0, 0), (0, 0))))).put (.int .i64 2) (.held (formV (true, false, (1, 8), (0, 0))))).put (.int .i64 3) (.held (formV (true, false, (0, 0), (0, 0))))).put (.int .i64 4) (.held (formV (true, false, (1, 1), (0, 0))))).put (.int .i64 5) (.held (formV (true, false, (2, 2), (0, 0))))).put (.int .i64 6) (.held (formV (false, true, (0, 0), (0, 0))))).put (.int .i64 7) (.held (formV (false, false, (0, 0), (1, 1))))).put (.int .i64 8) (.held (formV (false, false, (0, 0), (2, 8))))).put (.int .i64 9) (.held (formV (false, false, (0, 0), (2, 8))))
theorem lawInt : Keyed Tryd.prog 3 := int_keyed Tryd.underlying3
theorem zeroFormV (w : World) : (zeroValue 134).run Tryd.prog w = .ok (formV zeroForm) w := by kernel_rfl
def FormsAt (w : World) (b : Nat) : Prop := w.ownsMap Tryd.prog 3 asIs b 9 formsD
theorem forms_at (k : Int) : formsD.atKey (.int .i64 k) (.held (formV zeroForm)) = .held (formV ((Fil.form k).getD zeroForm)) ∧ Maps.has formsD (.int .i64 k) = (Fil.form k).isSome := by
  by_cases h1 : k = 1
  · subst h1; exact ⟨rfl, rfl⟩
  by_cases h2 : k = 2
  · subst h2; exact ⟨rfl, rfl⟩
  by_cases h3 : k = 3
  · subst h3; exact ⟨rfl, rfl⟩
  by_cases h4 : k = 4
  · subst h4; exact ⟨rfl, rfl⟩
  by_cases h5 : k = 5
  · subst h5; exact ⟨rfl, rfl⟩
  by_cases h6 : k = 6
  · subst h6; exact ⟨rfl, rfl⟩
  by_cases h7 : k = 7
  · subst h7; exact ⟨rfl, rfl⟩
  by_cases h8 : k = 8
  · subst h8; exact ⟨rfl, rfl⟩
  by_cases h9 : k = 9
  · subst h9; exact ⟨rfl, rfl⟩
  have hf : Fil.form k = none := by unfold Fil.form; simp [h1, h2, h3, h4, h5, h6, h7, h8, h9]
  have ne : ∀ m : Int, k ≠ m → (Lit.int .i64 k) ≠ .int .i64 m := fun m h e => h (by cases e; rfl)
  rw [hf]
  unfold formsD
  constructor
  · rw [atKey_put_other (ne 9 h9), atKey_put_other (ne 8 h8), atKey_put_other (ne 7 h7), atKey_put_other (ne 6 h6), atKey_put_other (ne 5 h5), atKey_put_other (ne 4 h4), atKey_put_other (ne 3 h3), atKey_put_other (ne 2 h2), atKey_put_other (ne 1 h1)]
    rfl
  · rw [has_put_other (ne 9 h9), has_put_other (ne 8 h8), has_put_other (ne 7 h7), has_put_other (ne 6 h6), has_put_other (ne 5 h5), has_put_other (ne 4 h4), has_put_other (ne 3 h3), has_put_other (ne 2 h2), has_put_other (ne 1 h1)]
    rfl
theorem FormsAt.look {w : World} {b : Nat} (h : FormsAt w b) (k : Int) (hk : -9223372036854775808 ≤ k ∧ k ≤ 9223372036854775807) :
    (Instr.lookup 136 (.map (some b)) (.int .i64 k) true).run Tryd.prog w = .ok (.tuple #[formV ((Fil.form k).getD zeroForm), .bool (Fil.form k).isSome]) w := by
  obtain ⟨v, ps, hrun, hv⟩ := World.ownsMap.look_ok h lawInt Tryd.underlying136 (zeroFormV w) (zd := .held (formV zeroForm)) (zp := []) rfl (keyOf_int_mk Tryd.underlying3 (WalkArith.wf_i64 hk))
  rw [(forms_at k).1] at hv
  rw [(forms_at k).2] at hrun
  unfold asIs at hv
  have : v = formV ((Fil.form k).getD zeroForm) := by simpa using (Prod.ext_iff.1 (Option.some.inj hv)).1
  rw [hrun, this]

set_option maxRecDepth 100000 in
set_option maxHeartbeats 4000000 in
theorem forms_any (w : World) :
    Calls Tryd.prog 87 #[] w fun e w' => ∃ b, e = .returned (.map (some b)) ∧ FormsAt w' b ∧ Below w.heap.size w w' := by
  have hmm := @run_makeMap Tryd.prog
  have HO0 := Lib.hid (World.ownsMap_made (H := Value) (w.alloc (.cells #[.int .i64 2, .int .i64 8] 132)) Tryd.prog 3 asIs)
  have HB0 := Lib.hid (((Below.refl w.heap.size w).alloc (Nat.le_refl _) (.cells #[.int .i64 2, .int .i64 8] 132)).alloc (by simp) (.map #[] 0))
  have HC0 := Lib.hid (show ((w.alloc (.cells #[.int .i64 2, .int .i64 8] 132)).alloc (.map #[] 0)).heap[w.heap.size]? = some (.cells #[.int .i64 2, .int .i64 8] 132 (0, 0)) from (laid2 w _ _).1)
  rw [show (w.alloc (.cells #[.int .i64 2, .int .i64 8] 132)).heap.size = w.heap.size + 1 by simp] at HO0
  go_enter Tryd.func87, Tryd.ntmps87
  have HO := HO0
  have HB := HB0
  have HC := HC0
  clear HO0 HB0 HC0
  go_wp2_with (refine wpList_insert_own _ rfl _ _ _ 136 rfl 3 134 lawInt Tryd.underlying136 asIs (w.heap.size + 1) _ _ rfl HO.out (by decide) _ _ _ rfl rfl (keyOf_int_mk Tryd.underlying3 (by decide)) _ _ rfl ?_; intro w1 hown1 hg1; have hc1 := (hg1.block w.heap.size (by have := HB.out; have := (Array.getElem?_eq_some_iff.1 HC.out).1; exact this) (by simp)).trans HC.out; have HB' := Lib.hid (HB.out.grown hg1 HB.out.size (fun j e => by cases e; omega)); have HO' := Lib.hid hown1; have HC' := Lib.hid hc1; have q0 := cell_of_row w1 w.heap.size 0 _ _ _ hc1; have q1 := cell_of_row w1 w.heap.size 1 _ _ _ hc1; simp only [List.getElem?_toArray, List.getElem?_cons_succ, List.getElem?_cons_zero] at q0 q1; clear hown1 hg1 hc1 HO HB HC; have HO := HO'; have HB := HB'; have HC := HC'; clear HO' HB' HC')
  go_ret
  exact ⟨_, rfl, HO.out, HB.out⟩
end Go.Proofs.YtdfnolgcdododaaDoor
