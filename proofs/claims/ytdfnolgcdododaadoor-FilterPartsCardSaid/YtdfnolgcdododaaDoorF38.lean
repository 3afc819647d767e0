/- A time cut to a grain; a number, wide; lists that are no other's. The program's, walked. -/
import Derived.Test.YtdfnolgcdododaaDoorF37
import Derived.Lib.SliceRun
namespace Go.Proofs.YtdfnolgcdododaaDoor
open Go.RowKit Go.Sort
open Tess (Fil)
open Tess.Fil (spanOk grainOk spanFits spanHas)

set_option maxRecDepth 100000 in
theorem isTime_any (t : Int) (w : World) : Calls Tryd.prog 44 #[.int .i64 t] w fun e w' => e = .returned (.bool (decide (0 ≤ t) && decide (t < 1000000000001))) ∧ w = w' := by
  by_cases h1 : 0 ≤ t
  · have d1 : decide (0 ≤ t) = true := decide_eq_true h1
    rw [d1, Bool.true_and]
    generalize hr : decide (t < 1000000000001) = r
    go_enter Tryd.func44, Tryd.ntmps44
    go_wp2
    go_ret
    exact ⟨rfl, rfl⟩
  · have d1 : decide (0 ≤ t) = false := decide_eq_false h1
    rw [d1, Bool.false_and]
    go_enter Tryd.func44, Tryd.ntmps44
    go_wp2
    go_ret
    exact ⟨rfl, rfl⟩
set_option maxRecDepth 100000 in
theorem gCut_any (t g : Int) (w : World) (ht : 0 ≤ t ∧ t ≤ 1000000000000) (hg : 1 ≤ g ∧ g ≤ 1000000000) : Calls Tryd.prog 22 #[.int .i64 t, .int .i64 g] w fun e w' => e = .returned (.tuple #[.int .i64 (t - t % g), .int .i64 0]) ∧ Below w.heap.size w w' := by
  have HT := Lib.hid (isTime_any t w)
  rw [decide_eq_true ht.1, decide_eq_true (show t < 1000000000001 by omega)] at HT
  have HG := Lib.hid (areGrains1 w.heap.size g (w.alloc (.cells #[.int .i64 g] 2)) (cell_of_box (laid1 w _).1).1)
  rw [show grainOk g = true by unfold grainOk; rw [decide_eq_true hg.1, decide_eq_true hg.2]; rfl] at HG
  have HB := Lib.hid (laid1 w (.cells #[.int .i64 g] 2)).2.2
  obtain ⟨ht1, ht2⟩ := ht
  obtain ⟨hg1, hg2⟩ := hg
  have hm0 : 0 ≤ t % g := Int.emod_nonneg _ (by omega)
  have hm1 : t % g ≤ t := by
    have := Int.mul_nonneg (show 0 ≤ g by omega) (Int.ediv_nonneg ht1 (show 0 ≤ g by omega))
    rw [Int.emod_def]; omega
  have hne : (g == 0) = false := beq_eq_false_iff_ne.2 (by omega)
  go_enter Tryd.func22, Tryd.ntmps22
  go_wp2_with (first | (go_at_call 44; refine HT.out.mono ?_; rintro e w2 ⟨rfl, rfl⟩) | (go_at_call 45; refine HG.out.mono ?_; rintro e w2 ⟨rfl, rfl⟩))
  refine bodyPost_ret (v := .tuple #[.int .i64 (t - t % g), .int .i64 0]) (by simp [results, Tryd.results22, go_sem]) rfl ⟨rfl, HB.out⟩

set_option maxRecDepth 100000 in
theorem wOf_any (n : Int) (w : World) : Calls Tryd.prog 42 #[.int .i64 n] w fun e w' => ∃ a b, e = .returned (.agg #[a, b]) ∧ a.oneCell' = true ∧ b.oneCell' = true ∧ Below w.heap.size w w' := by
  go_enter Tryd.func42, Tryd.ntmps42
  go_wp2
  have e0 := cell_of_row _ w.heap.size 0 _ _ _ (laid1 w (.cells #[.int .i64 (n / 9223372036854775808), .int .u64 (IntKind.u64.wrap n)] 87)).1
  have e1 := cell_of_row _ w.heap.size 1 _ _ _ (laid1 w (.cells #[.int .i64 (n / 9223372036854775808), .int .u64 (IntKind.u64.wrap n)] 87)).1
  refine bodyPost_ret (v := .agg #[.int .i64 (n / 9223372036854775808), .int .u64 (IntKind.u64.wrap n)]) (by simp [results, Tryd.results42, go_sem]) rfl ⟨_, _, rfl, rfl, rfl, (laid1 w _).2.2⟩
theorem infoI64 : (Tryd.prog.info? 2).map (fun i => (i.zero, i.size, i.bytes)) = some (some (.int .i64 0), 1, 8) := by kernel_rfl
theorem infoWide : (Tryd.prog.info? 87).map (fun i => (i.zero, i.size, i.bytes)) = some (some (.agg #[.int .i64 0, .int .u64 0]), 2, 16) := by kernel_rfl

set_option maxRecDepth 100000 in
/-- A list that is no other's: its cells are those of the one. -/
theorem cloneInts_any (a : Option Addr) (n cap : Nat) (xs : List Value) (w : World) (hn : n ≤ 1000000) (hx : xs.length = n * 1) (hnil : a = none → n = 0 ∧ cap = 0) (hc : ∀ ad, a = some ad → ∀ j u, xs[j]? = some u → w.cell? (ad.add j) = some u) (h1 : ∀ u ∈ xs, u.oneCell' = true) :
    Calls Tryd.prog 74 #[.slice a n cap] w fun e w' => ∃ v', e = .returned v' ∧ w'.ownsRow w.heap.size 2 1 v' n xs ∧ (v' = .slice none 0 0 ∨ ∃ g c, v' = .slice (some ⟨g, 0, none⟩) n c) ∧ Below w.heap.size w w' := by
  obtain ⟨i0, hi, hz0, hz1, hz2⟩ := info_parts infoI64
  have q : ∀ (w : World) (a : Option Addr) (n c n' c' : Nat), (binOp .eql 31 (.slice a n c) (.slice none n' c')).run Tryd.prog w = .ok (.bool a.isNone) w := fun w a n c n' c' => Lib.run_eql_slice_nil w _ _ a n c n' c' Tryd.underlying31
  cases a with
  | none =>
    obtain ⟨rfl, rfl⟩ := hnil rfl
    have hxs : xs = [] := List.eq_nil_of_length_eq_zero (by simpa using hx)
    subst hxs
    clear hc h1 hnil hx
    go_enter Tryd.func74, Tryd.ntmps74
    go_wp2
    go_ret
    exact ⟨_, rfl, World.ownsRow_nil _ _ _ _, .inl rfl, Below.refl _ _⟩
  | some ad =>
    obtain ⟨hA, hS, hB⟩ := laid1 w (.cells #[] 2)
    have HO := Lib.hid (show (w.alloc (.cells #[] 2)).ownsRow w.heap.size 2 1 (.slice (some ⟨w.heap.size, 0, none⟩) 0 0) 0 [] from ⟨rfl, .inr ⟨w.heap.size, 0, #[], rfl, Nat.le_refl _, hA, Nat.le_refl _, by decide, rfl, rfl⟩⟩)
    have HC := Lib.hid (show ∀ j u, xs[j]? = some u → (w.alloc (.cells #[] 2)).cell? (ad.add j) = some u from fun j u hj => by
      have h := hc ad rfl j u hj
      rw [← h]
      exact hB.cell (World.block_lt_of_cell? w _ h))
    have HB := Lib.hid hB
    have HX := Lib.hid hx
    have HH := Lib.hid h1
    clear hA hS hB hc hnil hx h1
    go_enter Tryd.func74, Tryd.ntmps74
    go_wp2_with (have hxx := HO; clear hxx; at_builtin; refine wpList_append_own_at _ rfl _ _ 31 rfl w.heap.size 2 i0 _ 1 8 Tryd.underlying31 hi hz0 hz1 hz2 rfl (by decide) _ 0 [] rfl HO.out ad n cap xs rfl HX.out HC.out HH.out ?_ ?_ ?_ ?_)
    · unfold maxLen; omega
    · omega
    · simp
    intro v3 w3 hown3 hgrow3 _ hat
    try simp only [Nat.zero_add, List.nil_append] at hown3
    have HO3 := Lib.hid hown3
    have HB3 := Lib.hid (HB.out.grown hgrow3 (by simp) (fun g e => (HO.out.lt g e).1))
    have HS3 := Lib.hid (show v3 = .slice none 0 0 ∨ ∃ g c, v3 = .slice (some ⟨g, 0, none⟩) n c from by
      rcases hown3.2 with ⟨e, _⟩ | ⟨g, c, _, e, _⟩
      · exact .inl e
      · exact .inr ⟨g, c, e⟩)
    clear hown3 hgrow3 hat
    go_wp2
    go_ret
    exact ⟨_, rfl, HO3.out, HS3.out, HB3.out⟩

set_option maxRecDepth 100000 in
/-- A list that is no other's: its cells are those of the one. -/
theorem cloneWides_any (a : Option Addr) (n cap : Nat) (xs : List Value) (w : World) (hn : n ≤ 1000000) (hx : xs.length = n * 2) (hnil : a = none → n = 0 ∧ cap = 0) (hc : ∀ ad, a = some ad → ∀ j u, xs[j]? = some u → w.cell? (ad.add j) = some u) (h1 : ∀ u ∈ xs, u.oneCell' = true) :
    Calls Tryd.prog 73 #[.slice a n cap] w fun e w' => ∃ v', e = .returned v' ∧ w'.ownsRow w.heap.size 87 2 v' n xs ∧ (v' = .slice none 0 0 ∨ ∃ g c, v' = .slice (some ⟨g, 0, none⟩) n c) ∧ Below w.heap.size w w' := by
  obtain ⟨i0, hi, hz0, hz1, hz2⟩ := info_parts infoWide
  have q : ∀ (w : World) (a : Option Addr) (n c n' c' : Nat), (binOp .eql 49 (.slice a n c) (.slice none n' c')).run Tryd.prog w = .ok (.bool a.isNone) w := fun w a n c n' c' => Lib.run_eql_slice_nil w _ _ a n c n' c' Tryd.underlying49
  cases a with
  | none =>
    obtain ⟨rfl, rfl⟩ := hnil rfl
    have hxs : xs = [] := List.eq_nil_of_length_eq_zero (by simpa using hx)
    subst hxs
    clear hc h1 hnil hx
    go_enter Tryd.func73, Tryd.ntmps73
    go_wp2
    go_ret
    exact ⟨_, rfl, World.ownsRow_nil _ _ _ _, .inl rfl, Below.refl _ _⟩
  | some ad =>
    obtain ⟨hA, hS, hB⟩ := laid1 w (.cells #[] 87)
    have HO := Lib.hid (show (w.alloc (.cells #[] 87)).ownsRow w.heap.size 87 2 (.slice (some ⟨w.heap.size, 0, none⟩) 0 0) 0 [] from ⟨rfl, .inr ⟨w.heap.size, 0, #[], rfl, Nat.le_refl _, hA, Nat.le_refl _, by decide, rfl, rfl⟩⟩)
    have HC := Lib.hid (show ∀ j u, xs[j]? = some u → (w.alloc (.cells #[] 87)).cell? (ad.add j) = some u from fun j u hj => by
      have h := hc ad rfl j u hj
      rw [← h]
      exact hB.cell (World.block_lt_of_cell? w _ h))
    have HB := Lib.hid hB
    have HX := Lib.hid hx
    have HH := Lib.hid h1
    clear hA hS hB hc hnil hx h1
    go_enter Tryd.func73, Tryd.ntmps73
    go_wp2_with (have hxx := HO; clear hxx; at_builtin; refine wpList_append_own_at _ rfl _ _ 49 rfl w.heap.size 87 i0 _ 2 16 Tryd.underlying49 hi hz0 hz1 hz2 rfl (by decide) _ 0 [] rfl HO.out ad n cap xs rfl HX.out HC.out HH.out ?_ ?_ ?_ ?_)
    · unfold maxLen; omega
    · omega
    · simp
    intro v3 w3 hown3 hgrow3 _ hat
    try simp only [Nat.zero_add, List.nil_append] at hown3
    have HO3 := Lib.hid hown3
    have HB3 := Lib.hid (HB.out.grown hgrow3 (by simp) (fun g e => (HO.out.lt g e).1))
    have HS3 := Lib.hid (show v3 = .slice none 0 0 ∨ ∃ g c, v3 = .slice (some ⟨g, 0, none⟩) n c from by
      rcases hown3.2 with ⟨e, _⟩ | ⟨g, c, _, e, _⟩
      · exact .inl e
      · exact .inr ⟨g, c, e⟩)
    clear hown3 hgrow3 hat
    go_wp2
    go_ret
    exact ⟨_, rfl, HO3.out, HS3.out, HB3.out⟩

set_option maxRecDepth 100000 in
/-- A list that is no other's: its cells are those of the one. -/
theorem cloneVals_any (a : Option Addr) (n cap : Nat) (xs : List Value) (w : World) (hn : n ≤ 1000000) (hx : xs.length = n * 2) (hnil : a = none → n = 0 ∧ cap = 0) (hc : ∀ ad, a = some ad → ∀ j u, xs[j]? = some u → w.cell? (ad.add j) = some u) (h1 : ∀ u ∈ xs, u.oneCell' = true) :
    Calls Tryd.prog 72 #[.slice a n cap] w fun e w' => ∃ v', e = .returned v' ∧ w'.ownsRow w.heap.size 44 2 v' n xs ∧ (v' = .slice none 0 0 ∨ ∃ g c, v' = .slice (some ⟨g, 0, none⟩) n c) ∧ Below w.heap.size w w' := by
  obtain ⟨i0, hi, hz0, hz1, hz2⟩ := info_parts infoVal
  have q : ∀ (w : World) (a : Option Addr) (n c n' c' : Nat), (binOp .eql 30 (.slice a n c) (.slice none n' c')).run Tryd.prog w = .ok (.bool a.isNone) w := fun w a n c n' c' => Lib.run_eql_slice_nil w _ _ a n c n' c' Tryd.underlying30
  cases a with
  | none =>
    obtain ⟨rfl, rfl⟩ := hnil rfl
    have hxs : xs = [] := List.eq_nil_of_length_eq_zero (by simpa using hx)
    subst hxs
    clear hc h1 hnil hx
    go_enter Tryd.func72, Tryd.ntmps72
    go_wp2
    go_ret
    exact ⟨_, rfl, World.ownsRow_nil _ _ _ _, .inl rfl, Below.refl _ _⟩
  | some ad =>
    obtain ⟨hA, hS, hB⟩ := laid1 w (.cells #[] 44)
    have HO := Lib.hid (show (w.alloc (.cells #[] 44)).ownsRow w.heap.size 44 2 (.slice (some ⟨w.heap.size, 0, none⟩) 0 0) 0 [] from ⟨rfl, .inr ⟨w.heap.size, 0, #[], rfl, Nat.le_refl _, hA, Nat.le_refl _, by decide, rfl, rfl⟩⟩)
    have HC := Lib.hid (show ∀ j u, xs[j]? = some u → (w.alloc (.cells #[] 44)).cell? (ad.add j) = some u from fun j u hj => by
      have h := hc ad rfl j u hj
      rw [← h]
      exact hB.cell (World.block_lt_of_cell? w _ h))
    have HB := Lib.hid hB
    have HX := Lib.hid hx
    have HH := Lib.hid h1
    clear hA hS hB hc hnil hx h1
    go_enter Tryd.func72, Tryd.ntmps72
    go_wp2_with (have hxx := HO; clear hxx; at_builtin; refine wpList_append_own_at _ rfl _ _ 30 rfl w.heap.size 44 i0 _ 2 24 Tryd.underlying30 hi hz0 hz1 hz2 rfl (by decide) _ 0 [] rfl HO.out ad n cap xs rfl HX.out HC.out HH.out ?_ ?_ ?_ ?_)
    · unfold maxLen; omega
    · omega
    · simp
    intro v3 w3 hown3 hgrow3 _ hat
    try simp only [Nat.zero_add, List.nil_append] at hown3
    have HO3 := Lib.hid hown3
    have HB3 := Lib.hid (HB.out.grown hgrow3 (by simp) (fun g e => (HO.out.lt g e).1))
    have HS3 := Lib.hid (show v3 = .slice none 0 0 ∨ ∃ g c, v3 = .slice (some ⟨g, 0, none⟩) n c from by
      rcases hown3.2 with ⟨e, _⟩ | ⟨g, c, _, e, _⟩
      · exact .inl e
      · exact .inr ⟨g, c, e⟩)
    clear hown3 hgrow3 hat
    go_wp2
    go_ret
    exact ⟨_, rfl, HO3.out, HS3.out, HB3.out⟩
end Go.Proofs.YtdfnolgcdododaaDoor
