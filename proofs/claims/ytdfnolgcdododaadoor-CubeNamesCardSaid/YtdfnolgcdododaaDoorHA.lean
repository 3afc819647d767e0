/- Merged by merge.py: H2p, H11p, H1, H2, H2s, H2c, H10, H3, H4, H5, H6, H12: the document's functions, walked. -/
import Derived.Test.YtdfnolgcdododaaDoorF31p
import Derived.Test.YtdfnolgcdododaaDoorF22
import Derived.Test.YtdfnolgcdododaaDoorF32
import Derived.Laws.EntriesVeiled
namespace Tess
open Go
def metW (s : Sch) (x : ByteArray) : Nat × Bool := placeW (schOk s) s.mets x
def coarser (a b : Int) : Bool := Fil.grainOk a && Fil.grainOk b && decide (b % a = 0)
def within (n a b : Int) : Bool := decide (a ≤ n) && decide (n ≤ b)
/-- What rows are summed up to. -/
structure Agg where
  kind : Int
  met : ByteArray
/-- A condition on a group. -/
structure Cond where
  pos : Int
  op : Int
  n : Int
/-- What groups are ordered by. -/
structure Key where
  agg : Bool
  pos : Int
  desc : Bool
/-- A question. -/
structure Que where
  aggs : List Agg
  names : List ByteArray
  mode : Int
  sets : List (List ByteArray)
  every : Int
  fil : Fil
  conds : List Cond
  keys : List Key
  limit : Int
namespace Que
def isTyped (s : Sch) (a : Agg) : Bool := if a.kind = 1 then decide (a.met = ByteArray.empty) else (metW s a.met).2 && decide (1 < a.kind) && decide (a.kind ≤ 5)
def nameAt (all : List ByteArray) (x : ByteArray) : Int := if hasW all x then (idxW all x : Nat) else -1
/-- Do words stand in a list, in its order, behind a place? -/
def inOrd (all : List ByteArray) (last : Int) : List ByteArray → Bool
  | [] => true
  | x :: r => if nameAt all x ≤ last then false else inOrd all (nameAt all x) r
def inOrder (l all : List ByteArray) : Bool := inOrd all (-1) l
def sizesOk (q : Que) : Bool :=
  within q.aggs.length 1 6 && decide (q.names.length ≤ 6) && within q.mode 1 4 && within q.sets.length (if q.mode = 4 then 1 else 0) (if q.mode = 4 then 8 else 0) && decide (q.conds.length ≤ 4) && decide (q.keys.length ≤ 4) && within q.limit 0 1000
def condOk (n : Nat) (c : Cond) : Bool := within c.pos 0 ((n : Int) - 1) && within c.op 1 6
def keyOk (na nb : Nat) (k : Key) : Bool := if k.agg then within k.pos 0 ((na : Int) - 1) else within k.pos 0 ((nb : Int) - 1)
/-- Is a query a schema's, but for times and the filter? -/
def isOf (s : Sch) (q : Que) : Bool :=
  sizesOk q && q.aggs.all (isTyped s) && inOrder q.names q.names && q.names.all (fun x => (dimW s x).2) && q.sets.all (fun l => inOrder l q.names) && q.conds.all (condOk q.aggs.length) && q.keys.all (keyOk q.aggs.length q.names.length)
/-- What is wrong with a query. -/
def check (s : Sch) (q : Que) : Nat := if schOk s then (if isOf s q then (if decide (q.every ≠ 0) && !coarser s.grain q.every then 110 else Fil.checkE s q.fil) else 152) else 100
/-- The set of the names that do not stand in a list, from a place on. -/
def setFrom (l : List ByteArray) : Nat → List ByteArray → Nat
  | _, [] => 0
  | i, x :: r => (if hasW l x then 0 else 2 ^ i) + setFrom l (i + 1) r
def setOf (names l : List ByteArray) : Nat := setFrom l 0 names
/-- The names that a set has. -/
def namesFrom (set : Nat) : Nat → List ByteArray → List ByteArray
  | _, [] => []
  | i, x :: r => if set / 2 ^ i % 2 = 0 then x :: namesFrom set (i + 1) r else namesFrom set (i + 1) r
def namesOf (names : List ByteArray) (set : Nat) : List ByteArray := namesFrom set 0 (names.take 63)
/-- A query's sets. -/
def setsOf (q : Que) : List Nat :=
  if q.mode = 1 then [0]
  else if q.mode = 2 then List.range (2 ^ q.names.length)
  else if q.mode = 3 then (List.range (q.names.length + 1)).map fun k => 2 ^ q.names.length - 2 ^ (q.names.length - k)
  else q.sets.map (setOf q.names)
end Que
end Tess
namespace Tess
open Go
namespace Que
theorem inOrd_sorted (all : List ByteArray) (l : List ByteArray) : ∀ z, inOrd all z l = true → (∀ j (h : j < l.length), z < nameAt all l[j]) ∧ ∀ i j (hi : i < l.length) (hj : j < l.length), i < j → nameAt all l[i] < nameAt all l[j] := by
  induction l with
  | nil => intro z _; exact ⟨fun j h => absurd h (by simp), fun i j hi => absurd hi (by simp)⟩
  | cons x r ih =>
    intro z h
    unfold inOrd at h
    by_cases hx : nameAt all x ≤ z
    · rw [if_pos hx] at h; cases h
    rw [if_neg hx] at h
    obtain ⟨h1, h2⟩ := ih _ h
    refine ⟨fun j hj => ?_, fun i j hi hj hij => ?_⟩
    · cases j with
      | zero => simp only [List.getElem_cons_zero]; omega
      | succ j => simp only [List.getElem_cons_succ]; have := h1 j (by simpa using hj); omega
    · cases j with
      | zero => omega
      | succ j =>
        cases i with
        | zero => simp only [List.getElem_cons_zero, List.getElem_cons_succ]; exact h1 j (by simpa using hj)
        | succ i => simp only [List.getElem_cons_succ]; exact h2 i j (by simpa using hi) (by simpa using hj) (by omega)
/-- Names in their own order are told apart. -/
theorem inOrder_inj {names : List ByteArray} (h : inOrder names names = true) : ∀ i j (hi : i < names.length) (hj : j < names.length), names[i] = names[j] → i = j := by
  intro i j hi hj e
  have hs := (inOrd_sorted names names (-1) h).2
  rcases Nat.lt_trichotomy i j with h1 | h1 | h1
  · have := hs i j hi hj h1; rw [e] at this; omega
  · exact h1
  · have := hs j i hj hi h1; rw [e] at this; omega
theorem namesFrom_mem (set : Nat) (y : ByteArray) (r : List ByteArray) : ∀ i, y ∈ namesFrom set i r ↔ ∃ j, ∃ h : j < r.length, r[j] = y ∧ set / 2 ^ (i + j) % 2 = 0 := by
  induction r with
  | nil => intro i; simp [namesFrom]
  | cons x r ih =>
    intro i
    have key : (y ∈ namesFrom set i (x :: r)) ↔ (x = y ∧ set / 2 ^ i % 2 = 0) ∨ y ∈ namesFrom set (i + 1) r := by
      rw [show namesFrom set i (x :: r) = if set / 2 ^ i % 2 = 0 then x :: namesFrom set (i + 1) r else namesFrom set (i + 1) r from rfl]
      by_cases hb : set / 2 ^ i % 2 = 0
      · rw [if_pos hb, List.mem_cons]
        constructor
        · rintro (h | h)
          · exact .inl ⟨h.symm, hb⟩
          · exact .inr h
        · rintro (⟨h, _⟩ | h)
          · exact .inl h.symm
          · exact .inr h
      · rw [if_neg hb]
        constructor
        · exact .inr
        · rintro (⟨_, h⟩ | h)
          · exact absurd h hb
          · exact h
    rw [key, ih]
    constructor
    · rintro (⟨h1, h2⟩ | ⟨j, hj, h1, h2⟩)
      · exact ⟨0, by simp, h1, by simpa using h2⟩
      · exact ⟨j + 1, by simpa using hj, by simpa using h1, by rw [show i + (j + 1) = i + 1 + j by omega]; exact h2⟩
    · rintro ⟨j, hj, h1, h2⟩
      cases j with
      | zero => exact .inl ⟨by simpa using h1, by simpa using h2⟩
      | succ j => exact .inr ⟨j, by simpa using hj, by simpa using h1, by rw [show i + 1 + j = i + (j + 1) by omega]; exact h2⟩
theorem setFrom_bits (L : List ByteArray) (set : Nat) (r : List ByteArray) : ∀ i, (∀ j (h : j < r.length), hasW L r[j] = decide (set / 2 ^ (i + j) % 2 = 0)) → set < 2 ^ (i + r.length) → setFrom L i r = set / 2 ^ i * 2 ^ i := by
  induction r with
  | nil =>
    intro i _ hs
    rw [Nat.div_eq_of_lt (by simpa using hs)]; simp [setFrom]
  | cons x r ih =>
    intro i h hs
    have h0 := h 0 (by simp)
    have hr := ih (i + 1) (fun j hj => by have := h (j + 1) (by simpa using hj); rw [show i + 1 + j = i + (j + 1) by omega]; simpa using this) (by rw [show i + 1 + r.length = i + (x :: r).length by simp; omega]; exact hs)
    simp only [List.getElem_cons_zero, Nat.add_zero] at h0
    unfold setFrom
    rw [h0, hr]
    have e1 : set / 2 ^ (i + 1) = set / 2 ^ i / 2 := by rw [Nat.pow_succ, Nat.div_div_eq_div_mul]
    have e2 : set / 2 ^ i = 2 * (set / 2 ^ i / 2) + set / 2 ^ i % 2 := (Nat.div_add_mod _ _).symm
    generalize set / 2 ^ i = m at *
    rw [e1, Nat.pow_succ]
    generalize 2 ^ i = P at *
    have hm : m % 2 = 0 ∨ m % 2 = 1 := by omega
    rcases hm with hm | hm
    · rw [decide_eq_true hm, if_pos rfl]
      conv => rhs; rw [e2, hm]
      rw [Nat.zero_add, Nat.add_zero, Nat.mul_comm P 2, ← Nat.mul_assoc, Nat.mul_comm 2]
    · rw [decide_eq_false (by omega), if_neg (by simp)]
      conv => rhs; rw [e2, hm]
      rw [Nat.add_mul, Nat.one_mul, Nat.mul_comm P 2, ← Nat.mul_assoc, Nat.mul_comm 2, Nat.add_comm]
/-- A set's names, asked for as a set, are that set. -/
theorem setOf_namesOf {names : List ByteArray} (h : inOrder names names = true) (hl : names.length ≤ 63) (set : Nat) (hs : set < 2 ^ names.length) : setOf names (namesOf names set) = set := by
  unfold setOf namesOf
  rw [List.take_of_length_le hl]
  have := setFrom_bits (namesFrom set 0 names) set names 0 (fun j hj => by
    rw [Bool.eq_iff_iff, hasW_iff, namesFrom_mem, decide_eq_true_iff]
    constructor
    · rintro ⟨k, hk, e1, e2⟩
      have := inOrder_inj h k j hk hj e1
      subst this; exact e2
    · intro e; exact ⟨j, hj, rfl, e⟩) (by simpa using hs)
  rw [this]; simp
theorem namesFrom_len (set : Nat) (r : List ByteArray) : ∀ i, (namesFrom set i r).length = ((List.range' i r.length).filter fun j => decide (set / 2 ^ j % 2 = 0)).length := by
  induction r with
  | nil => intro i; simp [namesFrom]
  | cons x r ih =>
    intro i
    rw [List.length_cons, List.range'_succ, List.filter_cons]
    unfold namesFrom
    by_cases hb : set / 2 ^ i % 2 = 0
    · rw [if_pos hb, decide_eq_true hb, if_pos rfl, List.length_cons, List.length_cons, ih]
    · rw [if_neg hb, decide_eq_false hb, if_neg (by simp), ih]
/-- What a rollup's sets leave. -/
theorem rollup_len {names : List ByteArray} (hl : names.length ≤ 6) (k : Nat) (hk : k ≤ names.length) : (namesOf names (2 ^ names.length - 2 ^ (names.length - k))).length = names.length - k := by
  unfold namesOf
  rw [List.take_of_length_le (by omega), namesFrom_len]
  generalize names.length = n at *
  have h : ∀ n, n ≤ 6 → ∀ k, k ≤ n → ((List.range' 0 n).filter fun j => decide ((2 ^ n - 2 ^ (n - k)) / 2 ^ j % 2 = 0)).length = n - k := by decide +kernel
  exact h n hl k hk
theorem check_mode (s : Sch) (q : Que) : check s { q with sets := [], mode := 2 } = check s { q with sets := [], mode := 3 } := by
  unfold check isOf sizesOk
  simp [within]
theorem check_ok {s : Sch} {q : Que} (h : check s q = 0) : isOf s q = true := by
  unfold check at h
  cases hi : isOf s q
  · rw [hi] at h
    simp at h
    split at h <;> simp at h
  · rfl
theorem isOf_names {s : Sch} {q : Que} (h : isOf s q = true) : inOrder q.names q.names = true ∧ q.names.length ≤ 6 ∧ (1 ≤ q.mode ∧ q.mode ≤ 4) ∧ q.sets.length ≤ 8 := by
  unfold isOf sizesOk within at h
  simp only [Bool.and_eq_true, decide_eq_true_eq] at h
  obtain ⟨⟨⟨⟨⟨⟨h1, _⟩, h2⟩, _⟩, _⟩, _⟩, _⟩ := h
  obtain ⟨⟨⟨⟨⟨⟨_, h3⟩, h4⟩, h5⟩, _⟩, _⟩, _⟩ := h1
  refine ⟨h2, h3, h4, ?_⟩
  have := h5.2
  split at this <;> omega
end Que
end Tess
namespace Go.Proofs.YtdfnolgcdododaaDoor
open Go.RowKit Go.Sort
open Tess (Fil)
open Tess.Fil (grainOk)

set_option maxRecDepth 100000 in
set_option maxHeartbeats 1000000 in
theorem metric_any (v : Value) (s : Tess.Sch) (x : ByteArray) (p : Nat → Prop) (w : World) (hv : SchAt p w v s) :
    Calls Tryd.prog 125 #[v, .string x] w fun e w' => e = .returned (.tuple #[.int .i64 ((Tess.metW s x).1 : Nat), .bool (Tess.metW s x).2]) ∧ Below w.heap.size w w' := by
  have HV := Lib.hid hv
  obtain ⟨vd, vm, rfl, hd, hm, _, _⟩ := hv
  have HP := Lib.hid (fun W (hB : Below w.heap.size w W) => place_any _ vm s s.mets x p W (HV.out.ag (Ag.new p hB)) (hm.1.below hB))
  obtain ⟨ad, capd, rfl, _⟩ := slp_len hd
  obtain ⟨am, capm, rfl, _⟩ := slp_len hm
  clear hd hm
  have HD : RowKit.Hid (Tess.metW s x = Tess.placeW (Tess.schOk s) s.mets x) := Lib.hid rfl
  rw [← HD.out] at HP
  generalize Tess.metW s x = r at *
  obtain ⟨r1, r2⟩ := r
  simp only at HP
  go_enter Tryd.func125, Tryd.ntmps125
  go_wp2_with (go_at_call 93; refine (HP.out _ ((Below.refl _ _).alloc (Nat.le_refl _) _)).mono ?_; rintro e w2 ⟨rfl, hB2⟩; have HB := Lib.hid (((Below.refl _ _).alloc (Nat.le_refl _) _).trans (hB2.mono (by simp))); clear hB2)
  go_ret2
  exact ⟨rfl, HB.out⟩

set_option maxRecDepth 100000 in
set_option maxHeartbeats 1000000 in
theorem areGrains2 (b : Nat) (g h : Int) (w : World) (hc : w.cell? ⟨b, 0, none⟩ = some (.int .i64 g)) (hd : w.cell? ⟨b, 1, none⟩ = some (.int .i64 h)) :
    Calls Tryd.prog 45 #[.slice (some ⟨b, 0, none⟩) 2 2] w fun e w' => e = .returned (.bool (grainOk g && grainOk h)) ∧ w = w' := by
  have gk : ∀ x : Int, grainOk x = true ∧ decide (x < 1) = false ∧ decide (1000000000 < x) = false ∨ grainOk x = false ∧ decide (x < 1) = true ∨ grainOk x = false ∧ decide (x < 1) = false ∧ decide (1000000000 < x) = true := by
    intro x
    unfold grainOk
    by_cases h1 : 1 ≤ x
    · by_cases h2 : x ≤ 1000000000
      · left; simp [h1, h2]
      · right; right; simp [h1]; omega
    · right; left; simp; omega
  rcases gk g with ⟨e, d1, d2⟩ | ⟨e, d1⟩ | ⟨e, d1, d2⟩
  · rw [e, Bool.true_and]
    rcases gk h with ⟨e', d1', d2'⟩ | ⟨e', d1'⟩ | ⟨e', d1', d2'⟩
    all_goals
      rw [e']
      clear gk e e'
      go_enter Tryd.func45, Tryd.ntmps45
      go_wp2
      refine wp_loop_rounds 3 ?_
      rw [rounds_succ]
      go_wp2
      rw [rounds_succ]
      go_wp2
      try (rw [rounds_succ]; go_wp2)
      go_ret
      exact ⟨rfl, rfl⟩
  all_goals
    rw [e, Bool.false_and]
    clear gk e
    go_enter Tryd.func45, Tryd.ntmps45
    go_wp2
    refine wp_loop_rounds 3 ?_
    rw [rounds_succ]
    go_wp2
    go_ret
    exact ⟨rfl, rfl⟩

set_option maxRecDepth 100000 in
set_option maxHeartbeats 1000000 in
theorem coarser_any (a b : Int) (w : World) : Calls Tryd.prog 76 #[.int .i64 a, .int .i64 b] w fun e w' => e = .returned (.bool (Tess.coarser a b)) ∧ Below w.heap.size w w' := by
  unfold Tess.coarser
  have HG := Lib.hid (fun (k : Nat) (W : World) h1 h2 => areGrains2 k a b W h1 h2)
  cases hg : grainOk a && grainOk b
  · rw [hg] at HG
    rw [Bool.false_and]
    go_enter Tryd.func76, Tryd.ntmps76
    go_wp2_with (go_at_call 45; refine (HG.out _ _ (by simp) (by simp)).mono ?_; rintro e w3 ⟨rfl, rfl⟩; have HB3 := Lib.hid ((Below.refl w.heap.size w).alloc (Nat.le_refl _) (.cells #[.int .i64 a, .int .i64 b] 2)))
    go_ret
    exact ⟨rfl, HB3.out⟩
  · rw [hg] at HG
    have h1 : 1 ≤ a ∧ a ≤ 1000000000 ∧ 1 ≤ b ∧ b ≤ 1000000000 := by
      unfold grainOk at hg; simp at hg; omega
    obtain ⟨h1, h2, h3, h4⟩ := h1
    rw [Bool.true_and]
    obtain ⟨r, hr⟩ : ∃ r, ((b % a : Int) == 0) = r := ⟨_, rfl⟩
    have e1 : decide (b % a = 0) = r := by rw [← hr]; rfl
    rw [e1]
    have hb0 : 0 ≤ b := by omega
    clear e1 hg
    go_enter Tryd.func76, Tryd.ntmps76
    go_wp2_with (go_at_call 45; refine (HG.out _ _ (by simp) (by simp)).mono ?_; rintro e w3 ⟨rfl, rfl⟩; have HB3 := Lib.hid ((Below.refl w.heap.size w).alloc (Nat.le_refl _) (.cells #[.int .i64 a, .int .i64 b] 2)))
    go_ret
    exact ⟨rfl, HB3.out⟩

theorem qwithin_any (n a b : Int) (w : World) : Calls Tryd.prog 102 #[.int .i64 n, .int .i64 a, .int .i64 b] w fun e w' => e = .returned (.bool (Tess.within n a b)) ∧ w = w' := by
  unfold Tess.within
  obtain ⟨r, hr⟩ : ∃ r, decide (n ≤ b) = r := ⟨_, rfl⟩
  by_cases h1 : a ≤ n
  · have d1 : decide (a ≤ n) = true := decide_eq_true h1
    rw [d1, hr]
    go_enter Tryd.func102, Tryd.ntmps102
    go_wp2
    go_ret
    exact ⟨rfl, rfl⟩
  · have d1 : decide (a ≤ n) = false := decide_eq_false h1
    rw [d1, Bool.false_and]
    go_enter Tryd.func102, Tryd.ntmps102
    go_wp2
    go_ret
    exact ⟨rfl, rfl⟩

theorem slp_int_at {p : Nat → Prop} {w : World} {a : Option Addr} {n c : Nat} {ns : List Int} (h : SlP p w (.slice a n c) (ns.map (.int .i64))) (k : Nat) (hk : k < ns.length) : ∃ b off, a = some ⟨b, off, none⟩ ∧ b < w.heap.size ∧ w.cell? ⟨b, off + k, none⟩ = some (.int .i64 ns[k]) := by
  obtain ⟨⟨_, a', c', e, hc⟩, _, _⟩ := h
  simp only [Value.slice.injEq] at e
  obtain ⟨rfl, _, _⟩ := e
  obtain ⟨b, off, ha, hb, hcell⟩ := hc (by simp; omega)
  exact ⟨b, off, ha, hb, by rw [hcell k (by simpa using hk), List.getElem_map]⟩
/-- Numbers in memory. -/
theorem sli_open {p : Nat → Prop} {w : World} {v : Value} {ns : List Int} (h : SlP p w v (ns.map (.int .i64))) : ∃ a cap, v = .slice a ns.length cap ∧ ns.length ≤ 9223372036854775807 ∧ (∀ k (hk : k < ns.length), ∃ b off, a = some ⟨b, off, none⟩ ∧ b < w.heap.size ∧ w.cell? ⟨b, off + k, none⟩ = some (.int .i64 ns[k])) := by
  obtain ⟨a, n, c, rfl⟩ := h.shape
  have hn : n = ns.length := by
    obtain ⟨⟨_, a', cap', hv, _⟩, _⟩ := h
    cases hv; simp
  have hl := h.1.1
  rw [List.length_map] at hl
  subst hn
  exact ⟨a, c, rfl, hl, fun k hk => slp_int_at h k hk⟩

set_option maxHeartbeats 1000000 in
theorem rInts_any (p q : Nat → Prop) (va vb : Value) (a b : List Int) (w : World) (ha : SlP p w va (a.map (.int .i64))) (hb : SlP q w vb (b.map (.int .i64))) :
    Calls Tryd.prog 46 #[va, vb] w fun e w' => e = .returned (.bool (decide (a = b))) ∧ Below w.heap.size w w' := by
  obtain ⟨aa, ac, rfl, hal, hac⟩ := sli_open ha
  obtain ⟨ba, bc, rfl, hbl, hbc⟩ := sli_open hb
  have HA := Lib.hid hac
  have HBc := Lib.hid hbc
  clear ha hb hac hbc
  by_cases hl : a.length = b.length
  · have HL := Lib.hid hl
    have hl' : ((a.length : Int) != (b.length : Int)) = false := by rw [bne_eq_false_iff_eq]; omega
    clear hl
    go_enter Tryd.func46, Tryd.ntmps46
    go_wp2
    go_loopw [5] (fun i wr => ∃ k : Nat, k ≤ a.length ∧ i = .int .i64 k ∧ (∀ j (h1 : j < a.length) (h2 : j < b.length), j < k → a[j] = b[j]) ∧ Below w.heap.size w wr) (fun i _ => a.length - (intOf i).toNat)
    case atStart => exact ⟨0, Nat.zero_le _, rfl, fun j _ _ h => absurd h (Nat.not_lt_zero _), Below.refl _ _⟩
    case round =>
      obtain ⟨k, hk, rfl, hall, hB⟩ := hrel
      have HALL := Lib.hid hall
      have HB := Lib.hid hB
      clear hall hB
      by_cases hlt : k < a.length
      · have hlb : k < b.length := by have := HL.out; omega
        obtain ⟨b1, o1, rfl, hb1, hc1⟩ := HA.out k hlt
        obtain ⟨b2, o2, rfl, hb2, hc2⟩ := HBc.out k hlb
        obtain ⟨x, hx⟩ : ∃ x, x = a[k] := ⟨_, rfl⟩
        obtain ⟨y, hy⟩ : ∃ y, y = b[k] := ⟨_, rfl⟩
        rw [← hx] at hc1
        rw [← hy] at hc2
        have e1 := (HB.out.cell (p := ⟨b1, o1 + k, none⟩) hb1).trans hc1
        have e2 := (HB.out.cell (p := ⟨b2, o2 + k, none⟩) hb2).trans hc2
        have hki : (k : Int) < (a.length : Int) := by omega
        have HXY := Lib.hid (And.intro hx hy)
        clear hx hy hc1 hc2
        by_cases he : x = y
        · have hne : (x != y) = false := by simp [he]
          have HE := Lib.hid he
          clear he
          go_wp2
          go_quiet (fail)
          go_wp2
          go_roundw
          case rel =>
            refine ⟨k + 1, by omega, by go_num, fun j h1 h2 hjk => ?_, below_drewN HB.out _⟩
            by_cases hjk' : j < k
            · exact HALL.out j h1 h2 hjk'
            · obtain rfl : j = k := by omega
              rw [← HXY.out.1, ← HXY.out.2]; exact HE.out
          case measure => simp [intOf]; omega
        · have hne : (x != y) = true := by simp [he]
          have HE := Lib.hid he
          clear he
          go_wp2
          go_quiet (fail)
          go_wp2
          go_ret
          refine ⟨ret_bool' ?_, below_drewN HB.out _⟩
          refine (decide_eq_false fun e => HE.out ?_).symm
          rw [HXY.out.1, HXY.out.2]
          subst e; rfl
      · have hki : ¬ (k : Int) < (a.length : Int) := by omega
        go_wp2
        go_ret
        refine ⟨ret_bool' (decide_eq_true (List.ext_getElem HL.out fun j h1 h2 => HALL.out j h1 h2 (by omega))).symm, HB.out⟩
  · have hl' : ((a.length : Int) != (b.length : Int)) = true := by rw [bne_iff_ne]; omega
    have HN := Lib.hid (show a ≠ b from fun e => hl (by rw [e]))
    clear hl
    go_enter Tryd.func46, Tryd.ntmps46
    go_wp2
    go_ret
    exact ⟨ret_bool' (decide_eq_false HN.out).symm, Below.refl _ _⟩
end Go.Proofs.YtdfnolgcdododaaDoor
namespace Go.Proofs.YtdfnolgcdododaaDoor
open Go.RowKit Go.Sort
open Tess (Fil Que)

/-- A list of structs of so many cells in memory. -/
def RowsAt {α : Type} (k : Nat) (f : α → List Value) (p : Nat → Prop) (w : World) (v : Value) (l : List α) : Prop :=
  ∃ a cap, v = .slice a l.length cap ∧ l.length ≤ maxLen ∧ l.length ≤ cap ∧ (a = none → cap = 0) ∧
    (0 < l.length → ∃ b off, a = some ⟨b, off, none⟩ ∧ b < w.heap.size ∧ p b ∧ ∀ j (h : j < l.length) i, i < k → w.cell? ⟨b, off + j * k + i, none⟩ = (f l[j])[i]?)
section
variable {α : Type} {k : Nat} {f : α → List Value} {p q : Nat → Prop} {w w' : World} {v : Value} {l : List α}
theorem RowsAt.ag (h : RowsAt k f p w v l) (hg : Ag p w w') : RowsAt k f p w' v l := by
  obtain ⟨a, cap, hv, h1, h2, h3, h4⟩ := h
  refine ⟨a, cap, hv, h1, h2, h3, fun hl => ?_⟩
  obtain ⟨b, off, ha, hb, hp, hc⟩ := h4 hl
  exact ⟨b, off, ha, Nat.lt_of_lt_of_le hb hg.1, hp, fun j hj i hi => (hg.cell hb hp).trans (hc j hj i hi)⟩
theorem RowsAt.weak (hpq : ∀ b, p b → q b) (h : RowsAt k f p w v l) : RowsAt k f q w v l := by
  obtain ⟨a, cap, hv, h1, h2, h3, h4⟩ := h
  refine ⟨a, cap, hv, h1, h2, h3, fun hl => ?_⟩
  obtain ⟨b, off, ha, hb, hp, hc⟩ := h4 hl
  exact ⟨b, off, ha, hb, hpq b hp, hc⟩
theorem RowsAt.lt (h : RowsAt k f p w v l) : RowsAt k f (fun b => p b ∧ b < w.heap.size) w v l := by
  obtain ⟨a, cap, hv, h1, h2, h3, h4⟩ := h
  refine ⟨a, cap, hv, h1, h2, h3, fun hl => ?_⟩
  obtain ⟨b, off, ha, hb, hp, hc⟩ := h4 hl
  exact ⟨b, off, ha, hb, ⟨hp, hb⟩, hc⟩
theorem RowsAt.nil (k : Nat) (f : α → List Value) (p : Nat → Prop) (w : World) : RowsAt k f p w (.slice none 0 0) [] := ⟨none, 0, rfl, Nat.zero_le _, Nat.zero_le _, fun _ => rfl, fun h => absurd h (Nat.lt_irrefl 0)⟩
theorem RowsAt.take (h : RowsAt k f p w v l) (n : Nat) (hn : n ≤ l.length) : ∃ a cap, v = .slice a l.length cap ∧ RowsAt k f p w (.slice a n cap) (l.take n) := by
  obtain ⟨a, cap, hv, h1, h2, h3, h4⟩ := h
  have e : (l.take n).length = n := by simp; omega
  refine ⟨a, cap, hv, a, cap, by rw [e], by rw [e]; omega, by rw [e]; omega, h3, fun hl => ?_⟩
  rw [e] at hl
  obtain ⟨b, off, ha, hb, hp, hc⟩ := h4 (by omega)
  refine ⟨b, off, ha, hb, hp, fun j hj i hi => ?_⟩
  rw [e] at hj
  rw [hc j (by omega) i hi]; simp
end
def aggF (a : Tess.Agg) : List Value := [.int .i64 a.kind, .string a.met]
def condF (c : Tess.Cond) : List Value := [.int .i64 c.pos, .int .i64 c.op, .int .i64 c.n]
def keyF (k : Tess.Key) : List Value := [.bool k.agg, .int .i64 k.pos, .bool k.desc]
/-- A list of lists of texts in memory. -/
def SetsAt (p : Nat → Prop) (w : World) (v : Value) (l : List (List ByteArray)) : Prop :=
  ∃ a cap, v = .slice a l.length cap ∧ l.length ≤ maxLen ∧ l.length ≤ cap ∧ (a = none → cap = 0) ∧
    (0 < l.length → ∃ b off, a = some ⟨b, off, none⟩ ∧ b < w.heap.size ∧ p b ∧ ∀ j (h : j < l.length), ∃ c, w.cell? ⟨b, off + j, none⟩ = some c ∧ SlP p w c (l[j].map .string) ∧ ∀ x ∈ l[j], x.size ≤ maxLen)
section
variable {p q : Nat → Prop} {w w' : World} {v : Value} {l : List (List ByteArray)}
theorem SetsAt.ag (h : SetsAt p w v l) (hg : Ag p w w') : SetsAt p w' v l := by
  obtain ⟨a, cap, hv, h1, h2, h3, h4⟩ := h
  refine ⟨a, cap, hv, h1, h2, h3, fun hl => ?_⟩
  obtain ⟨b, off, ha, hb, hp, hc⟩ := h4 hl
  refine ⟨b, off, ha, Nat.lt_of_lt_of_le hb hg.1, hp, fun j hj => ?_⟩
  obtain ⟨c, e1, e2, e3⟩ := hc j hj
  exact ⟨c, (hg.cell hb hp).trans e1, e2.ag hg, e3⟩
theorem SetsAt.weak (hpq : ∀ b, p b → q b) (h : SetsAt p w v l) : SetsAt q w v l := by
  obtain ⟨a, cap, hv, h1, h2, h3, h4⟩ := h
  refine ⟨a, cap, hv, h1, h2, h3, fun hl => ?_⟩
  obtain ⟨b, off, ha, hb, hp, hc⟩ := h4 hl
  refine ⟨b, off, ha, hb, hpq b hp, fun j hj => ?_⟩
  obtain ⟨c, e1, e2, e3⟩ := hc j hj
  exact ⟨c, e1, e2.weak hpq, e3⟩
theorem SetsAt.nil (p : Nat → Prop) (w : World) : SetsAt p w (.slice none 0 0) [] := ⟨none, 0, rfl, Nat.zero_le _, Nat.zero_le _, fun _ => rfl, fun h => absurd h (Nat.lt_irrefl 0)⟩
end
/-- A query in memory; its blocks are such. -/
structure QueAt (p : Nat → Prop) (n : Nat) (w : World) (v : Value) (q : Que) (va vb vs f0 f1 f2 f3 f4 f5 vh vo : Value) : Prop where
  e : v = .agg #[va, vb, .int .i64 q.mode, vs, .int .i64 q.every, f0, f1, f2, f3, f4, f5, vh, vo, .int .i64 q.limit]
  aggs : RowsAt 2 aggF p w va q.aggs
  mets : ∀ x ∈ q.aggs, x.met.size ≤ maxLen
  names : SlP p w vb (q.names.map .string)
  small : ∀ x ∈ q.names, x.size ≤ maxLen
  sets : SetsAt p w vs q.sets
  fil : FilAt p n w (.agg #[f0, f1, f2, f3, f4, f5]) q.fil
  conds : RowsAt 3 condF p w vh q.conds
  keys : RowsAt 3 keyF p w vo q.keys
section
variable {p q : Nat → Prop} {n : Nat} {w w' : World} {v : Value} {x : Que} {va vb vs f0 f1 f2 f3 f4 f5 vh vo : Value}
theorem QueAt.ag (h : QueAt p n w v x va vb vs f0 f1 f2 f3 f4 f5 vh vo) (hg : Ag p w w') : QueAt p n w' v x va vb vs f0 f1 f2 f3 f4 f5 vh vo :=
  ⟨h.e, h.aggs.ag hg, h.mets, h.names.ag hg, h.small, h.sets.ag hg, h.fil.ag hg, h.conds.ag hg, h.keys.ag hg⟩
theorem QueAt.weak (hpq : ∀ b, p b → q b) (h : QueAt p n w v x va vb vs f0 f1 f2 f3 f4 f5 vh vo) : QueAt q n w v x va vb vs f0 f1 f2 f3 f4 f5 vh vo :=
  ⟨h.e, h.aggs.weak hpq, h.mets, h.names.weak hpq, h.small, h.sets.weak hpq, h.fil.weak hpq, h.conds.weak hpq, h.keys.weak hpq⟩
end
/-- What the boxes of a query hold. -/
abbrev queCells (q : Que) (va vb vs f0 f1 f2 f3 f4 f5 vh vo : Value) : Array Value := #[va, vb, .int .i64 q.mode, vs, .int .i64 q.every, f0, f1, f2, f3, f4, f5, vh, vo, .int .i64 q.limit]
section
variable {W : World} {B : Nat} {t : TypeId} {x0 x1 x2 x3 x4 x5 x6 x7 x8 x9 xa xb xc xd : Value}
/-- What a load and a store of a query's box ask. -/
theorem can14 (h : W.heap[B]? = some (.cells #[x0, x1, x2, x3, x4, x5, x6, x7, x8, x9, xa, xb, xc, xd] t (0, 0))) :
    (W.cell? ⟨B, 0, none⟩ = some x0 ∧ W.cell? ⟨B, 1, none⟩ = some x1 ∧ W.cell? ⟨B, 2, none⟩ = some x2 ∧ W.cell? ⟨B, 3, none⟩ = some x3 ∧ W.cell? ⟨B, 4, none⟩ = some x4 ∧ W.cell? ⟨B, 5, none⟩ = some x5 ∧ W.cell? ⟨B, 6, none⟩ = some x6 ∧ W.cell? ⟨B, 7, none⟩ = some x7 ∧ W.cell? ⟨B, 8, none⟩ = some x8 ∧ W.cell? ⟨B, 9, none⟩ = some x9 ∧ W.cell? ⟨B, 10, none⟩ = some xa ∧ W.cell? ⟨B, 11, none⟩ = some xb ∧ W.cell? ⟨B, 12, none⟩ = some xc ∧ W.cell? ⟨B, 13, none⟩ = some xd) ∧
      ∀ i, i < 14 → W.frozen? ⟨B, i, none⟩ = false :=
  ⟨⟨cell_of_row _ _ 0 _ _ _ h, cell_of_row _ _ 1 _ _ _ h, cell_of_row _ _ 2 _ _ _ h, cell_of_row _ _ 3 _ _ _ h, cell_of_row _ _ 4 _ _ _ h, cell_of_row _ _ 5 _ _ _ h, cell_of_row _ _ 6 _ _ _ h, cell_of_row _ _ 7 _ _ _ h, cell_of_row _ _ 8 _ _ _ h, cell_of_row _ _ 9 _ _ _ h, cell_of_row _ _ 10 _ _ _ h, cell_of_row _ _ 11 _ _ _ h, cell_of_row _ _ 12 _ _ _ h, cell_of_row _ _ 13 _ _ _ h⟩, fun i _ => frozen_of_row _ _ i _ _ h⟩
end
end Go.Proofs.YtdfnolgcdododaaDoor
namespace Go.Proofs.YtdfnolgcdododaaDoor
open Go.RowKit Go.Sort
section
variable {p : Nat → Prop} {w : World} {v : Value}
theorem SetsAt.shape {l : List (List ByteArray)} (h : SetsAt p w v l) : ∃ a cap, v = .slice a l.length cap := let ⟨a, cap, hv, _⟩ := h; ⟨a, cap, hv⟩
theorem RowsAt.shape {α : Type} {k : Nat} {f : α → List Value} {l : List α} (h : RowsAt k f p w v l) : ∃ a cap, v = .slice a l.length cap := let ⟨a, cap, hv, _⟩ := h; ⟨a, cap, hv⟩
theorem RowsAt.len {α : Type} {k : Nat} {f : α → List Value} {l : List α} (h : RowsAt k f p w v l) : l.length ≤ 9223372036854775807 := by obtain ⟨_, _, _, h, _⟩ := h; unfold maxLen at h; omega
theorem SetsAt.len {l : List (List ByteArray)} (h : SetsAt p w v l) : l.length ≤ 9223372036854775807 := by obtain ⟨_, _, _, h, _⟩ := h; unfold maxLen at h; omega
end
end Go.Proofs.YtdfnolgcdododaaDoor
namespace Go.Proofs.YtdfnolgcdododaaDoor
open Go.RowKit Go.Sort
/-- A slice of so many, of a capacity no less. -/
def CapOk (v : Value) (n : Nat) : Prop := (match v with | .slice _ m _ => m = n | _ => False) ∧ (match v with | .slice _ _ c => n ≤ c | _ => False)
theorem owns_cap {w : World} {base : Nat} {e : TypeId} {size : Nat} {v : Value} {n : Nat} {xs : List Value} (h : w.ownsRow base e size v n xs) (h0 : n = 0 → v = .slice none 0 0) : CapOk v n := by
  rcases Nat.eq_zero_or_pos n with e0 | e0
  · rw [h0 e0, e0]; exact ⟨rfl, Nat.le_refl _⟩
  · obtain ⟨g, cap, hv, _, _, hc, _⟩ := owns_cell_any h e0
    rw [hv]; exact ⟨rfl, hc⟩
end Go.Proofs.YtdfnolgcdododaaDoor
namespace Tess
open Go
namespace Que
theorem setFrom_le (l : List ByteArray) (names : List ByteArray) : ∀ i, setFrom l i names + 2 ^ i ≤ 2 ^ (i + names.length) := by
  induction names with
  | nil => intro i; simp [setFrom]
  | cons x r ih =>
    intro i
    have h := ih (i + 1)
    have e : i + 1 + r.length = i + (r.length + 1) := by omega
    rw [e] at h
    have e2 : 2 ^ (i + 1) = 2 ^ i + 2 ^ i := by rw [Nat.pow_succ]; omega
    rw [List.length_cons]
    have e3 : setFrom l i (x :: r) = (if hasW l x then 0 else 2 ^ i) + setFrom l (i + 1) r := rfl
    rw [e3]
    have hp := Nat.two_pow_pos i
    generalize 2 ^ i = P at *
    split <;> omega
theorem setFrom_append (l a b : List ByteArray) : ∀ i, setFrom l i (a ++ b) = setFrom l i a + setFrom l (i + a.length) b := by
  induction a with
  | nil => intro i; simp [setFrom]
  | cons x r ih =>
    intro i
    show (if hasW l x then 0 else 2 ^ i) + setFrom l (i + 1) (r ++ b) = (if hasW l x then 0 else 2 ^ i) + setFrom l (i + 1) r + setFrom l (i + (r.length + 1)) b
    rw [ih, show i + 1 + r.length = i + (r.length + 1) by omega]; omega
theorem setTo_succ (l names : List ByteArray) (k : Nat) (h : k < names.length) : setFrom l 0 (names.take (k + 1)) = setFrom l 0 (names.take k) + if hasW l names[k] then 0 else 2 ^ k := by
  rw [List.take_succ_eq_append_getElem h, setFrom_append]
  have : (names.take k).length = k := by simp; omega
  rw [this]
  simp [setFrom]
theorem setTo_lt (l names : List ByteArray) (k : Nat) (h : k ≤ names.length) : setFrom l 0 (names.take k) < 2 ^ k := by
  have := setFrom_le l (names.take k) 0
  have e : (names.take k).length = k := by simp; omega
  rw [e] at this
  simp at this; omega
end Que
end Tess
namespace Go.Proofs.YtdfnolgcdododaaDoor
open Go.RowKit Go.Sort
open Tess (Fil Que)

theorem pow_small (n : Nat) (h : n ≤ 10) : (2 : Int) ^ n = ((2 ^ n : Nat) : Int) ∧ 1 ≤ 2 ^ n ∧ 2 ^ n ≤ 1024 := by
  refine ⟨by simp, Nat.one_le_two_pow, ?_⟩
  calc 2 ^ n ≤ 2 ^ 10 := Nat.pow_le_pow_right (by omega) h
    _ = 1024 := rfl
theorem or_pow : ∀ k, k < 6 → ∀ s, s < 2 ^ k → bits .or .i64 ((s : Nat) : Int) ((2 ^ k : Nat) : Int) = ((s + 2 ^ k : Nat) : Int) := by decide +kernel
theorem andNot_all : ∀ n, n ≤ 6 → ∀ k, k ≤ n → bits .andNot .i64 ((2 ^ n - 1 : Nat) : Int) (((2 ^ n - 1) / 2 ^ k : Nat) : Int) = ((2 ^ n - 2 ^ (n - k) : Nat) : Int) := by decide +kernel
set_option maxRecDepth 100000 in
theorem all_any (x0 x2 x3 x4 x5 x6 x7 x8 x9 xa xb xc xd : Value) (ab : Option Addr) (nb cb : Nat) (hn : nb ≤ 10) (w : World) :
    Calls Tryd.prog 116 #[.agg #[x0, .slice ab nb cb, x2, x3, x4, x5, x6, x7, x8, x9, xa, xb, xc, xd]] w fun e w' => e = .returned (.int .i64 ((2 ^ nb - 1 : Nat) : Int)) ∧ Below w.heap.size w w' := by
  obtain ⟨h0, hS, hB⟩ := laid1 w (.cells #[x0, .slice ab nb cb, x2, x3, x4, x5, x6, x7, x8, x9, xa, xb, xc, xd] 98)
  obtain ⟨p1, p2, p3⟩ := pow_small nb hn
  have HB := Lib.hid hB
  clear hB hS h0
  obtain ⟨P, hP⟩ : ∃ P, P = 2 ^ nb := ⟨_, rfl⟩
  rw [← hP] at p1 p2 p3
  have e : ((2 ^ nb - 1 : Nat) : Int) = (P : Int) - 1 := by rw [← hP]; omega
  rw [e]
  clear hP e
  go_enter Tryd.func116, Tryd.ntmps116
  go_wp2
  go_ret
  exact ⟨rfl, HB.out⟩
set_option maxRecDepth 100000 in
set_option maxHeartbeats 2000000 in
theorem set_any (x0 x2 x3 x4 x5 x6 x7 x8 x9 xa xb xc xd vb vl : Value) (names l : List ByteArray) (hn : names.length ≤ 6) (w : World) (hb : SlOf w vb (names.map .string)) (hl : SlOf w vl (l.map .string)) :
    Calls Tryd.prog 119 #[.agg #[x0, vb, x2, x3, x4, x5, x6, x7, x8, x9, xa, xb, xc, xd], vl] w fun e w' => e = .returned (.int .i64 ((Que.setOf names l : Nat) : Int)) ∧ Below w.heap.size w w' := by
  have HCT := Lib.hid (fun (W : World) (hB : Below w.heap.size w W) (x : ByteArray) => contains_any vl l x W (hl.below hB))
  obtain ⟨ab, cb, rfl, _, hc⟩ := sls_open hb
  obtain ⟨al, cl, rfl, _, _⟩ := sls_open hl
  have HC := Lib.hid hc
  clear hc hb hl
  obtain ⟨W0, hW0⟩ : ∃ W0, w.alloc (.cells #[x0, .slice ab names.length cb, x2, x3, x4, x5, x6, x7, x8, x9, xa, xb, xc, xd] 98) = W0 := ⟨_, rfl⟩
  obtain ⟨h0, hS, hB⟩ := laid1 w (.cells #[x0, .slice ab names.length cb, x2, x3, x4, x5, x6, x7, x8, x9, xa, xb, xc, xd] 98)
  rw [hW0] at h0 hS hB
  have y1 := (can14 h0).1.2.1
  have HB0 := Lib.hid hB
  clear h0 hS hB
  go_enter Tryd.func119, Tryd.ntmps119
  go_wp2
  go_loopw [5, 12] (fun s i wr => ∃ k : Nat, k ≤ names.length ∧ i = .int .i64 k ∧ s = .int .i64 ((Que.setFrom l 0 (names.take k) : Nat) : Int) ∧ Below w.heap.size w wr) (fun _ i _ => names.length - (intOf i).toNat)
  case atStart => exact ⟨0, Nat.zero_le _, rfl, rfl, HB0.out⟩
  case round =>
    obtain ⟨k, hk, rfl, rfl, hB⟩ := hrel
    have HB := Lib.hid hB
    clear hB
    by_cases hlt : k < names.length
    · obtain ⟨b, off, rfl, hb, hck⟩ := HC.out k hlt
      have hki : (k : Int) < (names.length : Int) := by omega
      have hck' := (HB.out.cell (p := ⟨b, off + k, none⟩) hb).trans hck
      have HST := Lib.hid (Que.setTo_succ l names k hlt)
      have hsl := Que.setTo_lt l names k hk
      have hor := or_pow k (by omega) _ hsl
      obtain ⟨p1, p2, p3⟩ := pow_small k (by omega)
      have HCALL := Lib.hid (HCT.out wr HB.out names[k])
      clear hck
      generalize names[k] = y at *
      generalize Que.setFrom l 0 (names.take k) = s at *
      generalize Tess.hasW l y = hb' at *
      obtain ⟨P, hP⟩ : ∃ P, P = 2 ^ k := ⟨_, rfl⟩
      rw [← hP] at p1 p2 p3 hor HST hsl
      have hs1 : s ≤ 1024 := by omega
      clear hP hsl
      cases hb'
      · go_wp2_with (go_at_call 95; refine HCALL.out.mono ?_; rintro e w2 ⟨rfl, rfl⟩)
        go_roundw
        case rel => exact ⟨k + 1, by omega, by go_num, by rw [HST.out]; simp, HB.out⟩
        case measure => simp [intOf]; omega
      · go_wp2_with (go_at_call 95; refine HCALL.out.mono ?_; rintro e w2 ⟨rfl, rfl⟩)
        go_roundw
        case rel => exact ⟨k + 1, by omega, by go_num, by rw [HST.out]; simp, HB.out⟩
        case measure => simp [intOf]; omega
    · have hki : ¬ (k : Int) < (names.length : Int) := by omega
      have HE := Lib.hid (show Que.setOf names l = Que.setFrom l 0 (names.take k) by rw [List.take_of_length_le (by omega)]; rfl)
      go_wp2
      go_ret
      exact ⟨ret_int (by rw [HE.out]), HB.out⟩
end Go.Proofs.YtdfnolgcdododaaDoor
namespace Go.Proofs.YtdfnolgcdododaaDoor
open Go.RowKit Go.Sort
open Tess (Fil Que)

/-- What the closure of isAll does. -/
theorem one_agg (is : Bool) (c0 c1 p1 : Value) (B : Nat) (W : World) (hB : B < W.heap.size) (hf : W.cell? ⟨B, 0, none⟩ = some (.func (.func 104) #[] #[p1]))
    (h : ∀ W', Below W.heap.size W W' → Calls Tryd.prog 104 #[(.agg #[c0, c1]), p1] W' fun e w' => e = .returned (.bool is) ∧ Below W'.heap.size W' w') :
    Calls Tryd.prog 124 #[(.agg #[c0, c1]), .pointer (some ⟨B, 0, none⟩)] W fun e w' => e = .returned (.bool (!is)) ∧ Below W.heap.size W w' := by
  have hB1 : Below W.heap.size W (W.alloc (.cells #[c0, c1] 93)) := (Below.refl _ _).alloc (Nat.le_refl _) _
  have HC := Lib.hid (h _ hB1)
  have HB1 := Lib.hid hB1
  have hf1 := (hB1.cell (p := ⟨B, 0, none⟩) hB).trans hf
  clear h hB1 hf
  go_enter Tryd.func124, Tryd.ntmps124
  go_wp2_with (go_at_call 104; refine HC.out.mono ?_; rintro e w2 ⟨rfl, hb2⟩; have HB2 := Lib.hid (Bt HB1.out hb2); clear hb2)
  go_ret
  exact ⟨rfl, HB2.out⟩
/-- A list, at which a closure answers. -/
def aggList (q : Tess.Agg → Bool) (l : List (Tess.Agg)) (a : Option Addr) (p1 : Value) (w : World) : Prop :=
  ∀ k (hk : k < l.length), ∃ b off, a = some ⟨b, off, none⟩ ∧ b < w.heap.size ∧ ∃ c0 c1, (w.cell? ⟨b, off + k * 2, none⟩ = some c0 ∧ w.cell? ⟨b, off + k * 2 + 1, none⟩ = some c1) ∧
    ∀ W, Below w.heap.size w W → Calls Tryd.prog 124 #[(.agg #[c0, c1]), p1] W fun e w' => e = .returned (.bool (q l[k])) ∧ Below W.heap.size W w'
set_option maxHeartbeats 1000000 in
theorem index_agg (q : Tess.Agg → Bool) (l : List (Tess.Agg)) (a : Option Addr) (cap : Nat) (p1 : Value) (w : World) (hlen : l.length ≤ maxLen) (hc : aggList q l a p1 w) :
    Calls Tryd.prog 134 #[.slice a l.length cap, .func (.func 124) #[] #[p1]] w fun e w' => ∃ i : Int, e = .returned (.int .i64 i) ∧ decide (0 ≤ i) = l.any q ∧ Below w.heap.size w w' := by
  have HC := Lib.hid hc
  have hmx : l.length ≤ 9223372036854775807 := by unfold maxLen at hlen; omega
  clear hc hlen
  go_enter Tryd.func134, Tryd.ntmps134
  go_wp2
  go_loopw [8] (fun i wr => ∃ k : Nat, k ≤ l.length ∧ i = .int .i64 k ∧ (∀ j (hj : j < l.length), j < k → q l[j] = false) ∧ Below w.heap.size w wr) (fun i _ => l.length - (intOf i).toNat)
  case atStart => exact ⟨0, Nat.zero_le _, rfl, fun j _ h => absurd h (Nat.not_lt_zero _), Below.refl _ _⟩
  case round =>
    obtain ⟨k, hk, rfl, hall, hB⟩ := hrel
    have HA := Lib.hid hall
    have HB := Lib.hid hB
    clear hall hB
    by_cases hlt : k < l.length
    · obtain ⟨b, off, rfl, hb, c0, c1, ⟨g0, g1⟩, hcall⟩ := HC.out k hlt
      have e0 : wr.cell? ⟨b, off + k * 2, none⟩ = some c0 := (HB.out.cell (p := ⟨b, off + k * 2, none⟩) hb).trans g0
      have e1 : wr.cell? ⟨b, off + k * 2 + 1, none⟩ = some c1 := (HB.out.cell (p := ⟨b, off + k * 2 + 1, none⟩) hb).trans g1
      have HX := Lib.hid hcall
      clear g0 g1 hcall
      have hki : (k : Int) < (l.length : Int) := by omega
      cases hyx : q l[k]
      · rw [hyx] at HX
        have HY := Lib.hid hyx
        clear hyx
        go_wp2_with (go_at_call 124; refine (HX.out _ HB.out).mono ?_; rintro e w2 ⟨rfl, hb2⟩; have HB2 := Lib.hid hb2; clear hb2)
        go_roundw
        case rel =>
          refine ⟨k + 1, by omega, by go_num, fun j hj hjk => ?_, Bt HB.out HB2.out⟩
          by_cases hjk' : j < k
          · exact HA.out j hj hjk'
          · obtain rfl : j = k := by omega
            exact HY.out
        case measure => simp [intOf]; omega
      · rw [hyx] at HX
        have HY := Lib.hid hyx
        clear hyx
        go_wp2_with (go_at_call 124; refine (HX.out _ HB.out).mono ?_; rintro e w2 ⟨rfl, hb2⟩; have HB2 := Lib.hid hb2; clear hb2)
        go_ret
        refine ⟨(k : Int), rfl, ?_, Bt HB.out HB2.out⟩
        rw [decide_eq_true (by omega), eq_comm, List.any_eq_true]
        exact ⟨l[k], List.getElem_mem hlt, HY.out⟩
    · have hki : ¬ (k : Int) < (l.length : Int) := by omega
      go_wp2
      go_ret
      refine ⟨-1, rfl, ?_, HB.out⟩
      rw [decide_eq_false (by omega), eq_comm, List.any_eq_false]
      intro y hy
      obtain ⟨j, hj, rfl⟩ := List.getElem_of_mem hy
      rw [HA.out j hj (by omega)]; simp
theorem contains_agg (q : Tess.Agg → Bool) (l : List (Tess.Agg)) (a : Option Addr) (cap : Nat) (p1 : Value) (w : World) (hlen : l.length ≤ maxLen) (hc : aggList q l a p1 w) :
    Calls Tryd.prog 123 #[.slice a l.length cap, .func (.func 124) #[] #[p1]] w fun e w' => e = .returned (.bool (l.any q)) ∧ Below w.heap.size w w' := by
  have HI := Lib.hid (index_agg q l a cap p1 w hlen hc)
  clear hc
  go_enter Tryd.func123, Tryd.ntmps123
  go_wp2_with (go_at_call 134; refine HI.out.mono ?_; rintro e w2 ⟨i, rfl, hi, hB⟩; have HH := Lib.hid hi; have HB := Lib.hid hB; clear hi hB)
  go_ret
  refine ⟨?_, HB.out⟩
  rw [← HH.out]; rfl
theorem all_agg (is : Tess.Agg → Bool) (l : List (Tess.Agg)) (a : Option Addr) (cap : Nat) (p1 : Value) (w : World) (hlen : l.length ≤ maxLen)
    (hc : ∀ k (hk : k < l.length), ∃ b off, a = some ⟨b, off, none⟩ ∧ b < w.heap.size ∧ ∃ c0 c1, (w.cell? ⟨b, off + k * 2, none⟩ = some c0 ∧ w.cell? ⟨b, off + k * 2 + 1, none⟩ = some c1) ∧
      ∀ W, Below w.heap.size w W → Calls Tryd.prog 104 #[(.agg #[c0, c1]), p1] W fun e w' => e = .returned (.bool (is l[k])) ∧ Below W.heap.size W w') :
    Calls Tryd.prog 103 #[.slice a l.length cap, .func (.func 104) #[] #[p1]] w fun e w' => e = .returned (.bool (l.all is)) ∧ Below w.heap.size w w' := by
  have hB1 : Below w.heap.size w (w.alloc (.cells #[.func (.func 104) #[] #[p1]] 149)) := (Below.refl _ _).alloc (Nat.le_refl _) _
  have hbox : (w.alloc (.cells #[.func (.func 104) #[] #[p1]] 149)).heap[w.heap.size]? = some (.cells #[.func (.func 104) #[] #[p1]] 149 (0, 0)) := heap_alloc_new _ _
  have hsz : (w.alloc (.cells #[.func (.func 104) #[] #[p1]] 149)).heap.size = w.heap.size + 1 := by simp
  have HK := Lib.hid (contains_agg (fun x => !is x) l a cap (.pointer (some ⟨w.heap.size, 0, none⟩)) (w.alloc (.cells #[.func (.func 104) #[] #[p1]] 149)) hlen fun k hk => by
    obtain ⟨b, off, ha, hb, c0, c1, ⟨g0, g1⟩, hcall⟩ := hc k hk
    refine ⟨b, off, ha, Nat.lt_of_lt_of_le hb hB1.size, c0, c1, ⟨(hB1.cell (p := ⟨b, off + k * 2, none⟩) hb).trans g0, (hB1.cell (p := ⟨b, off + k * 2 + 1, none⟩) hb).trans g1⟩, fun W hW => ?_⟩
    refine one_agg _ c0 c1 p1 w.heap.size W (by have := hW.size; omega) ?_ fun W' hW' => hcall W' ((hB1.trans (hW.mono (by omega))).trans (hW'.mono (by have := hW.size; omega)))
    exact cell_of_row _ _ 0 _ _ _ ((hW.block _ (by omega)).trans hbox))
  have HB1 := Lib.hid hB1
  have hany : (!l.any fun x => !is x) = l.all is := by simp [List.all_eq_not_any_not]
  have HANY := Lib.hid hany
  clear hc hB1 hbox hsz hany
  go_enter Tryd.func103, Tryd.ntmps103
  go_wp2_with (go_at_call 123; refine HK.out.mono ?_; rintro e w2 ⟨rfl, hB⟩; have HB := Lib.hid (Bt HB1.out hB); clear hB)
  go_ret
  rw [← HANY.out]
  exact ⟨rfl, HB.out⟩

/-- What the closure of isAll does. -/
theorem one_name (is : Bool) (c0 p1 : Value) (B : Nat) (W : World) (_hB : B < W.heap.size) (hf : W.cell? ⟨B, 0, none⟩ = some (.func (.func 108) #[] #[p1]))
    (h : ∀ W', Below W.heap.size W W' → Calls Tryd.prog 108 #[c0, p1] W' fun e w' => e = .returned (.bool is) ∧ Below W'.heap.size W' w') :
    Calls Tryd.prog 126 #[c0, .pointer (some ⟨B, 0, none⟩)] W fun e w' => e = .returned (.bool (!is)) ∧ Below W.heap.size W w' := by
  have HC := Lib.hid (h W (Below.refl _ _))
  have HB1 := Lib.hid (Below.refl W.heap.size W)
  have hf1 := hf
  clear h hf
  go_enter Tryd.func126, Tryd.ntmps126
  go_wp2_with (go_at_call 108; refine HC.out.mono ?_; rintro e w2 ⟨rfl, hb2⟩; have HB2 := Lib.hid (Bt HB1.out hb2); clear hb2)
  go_ret
  exact ⟨rfl, HB2.out⟩
/-- A list, at which a closure answers. -/
def nameList (q : ByteArray → Bool) (l : List (ByteArray)) (a : Option Addr) (p1 : Value) (w : World) : Prop :=
  ∀ k (hk : k < l.length), ∃ b off, a = some ⟨b, off, none⟩ ∧ b < w.heap.size ∧ ∃ c0, (w.cell? ⟨b, off + k, none⟩ = some c0) ∧
    ∀ W, Below w.heap.size w W → Calls Tryd.prog 126 #[c0, p1] W fun e w' => e = .returned (.bool (q l[k])) ∧ Below W.heap.size W w'
set_option maxHeartbeats 1000000 in
theorem index_name (q : ByteArray → Bool) (l : List (ByteArray)) (a : Option Addr) (cap : Nat) (p1 : Value) (w : World) (hlen : l.length ≤ maxLen) (hc : nameList q l a p1 w) :
    Calls Tryd.prog 120 #[.slice a l.length cap, .func (.func 126) #[] #[p1]] w fun e w' => ∃ i : Int, e = .returned (.int .i64 i) ∧ decide (0 ≤ i) = l.any q ∧ Below w.heap.size w w' := by
  have HC := Lib.hid hc
  have hmx : l.length ≤ 9223372036854775807 := by unfold maxLen at hlen; omega
  clear hc hlen
  go_enter Tryd.func120, Tryd.ntmps120
  go_wp2
  go_loopw [8] (fun i wr => ∃ k : Nat, k ≤ l.length ∧ i = .int .i64 k ∧ (∀ j (hj : j < l.length), j < k → q l[j] = false) ∧ Below w.heap.size w wr) (fun i _ => l.length - (intOf i).toNat)
  case atStart => exact ⟨0, Nat.zero_le _, rfl, fun j _ h => absurd h (Nat.not_lt_zero _), Below.refl _ _⟩
  case round =>
    obtain ⟨k, hk, rfl, hall, hB⟩ := hrel
    have HA := Lib.hid hall
    have HB := Lib.hid hB
    clear hall hB
    by_cases hlt : k < l.length
    · obtain ⟨b, off, rfl, hb, c0, g0, hcall⟩ := HC.out k hlt
      have e0 : wr.cell? ⟨b, off + k, none⟩ = some c0 := (HB.out.cell (p := ⟨b, off + k, none⟩) hb).trans g0
      have HX := Lib.hid hcall
      clear g0 hcall
      have hki : (k : Int) < (l.length : Int) := by omega
      cases hyx : q l[k]
      · rw [hyx] at HX
        have HY := Lib.hid hyx
        clear hyx
        go_wp2_with (go_at_call 126; refine (HX.out _ HB.out).mono ?_; rintro e w2 ⟨rfl, hb2⟩; have HB2 := Lib.hid hb2; clear hb2)
        go_roundw
        case rel =>
          refine ⟨k + 1, by omega, by go_num, fun j hj hjk => ?_, Bt HB.out HB2.out⟩
          by_cases hjk' : j < k
          · exact HA.out j hj hjk'
          · obtain rfl : j = k := by omega
            exact HY.out
        case measure => simp [intOf]; omega
      · rw [hyx] at HX
        have HY := Lib.hid hyx
        clear hyx
        go_wp2_with (go_at_call 126; refine (HX.out _ HB.out).mono ?_; rintro e w2 ⟨rfl, hb2⟩; have HB2 := Lib.hid hb2; clear hb2)
        go_ret
        refine ⟨(k : Int), rfl, ?_, Bt HB.out HB2.out⟩
        rw [decide_eq_true (by omega), eq_comm, List.any_eq_true]
        exact ⟨l[k], List.getElem_mem hlt, HY.out⟩
    · have hki : ¬ (k : Int) < (l.length : Int) := by omega
      go_wp2
      go_ret
      refine ⟨-1, rfl, ?_, HB.out⟩
      rw [decide_eq_false (by omega), eq_comm, List.any_eq_false]
      intro y hy
      obtain ⟨j, hj, rfl⟩ := List.getElem_of_mem hy
      rw [HA.out j hj (by omega)]; simp
theorem contains_name (q : ByteArray → Bool) (l : List (ByteArray)) (a : Option Addr) (cap : Nat) (p1 : Value) (w : World) (hlen : l.length ≤ maxLen) (hc : nameList q l a p1 w) :
    Calls Tryd.prog 90 #[.slice a l.length cap, .func (.func 126) #[] #[p1]] w fun e w' => e = .returned (.bool (l.any q)) ∧ Below w.heap.size w w' := by
  have HI := Lib.hid (index_name q l a cap p1 w hlen hc)
  clear hc
  go_enter Tryd.func90, Tryd.ntmps90
  go_wp2_with (go_at_call 120; refine HI.out.mono ?_; rintro e w2 ⟨i, rfl, hi, hB⟩; have HH := Lib.hid hi; have HB := Lib.hid hB; clear hi hB)
  go_ret
  refine ⟨?_, HB.out⟩
  rw [← HH.out]; rfl
theorem all_name (is : ByteArray → Bool) (l : List (ByteArray)) (a : Option Addr) (cap : Nat) (p1 : Value) (w : World) (hlen : l.length ≤ maxLen)
    (hc : ∀ k (hk : k < l.length), ∃ b off, a = some ⟨b, off, none⟩ ∧ b < w.heap.size ∧ ∃ c0, (w.cell? ⟨b, off + k, none⟩ = some c0) ∧
      ∀ W, Below w.heap.size w W → Calls Tryd.prog 108 #[c0, p1] W fun e w' => e = .returned (.bool (is l[k])) ∧ Below W.heap.size W w') :
    Calls Tryd.prog 107 #[.slice a l.length cap, .func (.func 108) #[] #[p1]] w fun e w' => e = .returned (.bool (l.all is)) ∧ Below w.heap.size w w' := by
  have hB1 : Below w.heap.size w (w.alloc (.cells #[.func (.func 108) #[] #[p1]] 117)) := (Below.refl _ _).alloc (Nat.le_refl _) _
  have hbox : (w.alloc (.cells #[.func (.func 108) #[] #[p1]] 117)).heap[w.heap.size]? = some (.cells #[.func (.func 108) #[] #[p1]] 117 (0, 0)) := heap_alloc_new _ _
  have hsz : (w.alloc (.cells #[.func (.func 108) #[] #[p1]] 117)).heap.size = w.heap.size + 1 := by simp
  have HK := Lib.hid (contains_name (fun x => !is x) l a cap (.pointer (some ⟨w.heap.size, 0, none⟩)) (w.alloc (.cells #[.func (.func 108) #[] #[p1]] 117)) hlen fun k hk => by
    obtain ⟨b, off, ha, hb, c0, g0, hcall⟩ := hc k hk
    refine ⟨b, off, ha, Nat.lt_of_lt_of_le hb hB1.size, c0, (hB1.cell (p := ⟨b, off + k, none⟩) hb).trans g0, fun W hW => ?_⟩
    refine one_name _ c0 p1 w.heap.size W (by have := hW.size; omega) ?_ fun W' hW' => hcall W' ((hB1.trans (hW.mono (by omega))).trans (hW'.mono (by have := hW.size; omega)))
    exact cell_of_row _ _ 0 _ _ _ ((hW.block _ (by omega)).trans hbox))
  have HB1 := Lib.hid hB1
  have hany : (!l.any fun x => !is x) = l.all is := by simp [List.all_eq_not_any_not]
  have HANY := Lib.hid hany
  clear hc hB1 hbox hsz hany
  go_enter Tryd.func107, Tryd.ntmps107
  go_wp2_with (go_at_call 90; refine HK.out.mono ?_; rintro e w2 ⟨rfl, hB⟩; have HB := Lib.hid (Bt HB1.out hB); clear hB)
  go_ret
  rw [← HANY.out]
  exact ⟨rfl, HB.out⟩

/-- What the closure of isAll does. -/
theorem one_set (is : Bool) (c0 p1 : Value) (B : Nat) (W : World) (_hB : B < W.heap.size) (hf : W.cell? ⟨B, 0, none⟩ = some (.func (.func 110) #[] #[p1]))
    (h : ∀ W', Below W.heap.size W W' → Calls Tryd.prog 110 #[c0, p1] W' fun e w' => e = .returned (.bool is) ∧ Below W'.heap.size W' w') :
    Calls Tryd.prog 128 #[c0, .pointer (some ⟨B, 0, none⟩)] W fun e w' => e = .returned (.bool (!is)) ∧ Below W.heap.size W w' := by
  have HC := Lib.hid (h W (Below.refl _ _))
  have HB1 := Lib.hid (Below.refl W.heap.size W)
  have hf1 := hf
  clear h hf
  go_enter Tryd.func128, Tryd.ntmps128
  go_wp2_with (go_at_call 110; refine HC.out.mono ?_; rintro e w2 ⟨rfl, hb2⟩; have HB2 := Lib.hid (Bt HB1.out hb2); clear hb2)
  go_ret
  exact ⟨rfl, HB2.out⟩
/-- A list, at which a closure answers. -/
def setList (q : List ByteArray → Bool) (l : List (List ByteArray)) (a : Option Addr) (p1 : Value) (w : World) : Prop :=
  ∀ k (hk : k < l.length), ∃ b off, a = some ⟨b, off, none⟩ ∧ b < w.heap.size ∧ ∃ c0, (w.cell? ⟨b, off + k, none⟩ = some c0) ∧
    ∀ W, Below w.heap.size w W → Calls Tryd.prog 128 #[c0, p1] W fun e w' => e = .returned (.bool (q l[k])) ∧ Below W.heap.size W w'
set_option maxHeartbeats 1000000 in
theorem index_set (q : List ByteArray → Bool) (l : List (List ByteArray)) (a : Option Addr) (cap : Nat) (p1 : Value) (w : World) (hlen : l.length ≤ maxLen) (hc : setList q l a p1 w) :
    Calls Tryd.prog 135 #[.slice a l.length cap, .func (.func 128) #[] #[p1]] w fun e w' => ∃ i : Int, e = .returned (.int .i64 i) ∧ decide (0 ≤ i) = l.any q ∧ Below w.heap.size w w' := by
  have HC := Lib.hid hc
  have hmx : l.length ≤ 9223372036854775807 := by unfold maxLen at hlen; omega
  clear hc hlen
  go_enter Tryd.func135, Tryd.ntmps135
  go_wp2
  go_loopw [8] (fun i wr => ∃ k : Nat, k ≤ l.length ∧ i = .int .i64 k ∧ (∀ j (hj : j < l.length), j < k → q l[j] = false) ∧ Below w.heap.size w wr) (fun i _ => l.length - (intOf i).toNat)
  case atStart => exact ⟨0, Nat.zero_le _, rfl, fun j _ h => absurd h (Nat.not_lt_zero _), Below.refl _ _⟩
  case round =>
    obtain ⟨k, hk, rfl, hall, hB⟩ := hrel
    have HA := Lib.hid hall
    have HB := Lib.hid hB
    clear hall hB
    by_cases hlt : k < l.length
    · obtain ⟨b, off, rfl, hb, c0, g0, hcall⟩ := HC.out k hlt
      have e0 : wr.cell? ⟨b, off + k, none⟩ = some c0 := (HB.out.cell (p := ⟨b, off + k, none⟩) hb).trans g0
      have HX := Lib.hid hcall
      clear g0 hcall
      have hki : (k : Int) < (l.length : Int) := by omega
      cases hyx : q l[k]
      · rw [hyx] at HX
        have HY := Lib.hid hyx
        clear hyx
        go_wp2_with (go_at_call 128; refine (HX.out _ HB.out).mono ?_; rintro e w2 ⟨rfl, hb2⟩; have HB2 := Lib.hid hb2; clear hb2)
        go_roundw
        case rel =>
          refine ⟨k + 1, by omega, by go_num, fun j hj hjk => ?_, Bt HB.out HB2.out⟩
          by_cases hjk' : j < k
          · exact HA.out j hj hjk'
          · obtain rfl : j = k := by omega
            exact HY.out
        case measure => simp [intOf]; omega
      · rw [hyx] at HX
        have HY := Lib.hid hyx
        clear hyx
        go_wp2_with (go_at_call 128; refine (HX.out _ HB.out).mono ?_; rintro e w2 ⟨rfl, hb2⟩; have HB2 := Lib.hid hb2; clear hb2)
        go_ret
        refine ⟨(k : Int), rfl, ?_, Bt HB.out HB2.out⟩
        rw [decide_eq_true (by omega), eq_comm, List.any_eq_true]
        exact ⟨l[k], List.getElem_mem hlt, HY.out⟩
    · have hki : ¬ (k : Int) < (l.length : Int) := by omega
      go_wp2
      go_ret
      refine ⟨-1, rfl, ?_, HB.out⟩
      rw [decide_eq_false (by omega), eq_comm, List.any_eq_false]
      intro y hy
      obtain ⟨j, hj, rfl⟩ := List.getElem_of_mem hy
      rw [HA.out j hj (by omega)]; simp
theorem contains_set (q : List ByteArray → Bool) (l : List (List ByteArray)) (a : Option Addr) (cap : Nat) (p1 : Value) (w : World) (hlen : l.length ≤ maxLen) (hc : setList q l a p1 w) :
    Calls Tryd.prog 127 #[.slice a l.length cap, .func (.func 128) #[] #[p1]] w fun e w' => e = .returned (.bool (l.any q)) ∧ Below w.heap.size w w' := by
  have HI := Lib.hid (index_set q l a cap p1 w hlen hc)
  clear hc
  go_enter Tryd.func127, Tryd.ntmps127
  go_wp2_with (go_at_call 135; refine HI.out.mono ?_; rintro e w2 ⟨i, rfl, hi, hB⟩; have HH := Lib.hid hi; have HB := Lib.hid hB; clear hi hB)
  go_ret
  refine ⟨?_, HB.out⟩
  rw [← HH.out]; rfl
theorem all_set (is : List ByteArray → Bool) (l : List (List ByteArray)) (a : Option Addr) (cap : Nat) (p1 : Value) (w : World) (hlen : l.length ≤ maxLen)
    (hc : ∀ k (hk : k < l.length), ∃ b off, a = some ⟨b, off, none⟩ ∧ b < w.heap.size ∧ ∃ c0, (w.cell? ⟨b, off + k, none⟩ = some c0) ∧
      ∀ W, Below w.heap.size w W → Calls Tryd.prog 110 #[c0, p1] W fun e w' => e = .returned (.bool (is l[k])) ∧ Below W.heap.size W w') :
    Calls Tryd.prog 109 #[.slice a l.length cap, .func (.func 110) #[] #[p1]] w fun e w' => e = .returned (.bool (l.all is)) ∧ Below w.heap.size w w' := by
  have hB1 : Below w.heap.size w (w.alloc (.cells #[.func (.func 110) #[] #[p1]] 151)) := (Below.refl _ _).alloc (Nat.le_refl _) _
  have hbox : (w.alloc (.cells #[.func (.func 110) #[] #[p1]] 151)).heap[w.heap.size]? = some (.cells #[.func (.func 110) #[] #[p1]] 151 (0, 0)) := heap_alloc_new _ _
  have hsz : (w.alloc (.cells #[.func (.func 110) #[] #[p1]] 151)).heap.size = w.heap.size + 1 := by simp
  have HK := Lib.hid (contains_set (fun x => !is x) l a cap (.pointer (some ⟨w.heap.size, 0, none⟩)) (w.alloc (.cells #[.func (.func 110) #[] #[p1]] 151)) hlen fun k hk => by
    obtain ⟨b, off, ha, hb, c0, g0, hcall⟩ := hc k hk
    refine ⟨b, off, ha, Nat.lt_of_lt_of_le hb hB1.size, c0, (hB1.cell (p := ⟨b, off + k, none⟩) hb).trans g0, fun W hW => ?_⟩
    refine one_set _ c0 p1 w.heap.size W (by have := hW.size; omega) ?_ fun W' hW' => hcall W' ((hB1.trans (hW.mono (by omega))).trans (hW'.mono (by have := hW.size; omega)))
    exact cell_of_row _ _ 0 _ _ _ ((hW.block _ (by omega)).trans hbox))
  have HB1 := Lib.hid hB1
  have hany : (!l.any fun x => !is x) = l.all is := by simp [List.all_eq_not_any_not]
  have HANY := Lib.hid hany
  clear hc hB1 hbox hsz hany
  go_enter Tryd.func109, Tryd.ntmps109
  go_wp2_with (go_at_call 127; refine HK.out.mono ?_; rintro e w2 ⟨rfl, hB⟩; have HB := Lib.hid (Bt HB1.out hB); clear hB)
  go_ret
  rw [← HANY.out]
  exact ⟨rfl, HB.out⟩

/-- What the closure of isAll does. -/
theorem one_cond (is : Bool) (c0 c1 c2 p1 : Value) (B : Nat) (W : World) (hB : B < W.heap.size) (hf : W.cell? ⟨B, 0, none⟩ = some (.func (.func 112) #[] #[p1]))
    (h : ∀ W', Below W.heap.size W W' → Calls Tryd.prog 112 #[(.agg #[c0, c1, c2]), p1] W' fun e w' => e = .returned (.bool is) ∧ Below W'.heap.size W' w') :
    Calls Tryd.prog 130 #[(.agg #[c0, c1, c2]), .pointer (some ⟨B, 0, none⟩)] W fun e w' => e = .returned (.bool (!is)) ∧ Below W.heap.size W w' := by
  have hB1 : Below W.heap.size W (W.alloc (.cells #[c0, c1, c2] 154)) := (Below.refl _ _).alloc (Nat.le_refl _) _
  have HC := Lib.hid (h _ hB1)
  have HB1 := Lib.hid hB1
  have hf1 := (hB1.cell (p := ⟨B, 0, none⟩) hB).trans hf
  clear h hB1 hf
  go_enter Tryd.func130, Tryd.ntmps130
  go_wp2_with (go_at_call 112; refine HC.out.mono ?_; rintro e w2 ⟨rfl, hb2⟩; have HB2 := Lib.hid (Bt HB1.out hb2); clear hb2)
  go_ret
  exact ⟨rfl, HB2.out⟩
/-- A list, at which a closure answers. -/
def condList (q : Tess.Cond → Bool) (l : List (Tess.Cond)) (a : Option Addr) (p1 : Value) (w : World) : Prop :=
  ∀ k (hk : k < l.length), ∃ b off, a = some ⟨b, off, none⟩ ∧ b < w.heap.size ∧ ∃ c0 c1 c2, (w.cell? ⟨b, off + k * 3, none⟩ = some c0 ∧ w.cell? ⟨b, off + k * 3 + 1, none⟩ = some c1 ∧ w.cell? ⟨b, off + k * 3 + 2, none⟩ = some c2) ∧
    ∀ W, Below w.heap.size w W → Calls Tryd.prog 130 #[(.agg #[c0, c1, c2]), p1] W fun e w' => e = .returned (.bool (q l[k])) ∧ Below W.heap.size W w'
set_option maxHeartbeats 1000000 in
theorem index_cond (q : Tess.Cond → Bool) (l : List (Tess.Cond)) (a : Option Addr) (cap : Nat) (p1 : Value) (w : World) (hlen : l.length ≤ maxLen) (hc : condList q l a p1 w) :
    Calls Tryd.prog 136 #[.slice a l.length cap, .func (.func 130) #[] #[p1]] w fun e w' => ∃ i : Int, e = .returned (.int .i64 i) ∧ decide (0 ≤ i) = l.any q ∧ Below w.heap.size w w' := by
  have HC := Lib.hid hc
  have hmx : l.length ≤ 9223372036854775807 := by unfold maxLen at hlen; omega
  clear hc hlen
  go_enter Tryd.func136, Tryd.ntmps136
  go_wp2
  go_loopw [8] (fun i wr => ∃ k : Nat, k ≤ l.length ∧ i = .int .i64 k ∧ (∀ j (hj : j < l.length), j < k → q l[j] = false) ∧ Below w.heap.size w wr) (fun i _ => l.length - (intOf i).toNat)
  case atStart => exact ⟨0, Nat.zero_le _, rfl, fun j _ h => absurd h (Nat.not_lt_zero _), Below.refl _ _⟩
  case round =>
    obtain ⟨k, hk, rfl, hall, hB⟩ := hrel
    have HA := Lib.hid hall
    have HB := Lib.hid hB
    clear hall hB
    by_cases hlt : k < l.length
    · obtain ⟨b, off, rfl, hb, c0, c1, c2, ⟨g0, g1, g2⟩, hcall⟩ := HC.out k hlt
      have e0 : wr.cell? ⟨b, off + k * 3, none⟩ = some c0 := (HB.out.cell (p := ⟨b, off + k * 3, none⟩) hb).trans g0
      have e1 : wr.cell? ⟨b, off + k * 3 + 1, none⟩ = some c1 := (HB.out.cell (p := ⟨b, off + k * 3 + 1, none⟩) hb).trans g1
      have e2 : wr.cell? ⟨b, off + k * 3 + 2, none⟩ = some c2 := (HB.out.cell (p := ⟨b, off + k * 3 + 2, none⟩) hb).trans g2
      have HX := Lib.hid hcall
      clear g0 g1 g2 hcall
      have hki : (k : Int) < (l.length : Int) := by omega
      cases hyx : q l[k]
      · rw [hyx] at HX
        have HY := Lib.hid hyx
        clear hyx
        go_wp2_with (go_at_call 130; refine (HX.out _ HB.out).mono ?_; rintro e w2 ⟨rfl, hb2⟩; have HB2 := Lib.hid hb2; clear hb2)
        go_roundw
        case rel =>
          refine ⟨k + 1, by omega, by go_num, fun j hj hjk => ?_, Bt HB.out HB2.out⟩
          by_cases hjk' : j < k
          · exact HA.out j hj hjk'
          · obtain rfl : j = k := by omega
            exact HY.out
        case measure => simp [intOf]; omega
      · rw [hyx] at HX
        have HY := Lib.hid hyx
        clear hyx
        go_wp2_with (go_at_call 130; refine (HX.out _ HB.out).mono ?_; rintro e w2 ⟨rfl, hb2⟩; have HB2 := Lib.hid hb2; clear hb2)
        go_ret
        refine ⟨(k : Int), rfl, ?_, Bt HB.out HB2.out⟩
        rw [decide_eq_true (by omega), eq_comm, List.any_eq_true]
        exact ⟨l[k], List.getElem_mem hlt, HY.out⟩
    · have hki : ¬ (k : Int) < (l.length : Int) := by omega
      go_wp2
      go_ret
      refine ⟨-1, rfl, ?_, HB.out⟩
      rw [decide_eq_false (by omega), eq_comm, List.any_eq_false]
      intro y hy
      obtain ⟨j, hj, rfl⟩ := List.getElem_of_mem hy
      rw [HA.out j hj (by omega)]; simp
theorem contains_cond (q : Tess.Cond → Bool) (l : List (Tess.Cond)) (a : Option Addr) (cap : Nat) (p1 : Value) (w : World) (hlen : l.length ≤ maxLen) (hc : condList q l a p1 w) :
    Calls Tryd.prog 129 #[.slice a l.length cap, .func (.func 130) #[] #[p1]] w fun e w' => e = .returned (.bool (l.any q)) ∧ Below w.heap.size w w' := by
  have HI := Lib.hid (index_cond q l a cap p1 w hlen hc)
  clear hc
  go_enter Tryd.func129, Tryd.ntmps129
  go_wp2_with (go_at_call 136; refine HI.out.mono ?_; rintro e w2 ⟨i, rfl, hi, hB⟩; have HH := Lib.hid hi; have HB := Lib.hid hB; clear hi hB)
  go_ret
  refine ⟨?_, HB.out⟩
  rw [← HH.out]; rfl
theorem all_cond (is : Tess.Cond → Bool) (l : List (Tess.Cond)) (a : Option Addr) (cap : Nat) (p1 : Value) (w : World) (hlen : l.length ≤ maxLen)
    (hc : ∀ k (hk : k < l.length), ∃ b off, a = some ⟨b, off, none⟩ ∧ b < w.heap.size ∧ ∃ c0 c1 c2, (w.cell? ⟨b, off + k * 3, none⟩ = some c0 ∧ w.cell? ⟨b, off + k * 3 + 1, none⟩ = some c1 ∧ w.cell? ⟨b, off + k * 3 + 2, none⟩ = some c2) ∧
      ∀ W, Below w.heap.size w W → Calls Tryd.prog 112 #[(.agg #[c0, c1, c2]), p1] W fun e w' => e = .returned (.bool (is l[k])) ∧ Below W.heap.size W w') :
    Calls Tryd.prog 111 #[.slice a l.length cap, .func (.func 112) #[] #[p1]] w fun e w' => e = .returned (.bool (l.all is)) ∧ Below w.heap.size w w' := by
  have hB1 : Below w.heap.size w (w.alloc (.cells #[.func (.func 112) #[] #[p1]] 155)) := (Below.refl _ _).alloc (Nat.le_refl _) _
  have hbox : (w.alloc (.cells #[.func (.func 112) #[] #[p1]] 155)).heap[w.heap.size]? = some (.cells #[.func (.func 112) #[] #[p1]] 155 (0, 0)) := heap_alloc_new _ _
  have hsz : (w.alloc (.cells #[.func (.func 112) #[] #[p1]] 155)).heap.size = w.heap.size + 1 := by simp
  have HK := Lib.hid (contains_cond (fun x => !is x) l a cap (.pointer (some ⟨w.heap.size, 0, none⟩)) (w.alloc (.cells #[.func (.func 112) #[] #[p1]] 155)) hlen fun k hk => by
    obtain ⟨b, off, ha, hb, c0, c1, c2, ⟨g0, g1, g2⟩, hcall⟩ := hc k hk
    refine ⟨b, off, ha, Nat.lt_of_lt_of_le hb hB1.size, c0, c1, c2, ⟨(hB1.cell (p := ⟨b, off + k * 3, none⟩) hb).trans g0, (hB1.cell (p := ⟨b, off + k * 3 + 1, none⟩) hb).trans g1, (hB1.cell (p := ⟨b, off + k * 3 + 2, none⟩) hb).trans g2⟩, fun W hW => ?_⟩
    refine one_cond _ c0 c1 c2 p1 w.heap.size W (by have := hW.size; omega) ?_ fun W' hW' => hcall W' ((hB1.trans (hW.mono (by omega))).trans (hW'.mono (by have := hW.size; omega)))
    exact cell_of_row _ _ 0 _ _ _ ((hW.block _ (by omega)).trans hbox))
  have HB1 := Lib.hid hB1
  have hany : (!l.any fun x => !is x) = l.all is := by simp [List.all_eq_not_any_not]
  have HANY := Lib.hid hany
  clear hc hB1 hbox hsz hany
  go_enter Tryd.func111, Tryd.ntmps111
  go_wp2_with (go_at_call 129; refine HK.out.mono ?_; rintro e w2 ⟨rfl, hB⟩; have HB := Lib.hid (Bt HB1.out hB); clear hB)
  go_ret
  rw [← HANY.out]
  exact ⟨rfl, HB.out⟩

/-- What the closure of isAll does. -/
theorem one_key (is : Bool) (c0 c1 c2 p1 : Value) (B : Nat) (W : World) (hB : B < W.heap.size) (hf : W.cell? ⟨B, 0, none⟩ = some (.func (.func 114) #[] #[p1]))
    (h : ∀ W', Below W.heap.size W W' → Calls Tryd.prog 114 #[(.agg #[c0, c1, c2]), p1] W' fun e w' => e = .returned (.bool is) ∧ Below W'.heap.size W' w') :
    Calls Tryd.prog 132 #[(.agg #[c0, c1, c2]), .pointer (some ⟨B, 0, none⟩)] W fun e w' => e = .returned (.bool (!is)) ∧ Below W.heap.size W w' := by
  have hB1 : Below W.heap.size W (W.alloc (.cells #[c0, c1, c2] 158)) := (Below.refl _ _).alloc (Nat.le_refl _) _
  have HC := Lib.hid (h _ hB1)
  have HB1 := Lib.hid hB1
  have hf1 := (hB1.cell (p := ⟨B, 0, none⟩) hB).trans hf
  clear h hB1 hf
  go_enter Tryd.func132, Tryd.ntmps132
  go_wp2_with (go_at_call 114; refine HC.out.mono ?_; rintro e w2 ⟨rfl, hb2⟩; have HB2 := Lib.hid (Bt HB1.out hb2); clear hb2)
  go_ret
  exact ⟨rfl, HB2.out⟩
/-- A list, at which a closure answers. -/
def keyList (q : Tess.Key → Bool) (l : List (Tess.Key)) (a : Option Addr) (p1 : Value) (w : World) : Prop :=
  ∀ k (hk : k < l.length), ∃ b off, a = some ⟨b, off, none⟩ ∧ b < w.heap.size ∧ ∃ c0 c1 c2, (w.cell? ⟨b, off + k * 3, none⟩ = some c0 ∧ w.cell? ⟨b, off + k * 3 + 1, none⟩ = some c1 ∧ w.cell? ⟨b, off + k * 3 + 2, none⟩ = some c2) ∧
    ∀ W, Below w.heap.size w W → Calls Tryd.prog 132 #[(.agg #[c0, c1, c2]), p1] W fun e w' => e = .returned (.bool (q l[k])) ∧ Below W.heap.size W w'
set_option maxHeartbeats 1000000 in
theorem index_key (q : Tess.Key → Bool) (l : List (Tess.Key)) (a : Option Addr) (cap : Nat) (p1 : Value) (w : World) (hlen : l.length ≤ maxLen) (hc : keyList q l a p1 w) :
    Calls Tryd.prog 137 #[.slice a l.length cap, .func (.func 132) #[] #[p1]] w fun e w' => ∃ i : Int, e = .returned (.int .i64 i) ∧ decide (0 ≤ i) = l.any q ∧ Below w.heap.size w w' := by
  have HC := Lib.hid hc
  have hmx : l.length ≤ 9223372036854775807 := by unfold maxLen at hlen; omega
  clear hc hlen
  go_enter Tryd.func137, Tryd.ntmps137
  go_wp2
  go_loopw [8] (fun i wr => ∃ k : Nat, k ≤ l.length ∧ i = .int .i64 k ∧ (∀ j (hj : j < l.length), j < k → q l[j] = false) ∧ Below w.heap.size w wr) (fun i _ => l.length - (intOf i).toNat)
  case atStart => exact ⟨0, Nat.zero_le _, rfl, fun j _ h => absurd h (Nat.not_lt_zero _), Below.refl _ _⟩
  case round =>
    obtain ⟨k, hk, rfl, hall, hB⟩ := hrel
    have HA := Lib.hid hall
    have HB := Lib.hid hB
    clear hall hB
    by_cases hlt : k < l.length
    · obtain ⟨b, off, rfl, hb, c0, c1, c2, ⟨g0, g1, g2⟩, hcall⟩ := HC.out k hlt
      have e0 : wr.cell? ⟨b, off + k * 3, none⟩ = some c0 := (HB.out.cell (p := ⟨b, off + k * 3, none⟩) hb).trans g0
      have e1 : wr.cell? ⟨b, off + k * 3 + 1, none⟩ = some c1 := (HB.out.cell (p := ⟨b, off + k * 3 + 1, none⟩) hb).trans g1
      have e2 : wr.cell? ⟨b, off + k * 3 + 2, none⟩ = some c2 := (HB.out.cell (p := ⟨b, off + k * 3 + 2, none⟩) hb).trans g2
      have HX := Lib.hid hcall
      clear g0 g1 g2 hcall
      have hki : (k : Int) < (l.length : Int) := by omega
      cases hyx : q l[k]
      · rw [hyx] at HX
        have HY := Lib.hid hyx
        clear hyx
        go_wp2_with (go_at_call 132; refine (HX.out _ HB.out).mono ?_; rintro e w2 ⟨rfl, hb2⟩; have HB2 := Lib.hid hb2; clear hb2)
        go_roundw
        case rel =>
          refine ⟨k + 1, by omega, by go_num, fun j hj hjk => ?_, Bt HB.out HB2.out⟩
          by_cases hjk' : j < k
          · exact HA.out j hj hjk'
          · obtain rfl : j = k := by omega
            exact HY.out
        case measure => simp [intOf]; omega
      · rw [hyx] at HX
        have HY := Lib.hid hyx
        clear hyx
        go_wp2_with (go_at_call 132; refine (HX.out _ HB.out).mono ?_; rintro e w2 ⟨rfl, hb2⟩; have HB2 := Lib.hid hb2; clear hb2)
        go_ret
        refine ⟨(k : Int), rfl, ?_, Bt HB.out HB2.out⟩
        rw [decide_eq_true (by omega), eq_comm, List.any_eq_true]
        exact ⟨l[k], List.getElem_mem hlt, HY.out⟩
    · have hki : ¬ (k : Int) < (l.length : Int) := by omega
      go_wp2
      go_ret
      refine ⟨-1, rfl, ?_, HB.out⟩
      rw [decide_eq_false (by omega), eq_comm, List.any_eq_false]
      intro y hy
      obtain ⟨j, hj, rfl⟩ := List.getElem_of_mem hy
      rw [HA.out j hj (by omega)]; simp
theorem contains_key (q : Tess.Key → Bool) (l : List (Tess.Key)) (a : Option Addr) (cap : Nat) (p1 : Value) (w : World) (hlen : l.length ≤ maxLen) (hc : keyList q l a p1 w) :
    Calls Tryd.prog 131 #[.slice a l.length cap, .func (.func 132) #[] #[p1]] w fun e w' => e = .returned (.bool (l.any q)) ∧ Below w.heap.size w w' := by
  have HI := Lib.hid (index_key q l a cap p1 w hlen hc)
  clear hc
  go_enter Tryd.func131, Tryd.ntmps131
  go_wp2_with (go_at_call 137; refine HI.out.mono ?_; rintro e w2 ⟨i, rfl, hi, hB⟩; have HH := Lib.hid hi; have HB := Lib.hid hB; clear hi hB)
  go_ret
  refine ⟨?_, HB.out⟩
  rw [← HH.out]; rfl
theorem all_key (is : Tess.Key → Bool) (l : List (Tess.Key)) (a : Option Addr) (cap : Nat) (p1 : Value) (w : World) (hlen : l.length ≤ maxLen)
    (hc : ∀ k (hk : k < l.length), ∃ b off, a = some ⟨b, off, none⟩ ∧ b < w.heap.size ∧ ∃ c0 c1 c2, (w.cell? ⟨b, off + k * 3, none⟩ = some c0 ∧ w.cell? ⟨b, off + k * 3 + 1, none⟩ = some c1 ∧ w.cell? ⟨b, off + k * 3 + 2, none⟩ = some c2) ∧
      ∀ W, Below w.heap.size w W → Calls Tryd.prog 114 #[(.agg #[c0, c1, c2]), p1] W fun e w' => e = .returned (.bool (is l[k])) ∧ Below W.heap.size W w') :
    Calls Tryd.prog 113 #[.slice a l.length cap, .func (.func 114) #[] #[p1]] w fun e w' => e = .returned (.bool (l.all is)) ∧ Below w.heap.size w w' := by
  have hB1 : Below w.heap.size w (w.alloc (.cells #[.func (.func 114) #[] #[p1]] 159)) := (Below.refl _ _).alloc (Nat.le_refl _) _
  have hbox : (w.alloc (.cells #[.func (.func 114) #[] #[p1]] 159)).heap[w.heap.size]? = some (.cells #[.func (.func 114) #[] #[p1]] 159 (0, 0)) := heap_alloc_new _ _
  have hsz : (w.alloc (.cells #[.func (.func 114) #[] #[p1]] 159)).heap.size = w.heap.size + 1 := by simp
  have HK := Lib.hid (contains_key (fun x => !is x) l a cap (.pointer (some ⟨w.heap.size, 0, none⟩)) (w.alloc (.cells #[.func (.func 114) #[] #[p1]] 159)) hlen fun k hk => by
    obtain ⟨b, off, ha, hb, c0, c1, c2, ⟨g0, g1, g2⟩, hcall⟩ := hc k hk
    refine ⟨b, off, ha, Nat.lt_of_lt_of_le hb hB1.size, c0, c1, c2, ⟨(hB1.cell (p := ⟨b, off + k * 3, none⟩) hb).trans g0, (hB1.cell (p := ⟨b, off + k * 3 + 1, none⟩) hb).trans g1, (hB1.cell (p := ⟨b, off + k * 3 + 2, none⟩) hb).trans g2⟩, fun W hW => ?_⟩
    refine one_key _ c0 c1 c2 p1 w.heap.size W (by have := hW.size; omega) ?_ fun W' hW' => hcall W' ((hB1.trans (hW.mono (by omega))).trans (hW'.mono (by have := hW.size; omega)))
    exact cell_of_row _ _ 0 _ _ _ ((hW.block _ (by omega)).trans hbox))
  have HB1 := Lib.hid hB1
  have hany : (!l.any fun x => !is x) = l.all is := by simp [List.all_eq_not_any_not]
  have HANY := Lib.hid hany
  clear hc hB1 hbox hsz hany
  go_enter Tryd.func113, Tryd.ntmps113
  go_wp2_with (go_at_call 131; refine HK.out.mono ?_; rintro e w2 ⟨rfl, hB⟩; have HB := Lib.hid (Bt HB1.out hB); clear hB)
  go_ret
  rw [← HANY.out]
  exact ⟨rfl, HB.out⟩
end Go.Proofs.YtdfnolgcdododaaDoor
namespace Go.Proofs.YtdfnolgcdododaaDoor
open Go.RowKit Go.Sort
open Tess (Fil Que)

theorem right_cells2 {w w' : World} {g : Nat} {x0 x1 : Value} {t : TypeId} (hB : Below w.heap.size w w') (hg : w.heap[g]? = some (.cells #[x0, x1] t (0, 0))) : w'.cell? ⟨g, 0, none⟩ = some x0 ∧ w'.cell? ⟨g, 1, none⟩ = some x1 := by
  have hg' := (hB.block _ (Array.getElem?_eq_some_iff.1 hg).1).trans hg
  exact ⟨cell_of_row _ _ 0 _ _ _ hg', cell_of_row _ _ 1 _ _ _ hg'⟩
theorem right_cells1 {w w' : World} {g : Nat} {x0 : Value} {t : TypeId} (hB : Below w.heap.size w w') (hg : w.heap[g]? = some (.cells #[x0] t (0, 0))) : w'.cell? ⟨g, 0, none⟩ = some x0 :=
  cell_of_row _ _ 0 _ _ _ ((hB.block _ (Array.getElem?_eq_some_iff.1 hg).1).trans hg)
theorem emptyL : ByteArray.empty.toList = [] := by rw [ByteArray.toList_eq]; rfl

set_option maxRecDepth 100000 in
set_option maxHeartbeats 1000000 in
theorem isTyped_any (v : Value) (s : Tess.Sch) (k : Int) (x : ByteArray) (p : Nat → Prop) (w : World) (hv : SchAt p w v s) :
    Calls Tryd.prog 105 #[v, .agg #[.int .i64 k, .string x]] w fun e w' => e = .returned (.bool (Que.isTyped s ⟨k, x⟩)) ∧ Below w.heap.size w w' := by
  have HV := Lib.hid hv
  have HM := Lib.hid (fun W (hB : Below w.heap.size w W) => metric_any v s x p W (HV.out.ag (Ag.new p hB)))
  obtain ⟨vd, vm, rfl, hd, hm, _, _⟩ := hv
  obtain ⟨ad, capd, rfl, _⟩ := slp_len hd
  obtain ⟨am, capm, rfl, _⟩ := slp_len hm
  clear hd hm HV
  have HT : RowKit.Hid (Que.isTyped s ⟨k, x⟩ = if k = 1 then decide (x = ByteArray.empty) else (Tess.metW s x).2 && decide (1 < k) && decide (k ≤ 5)) := Lib.hid rfl
  obtain ⟨r, hr⟩ : ∃ r, r = Que.isTyped s ⟨k, x⟩ := ⟨_, rfl⟩
  rw [← hr] at HT ⊢
  clear hr
  generalize Tess.metW s x = m at *
  obtain ⟨m1, m2⟩ := m
  simp only at HM HT
  obtain ⟨h1, h2, hS0, hB0⟩ := laid2 w (.cells #[.slice ad s.dims.length capd, .slice am s.mets.length capm, .int .i64 s.grain] 24) (.cells #[.int .i64 k, .string x] 93)
  have HB0 := Lib.hid hB0
  have H2 := Lib.hid h2
  clear hB0 h1 h2 hS0
  by_cases hk : k = 1
  · subst hk
    have HT2 := Lib.hid (show r = decide (x = ByteArray.empty) from HT.out)
    clear HT
    by_cases hx : x.toList = []
    · have HX := Lib.hid (show x = ByteArray.empty from str_inj (hx.trans emptyL.symm))
      go_enter Tryd.func105, Tryd.ntmps105
      go_wp2_with (go_at_call 125; refine (HM.out _ HB0.out).mono ?_; rintro e W1 ⟨rfl, hB1⟩; obtain ⟨y0, y1⟩ := right_cells2 hB1 H2.out; have HB1 := Lib.hid (Bt HB0.out hB1); clear hB1)
      go_ret
      exact ⟨by rw [HT2.out]; simp [HX.out], HB1.out⟩
    · have HX := Lib.hid (show x ≠ ByteArray.empty from fun e => hx (by rw [e]; exact emptyL))
      go_enter Tryd.func105, Tryd.ntmps105
      go_wp2_with (go_at_call 125; refine (HM.out _ HB0.out).mono ?_; rintro e W1 ⟨rfl, hB1⟩; obtain ⟨y0, y1⟩ := right_cells2 hB1 H2.out; have HB1 := Lib.hid (Bt HB0.out hB1); clear hB1)
      go_ret
      exact ⟨by rw [HT2.out]; simp [HX.out, hx], HB1.out⟩
  · have HT2 := Lib.hid (show r = (m2 && decide (1 < k) && decide (k ≤ 5)) from HT.out.trans (if_neg hk))
    have hk1 : (k == 1) = false := beq_eq_false_iff_ne.2 hk
    clear HT hk
    cases m2
    · have HT3 := Lib.hid (show r = false from HT2.out)
      go_enter Tryd.func105, Tryd.ntmps105
      go_wp2_with (go_at_call 125; refine (HM.out _ HB0.out).mono ?_; rintro e W1 ⟨rfl, hB1⟩; obtain ⟨y0, y1⟩ := right_cells2 hB1 H2.out; have HB1 := Lib.hid (Bt HB0.out hB1); clear hB1)
      go_ret
      exact ⟨ret_bool' HT3.out.symm, HB1.out⟩
    · cases h1 : decide (1 < k)
      · have HT3 := Lib.hid (show r = false by rw [HT2.out, h1]; rfl)
        clear HT2
        go_enter Tryd.func105, Tryd.ntmps105
        go_wp2_with (go_at_call 125; refine (HM.out _ HB0.out).mono ?_; rintro e W1 ⟨rfl, hB1⟩; obtain ⟨y0, y1⟩ := right_cells2 hB1 H2.out; have HB1 := Lib.hid (Bt HB0.out hB1); clear hB1)
        go_ret
        exact ⟨ret_bool' HT3.out.symm, HB1.out⟩
      · have HT3 := Lib.hid (show r = decide (k ≤ 5) by rw [HT2.out, h1]; rfl)
        clear HT2
        go_enter Tryd.func105, Tryd.ntmps105
        go_wp2_with (go_at_call 125; refine (HM.out _ HB0.out).mono ?_; rintro e W1 ⟨rfl, hB1⟩; obtain ⟨y0, y1⟩ := right_cells2 hB1 H2.out; have HB1 := Lib.hid (Bt HB0.out hB1); clear hB1)
        go_ret
        exact ⟨ret_bool' HT3.out.symm, HB1.out⟩

theorem inOrd_take_succ (all l : List ByteArray) (k : Nat) (hk : k < l.length) (last : Int) :
    Que.inOrd all last (l.drop k) = if Que.nameAt all l[k] ≤ last then false else Que.inOrd all (Que.nameAt all l[k]) (l.drop (k + 1)) := by
  rw [List.drop_eq_getElem_cons hk]; rfl
set_option maxRecDepth 100000 in
set_option maxHeartbeats 1000000 in
theorem inOrder_any (vl va : Value) (l all : List ByteArray) (w : World) (hl : SlOf w vl (l.map .string)) (ha : SlOf w va (all.map .string)) :
    Calls Tryd.prog 106 #[vl, va] w fun e w' => e = .returned (.bool (Que.inOrder l all)) ∧ Below w.heap.size w w' := by
  have HI := Lib.hid (fun (W : World) (hB : Below w.heap.size w W) (x : ByteArray) => index_any va all x W (ha.below hB))
  obtain ⟨a, cap, rfl, hlm, hc⟩ := sls_open hl
  obtain ⟨aa, acap, rfl, _, _⟩ := sls_open ha
  have HC := Lib.hid hc
  clear hc hl ha
  obtain ⟨r, hr⟩ : ∃ r, r = Que.inOrder l all := ⟨_, rfl⟩
  rw [← hr]
  have HR := Lib.hid hr
  clear hr
  go_enter Tryd.func106, Tryd.ntmps106
  go_wp2
  go_loopw [5, 11] (fun last i wr => ∃ (k : Nat) (z : Int), k ≤ l.length ∧ i = .int .i64 k ∧ last = .int .i64 z ∧ r = Que.inOrd all z (l.drop k) ∧ Below w.heap.size w wr) (fun _ i _ => l.length - (intOf i).toNat)
  case atStart => exact ⟨0, -1, Nat.zero_le _, rfl, rfl, HR.out, Below.refl _ _⟩
  case round =>
    obtain ⟨k, z, hk, rfl, rfl, hrr, hB⟩ := hrel
    have HRR := Lib.hid hrr
    have HB := Lib.hid hB
    clear hrr hB
    by_cases hlt : k < l.length
    · obtain ⟨b, off, rfl, hb, hck⟩ := HC.out k hlt
      have hki : (k : Int) < (l.length : Int) := by omega
      have hck' := (HB.out.cell (p := ⟨b, off + k, none⟩) hb).trans hck
      have HST := Lib.hid (HRR.out.trans (inOrd_take_succ all l k hlt z))
      clear hck
      generalize l[k] = y at *
      have HCALL := Lib.hid (HI.out wr HB.out y)
      have HN : RowKit.Hid (Que.nameAt all y = if Tess.hasW all y then ((Tess.idxW all y : Nat) : Int) else -1) := Lib.hid rfl
      rw [← HN.out] at HCALL
      generalize Que.nameAt all y = m at *
      by_cases hm : m ≤ z
      · have HST2 := Lib.hid (show r = false by rw [HST.out, if_pos hm])
        have hmd : decide (m ≤ z) = true := decide_eq_true hm
        go_wp2_with (go_at_call 121; refine HCALL.out.mono ?_; rintro e w2 ⟨rfl, rfl⟩)
        go_ret
        exact ⟨ret_bool' HST2.out.symm, HB.out⟩
      · have HST2 := Lib.hid (show r = Que.inOrd all m (l.drop (k + 1)) by rw [HST.out, if_neg hm])
        have hmd : decide (m ≤ z) = false := decide_eq_false hm
        go_wp2_with (go_at_call 121; refine HCALL.out.mono ?_; rintro e w2 ⟨rfl, rfl⟩)
        go_roundw
        case rel => exact ⟨k + 1, m, by omega, by go_num, rfl, HST2.out, HB.out⟩
        case measure => simp [intOf]; omega
    · have hki : ¬ (k : Int) < (l.length : Int) := by omega
      have HE := Lib.hid (show r = true by rw [HRR.out, List.drop_eq_nil_of_le (by omega)]; rfl)
      go_wp2
      go_ret
      exact ⟨ret_bool' HE.out.symm, HB.out⟩
end Go.Proofs.YtdfnolgcdododaaDoor
namespace Go.Proofs.YtdfnolgcdododaaDoor
open Go.RowKit Go.Sort
open Tess (Fil Que)

set_option maxRecDepth 100000 in
theorem clo1_any (p : Nat → Prop) (s : Tess.Sch) (vd vm : Value) (B : Nat) (W : World) (hb : W.heap[B]? = some (.cells #[vd, vm, .int .i64 s.grain] 24 (0, 0))) (hs : SchAt p W (.agg #[vd, vm, .int .i64 s.grain]) s) (k : Int) (x : ByteArray) :
    Calls Tryd.prog 104 #[.agg #[.int .i64 k, .string x], .pointer (some ⟨B, 0, none⟩)] W fun e w' => e = .returned (.bool (Que.isTyped s ⟨k, x⟩)) ∧ Below W.heap.size W w' := by
  obtain ⟨W0, hW0⟩ : ∃ W0, W.alloc (.cells #[.int .i64 k, .string x] 93) = W0 := ⟨_, rfl⟩
  obtain ⟨h0, hS, hB⟩ := laid1 W (.cells #[.int .i64 k, .string x] 93)
  rw [hW0] at h0 hS hB
  have HC := Lib.hid (isTyped_any _ s k x p W0 (hs.ag (Ag.new p hB)))
  obtain ⟨y0, y1, y2⟩ := right_cells3 hB hb
  obtain ⟨z0, z1⟩ := right_cells2 (Below.refl _ _) h0
  have HB := Lib.hid hB
  clear hs h0 hS hB hb
  generalize Que.isTyped s ⟨k, x⟩ = r at *
  go_enter Tryd.func104, Tryd.ntmps104
  go_wp2_with (go_at_call 105; refine HC.out.mono ?_; rintro e w2 ⟨rfl, hB2⟩; have HB2 := Lib.hid (Bt HB.out hB2); clear hB2)
  go_ret
  exact ⟨rfl, HB2.out⟩
set_option maxRecDepth 100000 in
theorem clo2_any (p : Nat → Prop) (s : Tess.Sch) (vd vm : Value) (B : Nat) (W : World) (hb : W.heap[B]? = some (.cells #[vd, vm, .int .i64 s.grain] 24 (0, 0))) (hs : SchAt p W (.agg #[vd, vm, .int .i64 s.grain]) s) (x : ByteArray) :
    Calls Tryd.prog 108 #[.string x, .pointer (some ⟨B, 0, none⟩)] W fun e w' => e = .returned (.bool (Tess.dimW s x).2) ∧ Below W.heap.size W w' := by
  have HC := Lib.hid (dim_any _ s x p W hs)
  obtain ⟨y0, y1, y2⟩ := right_cells3 (Below.refl _ _) hb
  clear hs hb
  generalize Tess.dimW s x = r at *
  obtain ⟨r1, r2⟩ := r
  simp only at HC
  go_enter Tryd.func108, Tryd.ntmps108
  go_wp2_with (go_at_call 61; refine HC.out.mono ?_; rintro e w2 ⟨rfl, hB2⟩; have HB2 := Lib.hid hB2; clear hB2)
  go_ret
  exact ⟨rfl, HB2.out⟩
set_option maxRecDepth 100000 in
theorem clo3_any (vl vb : Value) (l names : List ByteArray) (B : Nat) (W : World) (hb : W.cell? ⟨B, 1, none⟩ = some vb) (hl : SlOf W vl (l.map .string)) (hn : SlOf W vb (names.map .string)) :
    Calls Tryd.prog 110 #[vl, .pointer (some ⟨B, 0, none⟩)] W fun e w' => e = .returned (.bool (Que.inOrder l names)) ∧ Below W.heap.size W w' := by
  have HC := Lib.hid (inOrder_any vl vb l names W hl hn)
  obtain ⟨a, cap, rfl, _, _⟩ := sls_open hl
  obtain ⟨aa, acap, rfl, _, _⟩ := sls_open hn
  clear hl hn
  generalize Que.inOrder l names = r at *
  go_enter Tryd.func110, Tryd.ntmps110
  go_wp2_with (go_at_call 106; refine HC.out.mono ?_; rintro e w2 ⟨rfl, hB2⟩; have HB2 := Lib.hid hB2; clear hB2)
  go_ret
  exact ⟨rfl, HB2.out⟩
set_option maxRecDepth 100000 in
set_option maxHeartbeats 2000000 in
theorem clo4_any (c : Tess.Cond) (aa : Option Addr) (na ca : Nat) (hna : na ≤ 9223372036854775807) (B : Nat) (W : World) (hlt : B < W.heap.size) (hb : W.cell? ⟨B, 0, none⟩ = some (.slice aa na ca)) :
    Calls Tryd.prog 112 #[.agg #[.int .i64 c.pos, .int .i64 c.op, .int .i64 c.n], .pointer (some ⟨B, 0, none⟩)] W fun e w' => e = .returned (.bool (Que.condOk na c)) ∧ Below W.heap.size W w' := by
  obtain ⟨W0, hW0⟩ : ∃ W0, W.alloc (.cells #[.int .i64 c.pos, .int .i64 c.op, .int .i64 c.n] 154) = W0 := ⟨_, rfl⟩
  obtain ⟨h0, hS, hB⟩ := laid1 W (.cells #[.int .i64 c.pos, .int .i64 c.op, .int .i64 c.n] 154)
  rw [hW0] at h0 hS hB
  obtain ⟨z0, z1, z2⟩ := right_cells3 (Below.refl _ _) h0
  have y0 := (hB.cell (p := ⟨B, 0, none⟩) hlt).trans hb
  have HB := Lib.hid hB
  have H1 := Lib.hid (qwithin_any c.pos 0 ((na : Int) - 1) W0)
  have H2 := Lib.hid (qwithin_any c.op 1 6 W0)
  clear h0 hS hB hb
  have HR : RowKit.Hid (Que.condOk na c = (Tess.within c.pos 0 ((na : Int) - 1) && Tess.within c.op 1 6)) := Lib.hid rfl
  generalize Que.condOk na c = r at *
  cases e1 : Tess.within c.pos 0 ((na : Int) - 1)
  · have HR2 := Lib.hid (show r = false by rw [HR.out, e1]; rfl)
    rw [e1] at H1
    go_enter Tryd.func112, Tryd.ntmps112
    go_wp2_with (go_at_call 102; refine H1.out.mono ?_; rintro e w2 ⟨rfl, rfl⟩)
    go_ret
    exact ⟨ret_bool' HR2.out.symm, HB.out⟩
  · have HR2 := Lib.hid (show r = Tess.within c.op 1 6 by rw [HR.out, e1]; rfl)
    rw [e1] at H1
    generalize Tess.within c.op 1 6 = r2 at *
    go_enter Tryd.func112, Tryd.ntmps112
    go_wp2_with (fail)
    go_at_call 102
    refine H1.out.mono ?_
    rintro e w2 ⟨rfl, rfl⟩
    go_wp2_with (go_at_call 102; refine H2.out.mono ?_; rintro e w2 ⟨rfl, rfl⟩)
    go_ret
    exact ⟨ret_bool' HR2.out.symm, HB.out⟩
set_option maxRecDepth 100000 in
set_option maxHeartbeats 2000000 in
theorem clo5_any (c : Tess.Key) (aa ab : Option Addr) (na ca nb cb : Nat) (hna : na ≤ 9223372036854775807) (hnb : nb ≤ 9223372036854775807) (B : Nat) (W : World) (hlt : B < W.heap.size) (hb : W.cell? ⟨B, 0, none⟩ = some (.slice aa na ca)) (hb1 : W.cell? ⟨B, 1, none⟩ = some (.slice ab nb cb)) :
    Calls Tryd.prog 114 #[.agg #[.bool c.agg, .int .i64 c.pos, .bool c.desc], .pointer (some ⟨B, 0, none⟩)] W fun e w' => e = .returned (.bool (Que.keyOk na nb c)) ∧ Below W.heap.size W w' := by
  obtain ⟨W0, hW0⟩ : ∃ W0, W.alloc (.cells #[.bool c.agg, .int .i64 c.pos, .bool c.desc] 158) = W0 := ⟨_, rfl⟩
  obtain ⟨h0, hS, hB⟩ := laid1 W (.cells #[.bool c.agg, .int .i64 c.pos, .bool c.desc] 158)
  rw [hW0] at h0 hS hB
  obtain ⟨z0, z1, z2⟩ := right_cells3 (Below.refl _ _) h0
  have y0 := (hB.cell (p := ⟨B, 0, none⟩) hlt).trans hb
  have y1 := (hB.cell (p := ⟨B, 1, none⟩) hlt).trans hb1
  have HB := Lib.hid hB
  have H1 := Lib.hid (qwithin_any c.pos 0 ((na : Int) - 1) W0)
  have H2 := Lib.hid (qwithin_any c.pos 0 ((nb : Int) - 1) W0)
  clear h0 hS hB hb hb1
  have HR : RowKit.Hid (Que.keyOk na nb c = if c.agg then Tess.within c.pos 0 ((na : Int) - 1) else Tess.within c.pos 0 ((nb : Int) - 1)) := Lib.hid rfl
  generalize Que.keyOk na nb c = r at *
  cases ea : c.agg
  · rw [ea] at z0 hW0
    have HR2 := Lib.hid (show r = Tess.within c.pos 0 ((nb : Int) - 1) by rw [HR.out, ea]; rfl)
    generalize Tess.within c.pos 0 ((nb : Int) - 1) = r2 at *
    go_enter Tryd.func114, Tryd.ntmps114
    go_wp2_with (go_at_call 102; refine H2.out.mono ?_; rintro e w2 ⟨rfl, rfl⟩)
    go_ret
    exact ⟨ret_bool' HR2.out.symm, HB.out⟩
  · rw [ea] at z0 hW0
    have HR2 := Lib.hid (show r = Tess.within c.pos 0 ((na : Int) - 1) by rw [HR.out, ea]; rfl)
    generalize Tess.within c.pos 0 ((na : Int) - 1) = r2 at *
    cases r2
    all_goals
      go_enter Tryd.func114, Tryd.ntmps114
      go_wp2_with (go_at_call 102; refine H1.out.mono ?_; rintro e w2 ⟨rfl, rfl⟩)
      go_ret
      exact ⟨ret_bool' HR2.out.symm, HB.out⟩
end Go.Proofs.YtdfnolgcdododaaDoor
namespace Go.Proofs.YtdfnolgcdododaaDoor
open Go.RowKit Go.Sort
open Tess (Fil Que)

/-- What isOf asks of all, in its boxes' world. -/
theorem isAll_agg (p : Nat → Prop) (va vd vm : Value) (s : Tess.Sch) (l : List Tess.Agg) (B : Nat) (W : World) (hb : W.heap[B]? = some (.cells #[vd, vm, .int .i64 s.grain] 24 (0, 0))) (hs : SchAt p W (.agg #[vd, vm, .int .i64 s.grain]) s) (hl : RowsAt 2 aggF p W va l) :
    Calls Tryd.prog 103 #[va, .func (.func 104) #[] #[.pointer (some ⟨B, 0, none⟩)]] W fun e w' => e = .returned (.bool (l.all (Que.isTyped s))) ∧ Below W.heap.size W w' := by
  obtain ⟨a, cap, rfl, hlen, _, _, hc⟩ := hl
  refine all_agg _ l a cap _ W hlen fun k hk => ?_
  obtain ⟨b, off, ha, hb', _, hcell⟩ := hc (by omega)
  exact ⟨b, off, ha, hb', _, _, ⟨hcell k hk 0 (by omega), hcell k hk 1 (by omega)⟩, fun X hX => clo1_any p s vd vm B X ((hX.block _ (Array.getElem?_eq_some_iff.1 hb).1).trans hb) (hs.ag (Ag.new p hX)) l[k].kind l[k].met⟩
theorem isAll_name (p : Nat → Prop) (vb vd vm : Value) (s : Tess.Sch) (l : List ByteArray) (B : Nat) (W : World) (hb : W.heap[B]? = some (.cells #[vd, vm, .int .i64 s.grain] 24 (0, 0))) (hs : SchAt p W (.agg #[vd, vm, .int .i64 s.grain]) s) (hl : SlP p W vb (l.map .string)) :
    Calls Tryd.prog 107 #[vb, .func (.func 108) #[] #[.pointer (some ⟨B, 0, none⟩)]] W fun e w' => e = .returned (.bool (l.all fun x => (Tess.dimW s x).2)) ∧ Below W.heap.size W w' := by
  obtain ⟨a, cap, rfl, hlen, hc⟩ := sls_open hl.1
  refine all_name _ l a cap _ W (by unfold maxLen; omega) fun k hk => ?_
  obtain ⟨b, off, ha, hb', hcell⟩ := hc k hk
  exact ⟨b, off, ha, hb', _, hcell, fun X hX => clo2_any p s vd vm B X ((hX.block _ (Array.getElem?_eq_some_iff.1 hb).1).trans hb) (hs.ag (Ag.new p hX)) l[k]⟩
theorem isAll_set (p : Nat → Prop) (vS vb : Value) (l : List (List ByteArray)) (names : List ByteArray) (B : Nat) (W : World) (hlt : B < W.heap.size) (hb : W.cell? ⟨B, 1, none⟩ = some vb) (hn : SlP p W vb (names.map .string)) (hl : SetsAt p W vS l) :
    Calls Tryd.prog 109 #[vS, .func (.func 110) #[] #[.pointer (some ⟨B, 0, none⟩)]] W fun e w' => e = .returned (.bool (l.all fun x => Que.inOrder x names)) ∧ Below W.heap.size W w' := by
  obtain ⟨a, cap, rfl, hlen, _, _, hc⟩ := hl
  refine all_set _ l a cap _ W hlen fun k hk => ?_
  obtain ⟨b, off, ha, hb', _, hcell⟩ := hc (by omega)
  obtain ⟨c, e1, e2, _⟩ := hcell k hk
  exact ⟨b, off, ha, hb', c, e1, fun X hX => clo3_any c vb l[k] names B X ((hX.cell (p := ⟨B, 1, none⟩) hlt).trans hb) (e2.1.below hX) (hn.1.below hX)⟩
theorem isAll_cond (p : Nat → Prop) (vh : Value) (l : List Tess.Cond) (aa : Option Addr) (na ca : Nat) (hna : na ≤ 9223372036854775807) (B : Nat) (W : World) (hlt : B < W.heap.size) (hb : W.cell? ⟨B, 0, none⟩ = some (.slice aa na ca)) (hl : RowsAt 3 condF p W vh l) :
    Calls Tryd.prog 111 #[vh, .func (.func 112) #[] #[.pointer (some ⟨B, 0, none⟩)]] W fun e w' => e = .returned (.bool (l.all (Que.condOk na))) ∧ Below W.heap.size W w' := by
  obtain ⟨a, cap, rfl, hlen, _, _, hc⟩ := hl
  refine all_cond _ l a cap _ W hlen fun k hk => ?_
  obtain ⟨b, off, ha, hb', _, hcell⟩ := hc (by omega)
  exact ⟨b, off, ha, hb', _, _, _, ⟨hcell k hk 0 (by omega), hcell k hk 1 (by omega), hcell k hk 2 (by omega)⟩, fun X hX => clo4_any l[k] aa na ca hna B X (Nat.lt_of_lt_of_le hlt hX.size) ((hX.cell (p := ⟨B, 0, none⟩) hlt).trans hb)⟩
theorem isAll_key (p : Nat → Prop) (vo : Value) (l : List Tess.Key) (aa ab : Option Addr) (na ca nb cb : Nat) (hna : na ≤ 9223372036854775807) (hnb : nb ≤ 9223372036854775807) (B : Nat) (W : World) (hlt : B < W.heap.size) (hb : W.cell? ⟨B, 0, none⟩ = some (.slice aa na ca)) (hb1 : W.cell? ⟨B, 1, none⟩ = some (.slice ab nb cb)) (hl : RowsAt 3 keyF p W vo l) :
    Calls Tryd.prog 113 #[vo, .func (.func 114) #[] #[.pointer (some ⟨B, 0, none⟩)]] W fun e w' => e = .returned (.bool (l.all (Que.keyOk na nb))) ∧ Below W.heap.size W w' := by
  obtain ⟨a, cap, rfl, hlen, _, _, hc⟩ := hl
  refine all_key _ l a cap _ W hlen fun k hk => ?_
  obtain ⟨b, off, ha, hb', _, hcell⟩ := hc (by omega)
  exact ⟨b, off, ha, hb', _, _, _, ⟨hcell k hk 0 (by omega), hcell k hk 1 (by omega), hcell k hk 2 (by omega)⟩, fun X hX => clo5_any l[k] aa ab na ca nb cb hna hnb B X (Nat.lt_of_lt_of_le hlt hX.size) ((hX.cell (p := ⟨B, 0, none⟩) hlt).trans hb) ((hX.cell (p := ⟨B, 1, none⟩) hlt).trans hb1)⟩

/-- Which of six comes first that is false. -/
theorem first6 (b1 b2 b3 b4 b5 b6 : Bool) : b1 = false ∨ (b1 = true ∧ b2 = false) ∨ (b1 = true ∧ b2 = true ∧ b3 = false) ∨ (b1 = true ∧ b2 = true ∧ b3 = true ∧ b4 = false) ∨ (b1 = true ∧ b2 = true ∧ b3 = true ∧ b4 = true ∧ b5 = false) ∨ (b1 = true ∧ b2 = true ∧ b3 = true ∧ b4 = true ∧ b5 = true ∧ b6 = false) ∨ (b1 = true ∧ b2 = true ∧ b3 = true ∧ b4 = true ∧ b5 = true ∧ b6 = true) := by
  cases b1 <;> cases b2 <;> cases b3 <;> cases b4 <;> cases b5 <;> cases b6 <;> simp

set_option maxRecDepth 100000 in
set_option maxHeartbeats 4000000 in
theorem isOf_any (p : Nat → Prop) (n : Nat) (vs v : Value) (s : Tess.Sch) (q : Que) (va vb vS f0 f1 f2 f3 f4 f5 vh vo : Value) (w : World) (hs : SchAt p w vs s) (hq : QueAt p n w v q va vb vS f0 f1 f2 f3 f4 f5 vh vo) :
    Calls Tryd.prog 75 #[vs, v] w fun e w' => e = .returned (.bool (Que.isOf s q)) ∧ Below w.heap.size w w' := by
  have hna := hq.aggs.len
  have hnS := hq.sets.len
  have hnh := hq.conds.len
  have hno := hq.keys.len
  obtain ⟨ab, cb, eb, hnb, hdum⟩ := sls_open hq.names.1
  clear hdum
  obtain ⟨aa, ca, ea⟩ := hq.aggs.shape
  obtain ⟨aS, cS, eS⟩ := hq.sets.shape
  obtain ⟨ah, ch, eh⟩ := hq.conds.shape
  obtain ⟨ao, co, eo⟩ := hq.keys.shape
  obtain ⟨vd, vm, rfl, hd, hm, hd1, hm1⟩ := hs
  have hs : SchAt p w (.agg #[vd, vm, .int .i64 s.grain]) s := ⟨vd, vm, rfl, hd, hm, hd1, hm1⟩
  obtain ⟨W0, hW0⟩ : ∃ W0, (w.alloc (.cells #[vd, vm, .int .i64 s.grain] 24)).alloc (.cells #[va, vb, .int .i64 q.mode, vS, .int .i64 q.every, f0, f1, f2, f3, f4, f5, vh, vo, .int .i64 q.limit] 63) = W0 := ⟨_, rfl⟩
  obtain ⟨h1, h2, hS0, hB0⟩ := laid2 w (.cells #[vd, vm, .int .i64 s.grain] 24) (.cells #[va, vb, .int .i64 q.mode, vS, .int .i64 q.every, f0, f1, f2, f3, f4, f5, vh, vo, .int .i64 q.limit] 63)
  rw [hW0] at h1 h2 hS0 hB0
  have hv := hq.e
  have HBX := Lib.hid (fun X (hX : Below W0.heap.size W0 X) => (can14 ((hX.block _ (Array.getElem?_eq_some_iff.1 h2).1).trans h2)).1)
  have q0 := fun X (hX : Below W0.heap.size W0 X) => hs.ag (Ag.new p (Bt hB0 hX))
  have q1 := fun X (hX : Below W0.heap.size W0 X) => hq.ag (Ag.new p (Bt hB0 hX))
  have b0 := fun X (hX : Below W0.heap.size W0 X) => (hX.block _ (Array.getElem?_eq_some_iff.1 h1).1).trans h1
  have lt1 := fun X (hX : Below W0.heap.size W0 X) => Nat.lt_of_lt_of_le (Array.getElem?_eq_some_iff.1 h2).1 hX.size
  have HA := Lib.hid (fun X (hX : Below W0.heap.size W0 X) => isAll_agg p va vd vm s q.aggs w.heap.size X (b0 X hX) (q0 X hX) (q1 X hX).aggs)
  have HO := Lib.hid (fun X (hX : Below W0.heap.size W0 X) => inOrder_any vb vb q.names q.names X (q1 X hX).names.1 (q1 X hX).names.1)
  have HN := Lib.hid (fun X (hX : Below W0.heap.size W0 X) => isAll_name p vb vd vm s q.names w.heap.size X (b0 X hX) (q0 X hX) (q1 X hX).names)
  have HS := Lib.hid (fun X (hX : Below W0.heap.size W0 X) => isAll_set p vS vb q.sets q.names (w.heap.size + 1) X (lt1 X hX) (HBX.out X hX).2.1 (q1 X hX).names (q1 X hX).sets)
  have HC := Lib.hid (fun X (hX : Below W0.heap.size W0 X) => isAll_cond p vh q.conds aa q.aggs.length ca hna (w.heap.size + 1) X (lt1 X hX) (by rw [← ea]; exact (HBX.out X hX).1) (q1 X hX).conds)
  have HK := Lib.hid (fun X (hX : Below W0.heap.size W0 X) => isAll_key p vo q.keys aa ab q.aggs.length ca q.names.length cb hna hnb (w.heap.size + 1) X (lt1 X hX) (by rw [← ea]; exact (HBX.out X hX).1) (by rw [← eb]; exact (HBX.out X hX).2.1) (q1 X hX).keys)
  have HR : RowKit.Hid (Que.isOf s q = (Que.sizesOk q && q.aggs.all (Que.isTyped s) && Que.inOrder q.names q.names && q.names.all (fun x => (Tess.dimW s x).2) && q.sets.all (fun l => Que.inOrder l q.names) && q.conds.all (Que.condOk q.aggs.length) && q.keys.all (Que.keyOk q.aggs.length q.names.length))) := Lib.hid rfl
  have HZ : RowKit.Hid (Que.sizesOk q = (Tess.within q.aggs.length 1 6 && decide (q.names.length ≤ 6) && Tess.within q.mode 1 4 && Tess.within q.sets.length (if q.mode = 4 then 1 else 0) (if q.mode = 4 then 8 else 0) && decide (q.conds.length ≤ 4) && decide (q.keys.length ≤ 4) && Tess.within q.limit 0 1000)) := Lib.hid rfl
  generalize Que.isOf s q = r at *
  generalize Que.sizesOk q = z at *
  generalize q.aggs.all (Que.isTyped s) = c1 at *
  generalize Que.inOrder q.names q.names = c2 at *
  generalize q.names.all (fun x => (Tess.dimW s x).2) = c3 at *
  generalize q.sets.all (fun l => Que.inOrder l q.names) = c4 at *
  generalize q.conds.all (Que.condOk q.aggs.length) = c5 at *
  generalize q.keys.all (Que.keyOk q.aggs.length q.names.length) = c6 at *
  have HB0 := Lib.hid hB0
  have hB00 := Below.refl W0.heap.size W0
  subst hv
  clear hs hd hm hd1 hm1 h1 h2 hS0 hB0 q0 q1 b0 lt1 hq
  generalize q.aggs.length = na at *
  generalize q.names.length = nb at *
  generalize q.sets.length = nS at *
  generalize q.conds.length = nh at *
  generalize q.keys.length = no at *
  generalize q.mode = mode at *
  generalize q.every = every at *
  generalize q.limit = limit at *
  subst ea eb eS eh eo
  have HW := Lib.hid (fun a b c => qwithin_any a b c W0)
  have i2 : decide ((nb : Int) ≤ 6) = decide (nb ≤ 6) := decide_eq_decide.2 (by omega)
  have i5 : decide ((nh : Int) ≤ 4) = decide (nh ≤ 4) := decide_eq_decide.2 (by omega)
  have i6 : decide ((no : Int) ≤ 4) = decide (no ≤ 4) := decide_eq_decide.2 (by omega)
  obtain ⟨y0, y1, y2, y3, y4, y5, y6, y7, y8, y9, ya, yb, yc, yd⟩ := HBX.out W0 hB00
  obtain ⟨most, hmost⟩ : ∃ most : Int, (if mode = 4 then (8 : Int) else 0) = most := ⟨_, rfl⟩
  obtain ⟨least, hleast⟩ : ∃ least : Int, (if mode = 4 then (1 : Int) else 0) = least := ⟨_, rfl⟩
  rw [hmost, hleast] at HZ
  obtain ⟨s1, e1⟩ : ∃ b, Tess.within (na : Int) 1 6 = b := ⟨_, rfl⟩
  obtain ⟨s2, e2⟩ : ∃ b, decide (nb ≤ 6) = b := ⟨_, rfl⟩
  obtain ⟨s3, e3⟩ : ∃ b, Tess.within mode 1 4 = b := ⟨_, rfl⟩
  obtain ⟨s4, e4⟩ : ∃ b, Tess.within (nS : Int) least most = b := ⟨_, rfl⟩
  obtain ⟨s5, e5⟩ : ∃ b, decide (nh ≤ 4) = b := ⟨_, rfl⟩
  obtain ⟨s6, e6⟩ : ∃ b, decide (no ≤ 4) = b := ⟨_, rfl⟩
  obtain ⟨s7, e7⟩ : ∃ b, Tess.within limit 0 1000 = b := ⟨_, rfl⟩
  rw [e1, e2, e3, e4, e5, e6, e7] at HZ
  have HW1 := Lib.hid (e1 ▸ HW.out (na : Int) 1 6)
  have HW3 := Lib.hid (e3 ▸ HW.out mode 1 4)
  have HW4 := Lib.hid (e4 ▸ HW.out (nS : Int) least most)
  have HW7 := Lib.hid (e7 ▸ HW.out limit 0 1000)
  rw [e2] at i2
  rw [e5] at i5
  rw [e6] at i6
  clear e1 e3 e4 e7 HW
  have HM := Lib.hid (And.intro hmost hleast)
  clear hmost hleast
  rcases (show (mode = 4 ∧ (mode == 4) = true) ∨ (¬ mode = 4 ∧ (mode == 4) = false) by
    by_cases h : mode = 4
    · exact .inl ⟨h, by simp [h]⟩
    · exact .inr ⟨h, by simp [h]⟩) with ⟨hm4, hm4b⟩ | ⟨hm4, hm4b⟩
  all_goals
    have hmm := HM.out
    simp only [hm4, if_true, if_false] at hmm
    obtain ⟨rfl, rfl⟩ := hmm
    clear HM hm4
    by_cases hz : z = false
    · have HF := Lib.hid (show r = false by rw [HR.out, hz]; rfl)
      have hz2 := HZ.out
      rw [hz] at hz2
      clear HR HZ hz HA HO HN HS HC HK
      rcases first6 s1 s2 s3 s4 s5 s6 with rfl | ⟨rfl, rfl⟩ | ⟨rfl, rfl, rfl⟩ | ⟨rfl, rfl, rfl, rfl⟩ | ⟨rfl, rfl, rfl, rfl, rfl⟩ | ⟨rfl, rfl, rfl, rfl, rfl, rfl⟩ | ⟨rfl, rfl, rfl, rfl, rfl, rfl⟩
      rotate_left 6
      obtain rfl : s7 = false := by simpa using hz2.symm
      all_goals
        clear hz2
        go_enter Tryd.func75, Tryd.ntmps75
        go_wp2_with (go_at_call 102; first | (with_reducible refine HW1.out.mono ?_; rintro e w2 ⟨rfl, rfl⟩) | (with_reducible refine HW3.out.mono ?_; rintro e w2 ⟨rfl, rfl⟩) | (with_reducible refine HW4.out.mono ?_; rintro e w2 ⟨rfl, rfl⟩) | (with_reducible refine HW7.out.mono ?_; rintro e w2 ⟨rfl, rfl⟩))
        go_ret
        exact ⟨ret_bool' HF.out.symm, HB0.out⟩
    · obtain rfl : z = true := by simpa using hz
      have hz2 := HZ.out
      simp only [Bool.true_eq, Bool.and_eq_true] at hz2
      obtain ⟨⟨⟨⟨⟨⟨rfl, rfl⟩, rfl⟩, rfl⟩, rfl⟩, rfl⟩, rfl⟩ := hz2
      have HR := Lib.hid (show r = (c1 && c2 && c3 && c4 && c5 && c6) by rw [HR.out, Bool.true_and])
      clear HZ hz
      go_enter Tryd.func75, Tryd.ntmps75
      go_wp2_with (go_at_call 102; first | (with_reducible refine HW1.out.mono ?_; rintro e w2 ⟨rfl, rfl⟩) | (with_reducible refine HW3.out.mono ?_; rintro e w2 ⟨rfl, rfl⟩) | (with_reducible refine HW4.out.mono ?_; rintro e w2 ⟨rfl, rfl⟩) | (with_reducible refine HW7.out.mono ?_; rintro e w2 ⟨rfl, rfl⟩))
      go_at_call 103
      refine (HA.out W0 hB00).mono ?_
      rintro e W1 ⟨rfl, hx⟩
      have hB1 := Bt hB00 hx
      clear hx y0 y1 y2 y3 y4 y5 y6 y7 y8 y9 ya yb yc yd
      obtain ⟨y0, y1, y2, y3, y4, y5, y6, y7, y8, y9, ya, yb, yc, yd⟩ := HBX.out W1 hB1
      have HB1 := Lib.hid hB1
      clear hB1
      cases c1
      · have HF := Lib.hid (show r = false by rw [HR.out]; simp)
        go_wp2
        go_ret
        exact ⟨ret_bool' HF.out.symm, Bt HB0.out HB1.out⟩
      have hB1 := HB1.out
      go_wp2_with (fail)
      go_at_call 106
      refine (HO.out W1 hB1).mono ?_
      rintro e W2 ⟨rfl, hx⟩
      have hB2 := Bt hB1 hx
      clear hx y0 y1 y2 y3 y4 y5 y6 y7 y8 y9 ya yb yc yd
      obtain ⟨y0, y1, y2, y3, y4, y5, y6, y7, y8, y9, ya, yb, yc, yd⟩ := HBX.out W2 hB2
      have HB2 := Lib.hid hB2
      clear hB2
      cases c2
      · have HF := Lib.hid (show r = false by rw [HR.out]; simp)
        go_wp2
        go_ret
        exact ⟨ret_bool' HF.out.symm, Bt HB0.out HB2.out⟩
      have hB2 := HB2.out
      go_wp2_with (fail)
      go_at_call 107
      refine (HN.out W2 hB2).mono ?_
      rintro e W3 ⟨rfl, hx⟩
      have hB3 := Bt hB2 hx
      clear hx y0 y1 y2 y3 y4 y5 y6 y7 y8 y9 ya yb yc yd
      obtain ⟨y0, y1, y2, y3, y4, y5, y6, y7, y8, y9, ya, yb, yc, yd⟩ := HBX.out W3 hB3
      have HB3 := Lib.hid hB3
      clear hB3
      cases c3
      · have HF := Lib.hid (show r = false by rw [HR.out]; simp)
        go_wp2
        go_ret
        exact ⟨ret_bool' HF.out.symm, Bt HB0.out HB3.out⟩
      have hB3 := HB3.out
      go_wp2_with (fail)
      go_at_call 109
      refine (HS.out W3 hB3).mono ?_
      rintro e W4 ⟨rfl, hx⟩
      have hB4 := Bt hB3 hx
      clear hx y0 y1 y2 y3 y4 y5 y6 y7 y8 y9 ya yb yc yd
      obtain ⟨y0, y1, y2, y3, y4, y5, y6, y7, y8, y9, ya, yb, yc, yd⟩ := HBX.out W4 hB4
      have HB4 := Lib.hid hB4
      clear hB4
      cases c4
      · have HF := Lib.hid (show r = false by rw [HR.out]; simp)
        go_wp2
        go_ret
        exact ⟨ret_bool' HF.out.symm, Bt HB0.out HB4.out⟩
      have hB4 := HB4.out
      go_wp2_with (fail)
      go_at_call 111
      refine (HC.out W4 hB4).mono ?_
      rintro e W5 ⟨rfl, hx⟩
      have hB5 := Bt hB4 hx
      clear hx y0 y1 y2 y3 y4 y5 y6 y7 y8 y9 ya yb yc yd
      obtain ⟨y0, y1, y2, y3, y4, y5, y6, y7, y8, y9, ya, yb, yc, yd⟩ := HBX.out W5 hB5
      have HB5 := Lib.hid hB5
      clear hB5
      cases c5
      · have HF := Lib.hid (show r = false by rw [HR.out]; simp)
        go_wp2
        go_ret
        exact ⟨ret_bool' HF.out.symm, Bt HB0.out HB5.out⟩
      have hB5 := HB5.out
      go_wp2_with (fail)
      go_at_call 113
      refine (HK.out W5 hB5).mono ?_
      rintro e W6 ⟨rfl, hx⟩
      have hB6 := Bt hB5 hx
      clear hx y0 y1 y2 y3 y4 y5 y6 y7 y8 y9 ya yb yc yd
      obtain ⟨y0, y1, y2, y3, y4, y5, y6, y7, y8, y9, ya, yb, yc, yd⟩ := HBX.out W6 hB6
      have HB6 := Lib.hid hB6
      have HF := Lib.hid (show r = c6 by rw [HR.out]; simp)
      go_wp2
      go_ret
      exact ⟨ret_bool' HF.out.symm, Bt HB0.out HB6.out⟩
end Go.Proofs.YtdfnolgcdododaaDoor
namespace Go.Proofs.YtdfnolgcdododaaDoor
open Go.RowKit Go.Sort
open Tess (Fil Que)

set_option maxRecDepth 100000 in
set_option maxHeartbeats 4000000 in
theorem qcheck_any (a0 a1 : Addr) (p : Nat → Prop) (n : Nat) (vs v : Value) (s : Tess.Sch) (q : Que) (va vb vS f0 f1 f2 f3 f4 f5 vh vo : Value) (w : World) (hV : Vars a0 a1 w) (hs : SchAt p w vs s) (hq : QueAt p n w v q va vb vS f0 f1 f2 f3 f4 f5 vh vo) (hn : n ≤ 100) (hK : kindsOk q.fil) :
    Calls Tryd.prog 48 #[vs, v] w fun e w' => e = .returned (.int .i64 (Que.check s q : Nat)) ∧ Below w.heap.size w w' := by
  have HR := Lib.hid (fun W (hB : Below w.heap.size w W) => schRight_any vs s p W (hs.ag (Ag.new p hB)))
  have HI := Lib.hid (fun W (hB : Below w.heap.size w W) => isOf_any p n vs v s q va vb vS f0 f1 f2 f3 f4 f5 vh vo W (hs.ag (Ag.new p hB)) (hq.ag (Ag.new p hB)))
  have HF := Lib.hid (fun W (hB : Below w.heap.size w W) => check_any a0 a1 p n vs (.agg #[f0, f1, f2, f3, f4, f5]) s q.fil W (hV.below hB) (hs.ag (Ag.new p hB)) (hq.fil.ag (Ag.new p hB)) hn hK)
  have HE : RowKit.Hid (Que.check s q = if Tess.schOk s then (if Que.isOf s q then (if decide (q.every ≠ 0) && !Tess.coarser s.grain q.every then 110 else Fil.checkE s q.fil) else 152) else 100) := Lib.hid rfl
  obtain ⟨vd, vm, rfl, _, _, _, _⟩ := hs
  have hv := hq.e
  subst hv
  clear hq hV
  obtain ⟨W0, hW0⟩ : ∃ W0, (w.alloc (.cells #[vd, vm, .int .i64 s.grain] 24)).alloc (.cells #[va, vb, .int .i64 q.mode, vS, .int .i64 q.every, f0, f1, f2, f3, f4, f5, vh, vo, .int .i64 q.limit] 63) = W0 := ⟨_, rfl⟩
  obtain ⟨h1, h2, hS0, hB0⟩ := laid2 w (.cells #[vd, vm, .int .i64 s.grain] 24) (.cells #[va, vb, .int .i64 q.mode, vS, .int .i64 q.every, f0, f1, f2, f3, f4, f5, vh, vo, .int .i64 q.limit] 63)
  rw [hW0] at h1 h2 hS0 hB0
  have HBX := Lib.hid (fun X (hX : Below W0.heap.size W0 X) => And.intro (can3 ((hX.block _ (Array.getElem?_eq_some_iff.1 h1).1).trans h1)).1 (can14 ((hX.block _ (Array.getElem?_eq_some_iff.1 h2).1).trans h2)).1)
  have HG := Lib.hid (fun W => coarser_any s.grain q.every W)
  have HB0 := Lib.hid hB0
  have hB00 := Below.refl W0.heap.size W0
  clear h1 h2 hS0 hB0
  obtain ⟨⟨x0, x1, x2⟩, y0, y1, y2, y3, y4, y5, y6, y7, y8, y9, ya, yb, yc, yd⟩ := HBX.out W0 hB00
  generalize Que.check s q = r at *
  generalize Tess.schOk s = c1 at *
  generalize Que.isOf s q = c2 at *
  generalize Tess.coarser s.grain q.every = c3 at *
  generalize Fil.checkE s q.fil = c4 at *
  go_enter Tryd.func48, Tryd.ntmps48
  go_wp2_with (fail)
  go_at_call 29
  refine (HR.out W0 HB0.out).mono ?_
  rintro e W1 ⟨rfl, hx⟩
  have hB1 := Bt hB00 hx
  clear hx x0 x1 x2 y0 y1 y2 y3 y4 y5 y6 y7 y8 y9 ya yb yc yd
  obtain ⟨⟨x0, x1, x2⟩, y0, y1, y2, y3, y4, y5, y6, y7, y8, y9, ya, yb, yc, yd⟩ := HBX.out W1 hB1
  have HB1 := Lib.hid hB1
  clear hB1
  cases c1
  · have HZ := Lib.hid (show r = 100 from HE.out)
    go_wp2
    go_ret
    exact ⟨ret_int (by rw [HZ.out]; rfl), Bt HB0.out HB1.out⟩
  have HE := Lib.hid (show r = if c2 then (if decide (q.every ≠ 0) && !c3 then 110 else c4) else 152 from HE.out)
  go_wp2_with (fail)
  go_at_call 75
  refine (HI.out W1 (Bt HB0.out HB1.out)).mono ?_
  rintro e W2 ⟨rfl, hx⟩
  have hB2 := Bt HB1.out hx
  clear hx x0 x1 x2 y0 y1 y2 y3 y4 y5 y6 y7 y8 y9 ya yb yc yd
  obtain ⟨⟨x0, x1, x2⟩, y0, y1, y2, y3, y4, y5, y6, y7, y8, y9, ya, yb, yc, yd⟩ := HBX.out W2 hB2
  have HB2 := Lib.hid hB2
  clear hB2
  cases c2
  · have HZ := Lib.hid (show r = 152 from HE.out)
    go_wp2
    go_ret
    exact ⟨ret_int (by rw [HZ.out]; rfl), Bt HB0.out HB2.out⟩
  have HE := Lib.hid (show r = if decide (q.every ≠ 0) && !c3 then 110 else c4 from HE.out)
  by_cases h0 : q.every = 0
  · have HZ := Lib.hid (show r = c4 by rw [HE.out]; simp [h0])
    have h0b : (q.every != 0) = false := by simp [h0]
    clear h0
    go_wp2_with (go_at_call 14; refine (HF.out _ (Bt HB0.out HB2.out)).mono ?_; rintro e W3 ⟨rfl, hx⟩; have HB3 := Lib.hid (Bt HB2.out hx); clear hx)
    go_ret
    exact ⟨ret_int (by rw [HZ.out]), Bt HB0.out HB3.out⟩
  · have h0b : (q.every != 0) = true := by simp [h0]
    have HZ := Lib.hid (show r = if c3 then c4 else 110 by rw [HE.out]; cases c3 <;> simp [h0])
    clear h0
    go_wp2_with (fail)
    go_at_call 76
    refine (HG.out W2).mono ?_
    rintro e W3 ⟨rfl, hx⟩
    have hB3 := Bt HB2.out hx
    clear hx x0 x1 x2 y0 y1 y2 y3 y4 y5 y6 y7 y8 y9 ya yb yc yd
    obtain ⟨⟨x0, x1, x2⟩, y0, y1, y2, y3, y4, y5, y6, y7, y8, y9, ya, yb, yc, yd⟩ := HBX.out W3 hB3
    have HB3 := Lib.hid hB3
    clear hB3
    cases c3
    · go_wp2
      go_ret
      exact ⟨ret_int (by rw [HZ.out]; rfl), Bt HB0.out HB3.out⟩
    · go_wp2_with (go_at_call 14; refine (HF.out _ (Bt HB0.out HB3.out)).mono ?_; rintro e W4 ⟨rfl, hx⟩; have HB4 := Lib.hid (Bt HB3.out hx); clear hx)
      go_ret
      exact ⟨ret_int (by rw [HZ.out]; rfl), Bt HB0.out HB4.out⟩
end Go.Proofs.YtdfnolgcdododaaDoor
