/- Merged by merge.py: G1, G2, G3, G4, G5, G6: the document's functions, walked. -/
import Derived.Test.YtdfnolgcdododaaDoorF18
import Derived.Test.YtdfnolgcdododaaDoorF23
import Derived.Test.YtdfnolgcdododaaDoorF32
import Derived.Laws.AppendOwnNone
namespace Go.Proofs.YtdfnolgcdododaaDoor
open Go.RowKit Go.Sort
open Tess (Fil)
open Tess.Fil (spanOk grainOk spanFits spanHas)

set_option maxHeartbeats 1000000 in
theorem rgRight_any (a b : Int) (w : World) : Calls Tryd.prog 96 #[.agg #[.int .i64 a, .int .i64 b]] w fun e w' => e = .returned (.bool (spanOk a b)) ∧ Below w.heap.size w w' := by
  unfold spanOk
  by_cases h1 : 0 ≤ a
  · have d1 : decide (0 ≤ a) = true := decide_eq_true h1
    by_cases h2 : a ≤ b
    · have d2 : decide (a ≤ b) = true := decide_eq_true h2
      obtain ⟨r, hr⟩ : ∃ r, decide (b ≤ 1000000000001) = r := ⟨_, rfl⟩
      rw [d1, d2, hr]
      go_enter Tryd.func96, Tryd.ntmps96
      go_wp2
      go_ret
      exact ⟨rfl, (Below.refl _ _).alloc (Nat.le_refl _) _⟩
    · have d2 : decide (a ≤ b) = false := decide_eq_false h2
      rw [d1, d2, Bool.true_and, Bool.false_and]
      go_enter Tryd.func96, Tryd.ntmps96
      go_wp2
      go_ret
      exact ⟨rfl, (Below.refl _ _).alloc (Nat.le_refl _) _⟩
  · have d1 : decide (0 ≤ a) = false := decide_eq_false h1
    rw [d1, Bool.false_and, Bool.false_and]
    go_enter Tryd.func96, Tryd.ntmps96
    go_wp2
    go_ret
    exact ⟨rfl, (Below.refl _ _).alloc (Nat.le_refl _) _⟩

set_option maxRecDepth 100000 in
theorem risGrain_any (g : Int) (w : World) : Calls Tryd.prog 100 #[.int .i64 g] w fun e w' => e = .returned (.bool (grainOk g)) ∧ w = w' := by
  unfold grainOk
  by_cases h1 : 1 ≤ g
  · have d1 : decide (1 ≤ g) = true := decide_eq_true h1
    rw [d1, Bool.true_and]
    generalize hr : decide (g ≤ 1000000000) = r
    go_enter Tryd.func100, Tryd.ntmps100
    go_wp2
    go_ret
    exact ⟨rfl, rfl⟩
  · have d1 : decide (1 ≤ g) = false := decide_eq_false h1
    rw [d1, Bool.false_and]
    go_enter Tryd.func100, Tryd.ntmps100
    go_wp2
    go_ret
    exact ⟨rfl, rfl⟩
set_option maxRecDepth 100000 in
set_option maxHeartbeats 1000000 in
theorem rgHas_any (a b t : Int) (w : World) : Calls Tryd.prog 63 #[.agg #[.int .i64 a, .int .i64 b], .int .i64 t] w fun e w' => e = .returned (.bool (spanHas a b t)) ∧ Below w.heap.size w w' := by
  have HR := Lib.hid (fun w => rgRight_any a b w)
  unfold spanHas
  cases hok : spanOk a b
  · rw [hok] at HR
    rw [Bool.false_and, Bool.false_and]
    go_enter Tryd.func63, Tryd.ntmps63
    go_wp2_with (go_at_call 96; refine (HR.out _).mono ?_; rintro e w2 ⟨rfl, hB⟩; have HB := Lib.hid (((Below.refl _ _).alloc (Nat.le_refl _) _).trans (hB.mono (by simp))); clear hB)
    go_ret
    exact ⟨rfl, HB.out⟩
  · rw [hok] at HR
    by_cases h1 : a ≤ t
    · have d1 : decide (a ≤ t) = true := decide_eq_true h1
      obtain ⟨r, hr⟩ : ∃ r, decide (t < b) = r := ⟨_, rfl⟩
      rw [d1, hr]
      go_enter Tryd.func63, Tryd.ntmps63
      go_wp2_with (go_at_call 96; refine (HR.out _).mono ?_; rintro e w2 ⟨rfl, hB⟩; have c0 := hB.cell (p := ⟨w.heap.size, 0, none⟩) (by simp); have c1 := hB.cell (p := ⟨w.heap.size, 1, none⟩) (by simp); simp at c0 c1; have HB := Lib.hid (((Below.refl _ _).alloc (Nat.le_refl _) _).trans (hB.mono (by simp))); clear hB)
      go_ret
      exact ⟨rfl, HB.out⟩
    · have d1 : decide (a ≤ t) = false := decide_eq_false h1
      rw [d1, Bool.and_false, Bool.false_and]
      go_enter Tryd.func63, Tryd.ntmps63
      go_wp2_with (go_at_call 96; refine (HR.out _).mono ?_; rintro e w2 ⟨rfl, hB⟩; have c0 := hB.cell (p := ⟨w.heap.size, 0, none⟩) (by simp); have c1 := hB.cell (p := ⟨w.heap.size, 1, none⟩) (by simp); simp at c0 c1; have HB := Lib.hid (((Below.refl _ _).alloc (Nat.le_refl _) _).trans (hB.mono (by simp))); clear hB)
      go_ret
      exact ⟨rfl, HB.out⟩
set_option maxRecDepth 100000 in
set_option maxHeartbeats 2000000 in
theorem rgFits_any (a b g : Int) (w : World) : Calls Tryd.prog 68 #[.agg #[.int .i64 a, .int .i64 b], .int .i64 g] w fun e w' => e = .returned (.bool (spanFits a b g)) ∧ Below w.heap.size w w' := by
  have HR := Lib.hid (fun w => rgRight_any a b w)
  have HG := Lib.hid (fun w => risGrain_any g w)
  have HF : RowKit.Hid (spanFits a b g = (spanOk a b && grainOk g && decide (a % g = 0) && (decide (b = 1000000000001) || decide (b % g = 0)))) := Lib.hid rfl
  cases hok : spanOk a b
  · rw [hok] at HR HF
    rw [HF.out, Bool.false_and, Bool.false_and, Bool.false_and]
    clear HF
    go_enter Tryd.func68, Tryd.ntmps68
    go_wp2_with (go_at_call 96; refine (HR.out _).mono ?_; rintro e w2 ⟨rfl, hB⟩; have HB := Lib.hid (((Below.refl _ _).alloc (Nat.le_refl _) _).trans (hB.mono (by simp))); clear hB)
    go_ret
    exact ⟨rfl, HB.out⟩
  · have hab : 0 ≤ a ∧ a ≤ b ∧ b ≤ 1000000000001 := by unfold spanOk at hok; simp at hok; omega
    obtain ⟨ha, hab, hb⟩ := hab
    rw [hok] at HR HF
    cases hg : grainOk g
    · rw [hg] at HG HF
      rw [HF.out, Bool.true_and, Bool.false_and, Bool.false_and]
      clear HF
      go_enter Tryd.func68, Tryd.ntmps68
      go_wp2_with (first
        | (go_at_call 96; refine (HR.out _).mono ?_; rintro e w2 ⟨rfl, hB⟩; have HB := Lib.hid (((Below.refl _ _).alloc (Nat.le_refl _) _).trans (hB.mono (by simp))); clear hB)
        | (go_at_call 100; refine (HG.out _).mono ?_; rintro e w3 ⟨rfl, rfl⟩; have HB3 := HB))
      go_ret
      exact ⟨rfl, HB3.out⟩
    · have hg1 : 1 ≤ g ∧ g ≤ 1000000000 := by unfold grainOk at hg; simpa using hg
      obtain ⟨hg1, hg2⟩ := hg1
      rw [hg] at HG HF
      obtain ⟨r1, hr1⟩ : ∃ r, ((a % g : Int) == 0) = r := ⟨_, rfl⟩
      obtain ⟨r2, hr2⟩ : ∃ r, decide (1000000000000 < b) = r := ⟨_, rfl⟩
      obtain ⟨r3, hr3⟩ : ∃ r, ((b % g : Int) == 0) = r := ⟨_, rfl⟩
      have e1 : decide (a % g = 0) = r1 := by rw [← hr1]; rfl
      have e2 : decide (b = 1000000000001) = r2 := by rw [← hr2]; exact decide_eq_decide.2 (by omega)
      have e3 : decide (b % g = 0) = r3 := by rw [← hr3]; rfl
      rw [e1, e2, e3, Bool.true_and, Bool.true_and] at HF
      have hb0 : 0 ≤ b := by omega
      clear e1 e2 e3 hok hg
      rw [HF.out]
      clear HF
      cases r1 <;> cases r2 <;> cases r3
      all_goals
        go_enter Tryd.func68, Tryd.ntmps68
        go_wp2_with (first
          | (go_at_call 96; refine (HR.out _).mono ?_; rintro e w2 ⟨rfl, hB⟩; have c0 := hB.cell (p := ⟨w.heap.size, 0, none⟩) (by simp); have c1 := hB.cell (p := ⟨w.heap.size, 1, none⟩) (by simp); simp at c0 c1; have hsz := hB.size; simp at hsz; have hlt : w.heap.size < w2.heap.size := (by omega); have HB := Lib.hid (((Below.refl _ _).alloc (Nat.le_refl _) _).trans (hB.mono (by simp))); clear hB)
          | (go_at_call 100; refine (HG.out _).mono ?_; rintro e w3 ⟨rfl, rfl⟩; have HB3 := HB))
        go_ret
        exact ⟨rfl, HB3.out⟩
set_option maxHeartbeats 1000000 in
theorem ahead_any (a b : ByteArray) (w : World) (ha : a.size ≤ maxLen) :
    Calls Tryd.prog 98 #[.string a, .string b] w fun e w' => e = .returned (.bool (Tess.bl a b)) ∧ Below w.heap.size w w' := by
  unfold maxLen at ha
  go_enter Tryd.func98, Tryd.ntmps98
  go_wp2
  go_loopw [5] (fun i wr => ∃ k : Nat, k ≤ a.size ∧ k ≤ b.size ∧ i = .int .i64 k ∧ a.data.toList.take k = b.data.toList.take k ∧ Below w.heap.size w wr) (fun i _ => a.size - (intOf i).toNat)
  case atStart => exact ⟨0, Nat.zero_le _, Nat.zero_le _, rfl, rfl, Below.refl _ _⟩
  case round =>
    obtain ⟨k, hka, hkb, rfl, heq, hB⟩ := hrel
    have HB := Lib.hid hB
    clear hB
    have HE := Lib.hid heq
    clear heq
    by_cases h1 : k < a.size
    · have h1i : (k : Int) < (a.size : Int) := by omega
      by_cases h2 : k < b.size
      · have h2i : (k : Int) < (b.size : Int) := by omega
        by_cases he : a[k] = b[k]
        · have hen : ((a[k].toNat : Int) != (b[k].toNat : Int)) = false := by rw [he]; simp
          have HX := Lib.hid he
          clear he
          go_wp2
          go_quiet (fail)
          go_wp2
          go_roundw
          case rel => exact ⟨k + 1, by omega, by omega, by go_num, Tess.take_more a b k h1 h2 HE.out HX.out, below_drewN HB.out _⟩
          case measure => simp [intOf]; omega
        · have hne : a[k].toNat ≠ b[k].toNat := fun e => he (UInt8.toNat_inj.1 e)
          have hen : ((a[k].toNat : Int) != (b[k].toNat : Int)) = true := by rw [bne_iff_ne]; omega
          have HX := Lib.hid (Tess.bl_at a b k h1 h2 HE.out he)
          clear he
          go_wp2
          go_quiet (fail)
          go_wp2
          go_quiet (fail)
          go_wp2
          go_ret
          refine ⟨ret_bool' ?_, below_drewN (below_drewN HB.out _) _⟩
          rw [HX.out]
      · have h2i : ¬ (k : Int) < (b.size : Int) := by omega
        have HX := Lib.hid (Tess.bl_end a b k hka hkb HE.out (.inr (by omega)))
        go_wp2
        go_ret
        refine ⟨ret_bool' ?_, HB.out⟩
        rw [HX.out]
    · have h1i : ¬ (k : Int) < (a.size : Int) := by omega
      have HX := Lib.hid (Tess.bl_end a b k hka hkb HE.out (.inl (by omega)))
      go_wp2
      go_ret
      refine ⟨ret_bool' ?_, HB.out⟩
      rw [HX.out]
set_option maxRecDepth 100000 in
theorem rbetween_any (n a b : Nat) (w : World) : Calls Tryd.prog 99 #[.int .i64 n, .int .i64 a, .int .i64 b] w fun e w' => e = .returned (.bool (Tess.Fil.inW n (a, b))) ∧ w = w' := by
  unfold Tess.Fil.inW
  by_cases h1 : a ≤ n
  · have h1i : (a : Int) ≤ (n : Int) := by omega
    have h1d : decide ((a : Int) ≤ (n : Int)) = true := decide_eq_true h1i
    obtain ⟨r, hr⟩ : ∃ r, decide (n ≤ b) = r := ⟨_, rfl⟩
    have hri : decide ((n : Int) ≤ (b : Int)) = r := by rw [← hr]; exact decide_eq_decide.2 (by omega)
    rw [decide_eq_true h1, hr]
    go_enter Tryd.func99, Tryd.ntmps99
    go_wp2
    go_ret
    exact ⟨rfl, rfl⟩
  · have h1d : decide ((a : Int) ≤ (n : Int)) = false := decide_eq_false (by omega)
    rw [decide_eq_false h1, Bool.false_and]
    go_enter Tryd.func99, Tryd.ntmps99
    go_wp2
    go_ret
    exact ⟨rfl, rfl⟩
end Go.Proofs.YtdfnolgcdododaaDoor
namespace Go.Proofs.YtdfnolgcdododaaDoor
open Go.RowKit Go.Sort
open Tess (Fil hasW idxW)

theorem list_eq_of {a b : List ByteArray} (hl : a.length = b.length) (h : ∀ j (h1 : j < a.length) (h2 : j < b.length), a[j] = b[j]) : a = b := List.ext_getElem hl h
set_option maxHeartbeats 1000000 in
theorem rTexts_any (p q : Nat → Prop) (va vb : Value) (a b : List ByteArray) (w : World) (ha : SlP p w va (a.map .string)) (hb : SlP q w vb (b.map .string)) :
    Calls Tryd.prog 40 #[va, vb] w fun e w' => e = .returned (.bool (decide (a = b))) ∧ Below w.heap.size w w' := by
  obtain ⟨aa, ac, rfl, hal, hac⟩ := sls_open ha.1
  obtain ⟨ba, bc, rfl, hbl, hbc⟩ := sls_open hb.1
  have HA := Lib.hid hac
  have HBc := Lib.hid hbc
  clear ha hb hac hbc
  by_cases hl : a.length = b.length
  · have HL := Lib.hid hl
    have hl' : ((a.length : Int) != (b.length : Int)) = false := by rw [bne_eq_false_iff_eq]; omega
    clear hl
    go_enter Tryd.func40, Tryd.ntmps40
    go_wp2
    go_loopw [5] (fun i wr => ∃ k : Nat, k ≤ a.length ∧ i = .int .i64 k ∧ (∀ j (h1 : j < a.length) (h2 : j < b.length), j < k → a[j] = b[j]) ∧ Below w.heap.size w wr) (fun i _ => a.length - (intOf i).toNat)
    case atStart => exact ⟨0, Nat.zero_le _, rfl, fun j _ _ h => absurd h (Nat.not_lt_zero _), Below.refl _ _⟩
    case round =>
      obtain ⟨k, hk, rfl, hall, hB⟩ := hrel
      have HALL := Lib.hid hall
      have HB := Lib.hid hB
      clear hall hB
      by_cases hlt : k < a.length
      · have hlb : k < b.length := by have := HL.out; omega
        obtain ⟨b1, o1, rfl, hb1, hc1⟩ := HA.out k hlt
        obtain ⟨b2, o2, rfl, hb2, hc2⟩ := HBc.out k hlb
        obtain ⟨x, hx⟩ : ∃ x, x = a[k] := ⟨_, rfl⟩
        obtain ⟨y, hy⟩ : ∃ y, y = b[k] := ⟨_, rfl⟩
        rw [← hx] at hc1
        rw [← hy] at hc2
        have e1 := (HB.out.cell (p := ⟨b1, o1 + k, none⟩) hb1).trans hc1
        have e2 := (HB.out.cell (p := ⟨b2, o2 + k, none⟩) hb2).trans hc2
        have hki : (k : Int) < (a.length : Int) := by omega
        have HXY := Lib.hid (And.intro hx hy)
        clear hx hy hc1 hc2
        cases he : (x.toList == y.toList)
        · have hne : (x.toList != y.toList) = true := by simp [bne, he]
          have HE := Lib.hid (str_ne' he)
          go_wp2
          go_quiet (fail)
          go_wp2
          go_ret
          refine ⟨ret_bool' ?_, below_drewN HB.out _⟩
          refine (decide_eq_false fun e => HE.out ?_).symm
          rw [HXY.out.1, HXY.out.2]
          subst e; rfl
        · have hne : (x.toList != y.toList) = false := by simp [bne, he]
          have HE := Lib.hid (str_eq' he)
          go_wp2
          go_quiet (fail)
          go_wp2
          go_roundw
          case rel =>
            refine ⟨k + 1, by omega, by go_num, fun j h1 h2 hjk => ?_, below_drewN HB.out _⟩
            by_cases hjk' : j < k
            · exact HALL.out j h1 h2 hjk'
            · obtain rfl : j = k := by omega
              rw [← HXY.out.1, ← HXY.out.2]; exact HE.out
          case measure => simp [intOf]; omega
      · have hki : ¬ (k : Int) < (a.length : Int) := by omega
        go_wp2
        go_ret
        refine ⟨ret_bool' (decide_eq_true (list_eq_of HL.out fun j h1 h2 => HALL.out j h1 h2 (by omega))).symm, HB.out⟩
  · have hl' : ((a.length : Int) != (b.length : Int)) = true := by rw [bne_iff_ne]; omega
    have HN := Lib.hid (show a ≠ b from fun e => hl (by rw [e]))
    clear hl
    go_enter Tryd.func40, Tryd.ntmps40
    go_wp2
    go_ret
    exact ⟨ret_bool' (decide_eq_false HN.out).symm, Below.refl _ _⟩
set_option maxHeartbeats 1000000 in
theorem rplace_any (p : Nat → Prop) (va : Value) (a : List ByteArray) (x : ByteArray) (w : World) (ha : SlP p w va (a.map .string)) :
    Calls Tryd.prog 97 #[va, .string x] w fun e w' => e = .returned (.tuple #[.int .i64 (Tess.placeW true a x).1, .bool (Tess.placeW true a x).2]) ∧ Below w.heap.size w w' := by
  obtain ⟨aa, ac, rfl, hal, hac⟩ := sls_open ha.1
  have HA := Lib.hid hac
  clear ha hac
  go_enter Tryd.func97, Tryd.ntmps97
  go_wp2
  go_loopw [6] (fun i wr => ∃ k : Nat, k ≤ a.length ∧ i = .int .i64 k ∧ (∀ j (h1 : j < a.length), j < k → a[j] ≠ x) ∧ Below w.heap.size w wr) (fun i _ => a.length - (intOf i).toNat)
  case atStart => exact ⟨0, Nat.zero_le _, rfl, fun j _ h => absurd h (Nat.not_lt_zero _), Below.refl _ _⟩
  case round =>
    obtain ⟨k, hk, rfl, hall, hB⟩ := hrel
    have HALL := Lib.hid hall
    have HB := Lib.hid hB
    clear hall hB
    by_cases hlt : k < a.length
    · obtain ⟨b1, o1, rfl, hb1, hc1⟩ := HA.out k hlt
      obtain ⟨y, hy⟩ : ∃ y, y = a[k] := ⟨_, rfl⟩
      rw [← hy] at hc1
      have e1 := (HB.out.cell (p := ⟨b1, o1 + k, none⟩) hb1).trans hc1
      have hki : (k : Int) < (a.length : Int) := by omega
      have HY := Lib.hid hy
      clear hy hc1
      cases he : (y.toList == x.toList)
      · have HE := Lib.hid (str_ne' he)
        go_wp2
        go_roundw
        case rel =>
          refine ⟨k + 1, by omega, by go_num, fun j h1 hjk => ?_, HB.out⟩
          by_cases hjk' : j < k
          · exact HALL.out j h1 hjk'
          · obtain rfl : j = k := by omega
            rw [← HY.out]; exact HE.out
        case measure => simp [intOf]; omega
      · have HE := Lib.hid (str_eq' he)
        have HP := Lib.hid (show Tess.placeW true a x = (k, true) from by
          have hm : a[k] = x := by rw [← HY.out]; exact HE.out
          unfold Tess.placeW
          rw [if_pos (by rw [Bool.true_and]; exact (Tess.hasW_iff _ _).2 (hm ▸ List.getElem_mem hlt)), Tess.idxW_at a x k hlt hm fun j hj hjk => HALL.out j hj hjk])
        go_wp2
        refine bodyPost_ret (v := .tuple #[.int .i64 (k : Int), .bool true]) (by simp [results, Tryd.results97, go_sem]) rfl ⟨by rw [HP.out], HB.out⟩
    · have hki : ¬ (k : Int) < (a.length : Int) := by omega
      have HP := Lib.hid (show Tess.placeW true a x = (0, false) from by
        unfold Tess.placeW
        rw [if_neg]
        rw [Bool.true_and, Tess.hasW_iff]
        intro hm
        obtain ⟨j, hj, e⟩ := List.getElem_of_mem hm
        exact HALL.out j hj (by omega) e)
      go_wp2
      refine bodyPost_ret (v := .tuple #[.int .i64 (0 : Int), .bool false]) (by simp [results, Tryd.results97, go_sem]) rfl ⟨by rw [HP.out]; rfl, HB.out⟩
end Go.Proofs.YtdfnolgcdododaaDoor
namespace Go.Proofs.YtdfnolgcdododaaDoor
open Go.RowKit Go.Sort
open Tess (Fil hasW idxW nameOk nameTo isLow isRest)

theorem name_empty (s : ByteArray) (h : s.size = 0) : nameOk s = false := by
  have : s.data.toList = [] := List.eq_nil_of_length_eq_zero (by simpa using h)
  unfold nameOk; rw [this]; simp [Tess.nameL]
theorem name_long (s : ByteArray) (h : ¬ s.size ≤ 20) : nameOk s = false := by
  unfold nameOk; rw [decide_eq_false h, Bool.false_and]
set_option maxHeartbeats 1000000 in
theorem rIsName_any (s : ByteArray) (w : World) (hs : s.size ≤ maxLen) : Calls Tryd.prog 66 #[.string s] w fun e w' => e = .returned (.bool (nameOk s)) ∧ Below w.heap.size w w' := by
  have hs' : s.size ≤ 9223372036854775807 := by unfold maxLen at hs; omega
  by_cases h0 : s.size = 0
  · have HR := Lib.hid (name_empty s h0)
    have d0 : (s.size : Int) < 1 := by omega
    clear h0
    go_enter Tryd.func66, Tryd.ntmps66
    go_wp2
    go_ret
    exact ⟨ret_bool' HR.out.symm, Below.refl _ _⟩
  have hp : 0 < s.size := by omega
  have d0 : ¬ (s.size : Int) < 1 := by omega
  clear h0
  by_cases h20 : s.size ≤ 20
  · have d1 : ¬ (20 : Int) < (s.size : Int) := by omega
    have HC := Lib.hid (Tess.okc_not s 0 hp s[0].toNat rfl)
    by_cases hlow : 97 ≤ s[0].toNat ∧ s[0].toNat ≤ 122
    · obtain ⟨l1, l2⟩ := hlow
      have e1 : ¬ (s[0].toNat : Int) < 97 := by omega
      have e2 : ¬ (122 : Int) < (s[0].toNat : Int) := by omega
      have HL := Lib.hid (And.intro l1 l2)
      clear l1 l2
      go_enter Tryd.func66, Tryd.ntmps66
      go_wp2
      go_loopw [3] (fun i wr => ∃ k : Nat, k ≤ s.size ∧ i = .int .i64 k ∧ nameTo s k ∧ Below w.heap.size w wr) (fun i _ => s.size - (intOf i).toNat)
      case atStart => exact ⟨0, Nat.zero_le _, rfl, fun j _ h => absurd h (Nat.not_lt_zero _), Below.refl _ _⟩
      case round =>
        obtain ⟨k, hk, rfl, hto, hB⟩ := hrel
        have HTO := Lib.hid hto
        have HB := Lib.hid hB
        clear hto hB e1 e2
        by_cases hlt : k < s.size
        · have hki : (k : Int) < (s.size : Int) := by omega
          obtain ⟨c, hc⟩ : ∃ c, s[k].toNat = c := ⟨_, rfl⟩
          have HCC := Lib.hid hc.symm
          have hk0 : k = 0 → 97 ≤ c ∧ c ≤ 122 := fun e => by subst e; rw [← hc]; exact HL.out
          have HK0 := Lib.hid hk0
          clear hk0
          by_cases hA : 97 ≤ c ∧ c ≤ 122
          · have a1 : (97 : Int) ≤ (c : Int) := by omega
            have a2 : (c : Int) ≤ 122 := by omega
            have HX := Lib.hid (Tess.nameTo_succ hlt HTO.out ((Tess.okc_iff s k hlt c HCC.out).2 (.inl hA)))
            clear hA
            go_wp2
            go_roundw
            case rel => exact ⟨k + 1, by omega, by go_num, HX.out, HB.out⟩
            case measure => simp [intOf]; omega
          · have hkp : 0 < k := by
              rcases Nat.eq_zero_or_pos k with e | e
              · exact absurd (HK0.out e) hA
              · exact e
            have a1 : decide ((97 : Int) ≤ (c : Int)) = decide (97 ≤ c) := decide_eq_decide.2 (by omega)
            obtain ⟨r1, hr1⟩ : ∃ r, decide (97 ≤ c) = r := ⟨_, rfl⟩
            have a2 : r1 = true → decide ((c : Int) ≤ 122) = false := fun e => by
              have : 97 ≤ c := by rw [e] at hr1; exact of_decide_eq_true hr1
              exact decide_eq_false (by omega)
            rw [hr1] at a1
            by_cases hD : 48 ≤ c ∧ c ≤ 57
            · have b1 : decide ((48 : Int) ≤ (c : Int)) = true := decide_eq_true (by omega)
              have b2 : decide ((c : Int) ≤ 57) = true := decide_eq_true (by omega)
              have HX := Lib.hid (Tess.nameTo_succ hlt HTO.out ((Tess.okc_iff s k hlt c HCC.out).2 (.inr ⟨hkp, .inr hD⟩)))
              clear hD hA hr1
              cases r1
              · clear a2
                go_wp2
                go_roundw
                case rel => exact ⟨k + 1, by omega, by go_num, HX.out, HB.out⟩
                case measure => simp [intOf]; omega
              · have a2 := a2 rfl
                go_wp2
                go_roundw
                case rel => exact ⟨k + 1, by omega, by go_num, HX.out, HB.out⟩
                case measure => simp [intOf]; omega
            · have b1 : decide ((48 : Int) ≤ (c : Int)) = decide (48 ≤ c) := decide_eq_decide.2 (by omega)
              obtain ⟨r2, hr2⟩ : ∃ r, decide (48 ≤ c) = r := ⟨_, rfl⟩
              have b2 : r2 = true → decide ((c : Int) ≤ 57) = false := fun e => by
                have : 48 ≤ c := by rw [e] at hr2; exact of_decide_eq_true hr2
                exact decide_eq_false (by omega)
              rw [hr2] at b1
              by_cases hU : c = 95
              · have u1 : ((c : Int) == 95) = true := beq_iff_eq.2 (by omega)
                have HX := Lib.hid (Tess.nameTo_succ hlt HTO.out ((Tess.okc_iff s k hlt c HCC.out).2 (.inr ⟨hkp, .inl hU⟩)))
                clear hU hD hA hr1 hr2
                cases r1 <;> cases r2
                all_goals
                  try have a2 := a2 rfl
                  try have b2 := b2 rfl
                  go_wp2
                  go_roundw
                  case rel => exact ⟨k + 1, by omega, by go_num, HX.out, HB.out⟩
                  case measure => simp [intOf]; omega
              · have u1 : ((c : Int) == 95) = false := beq_eq_false_iff_ne.2 (by omega)
                have HX := Lib.hid (Tess.nameOk_not s k hlt (Tess.okc_not s k hlt c HCC.out (by omega)))
                clear hU hD hA hr1 hr2
                cases r1 <;> cases r2
                all_goals
                  try have a2 := a2 rfl
                  try have b2 := b2 rfl
                  go_wp2
                  go_ret
                  exact ⟨ret_bool' HX.out.symm, HB.out⟩
        · have hki : ¬ (k : Int) < (s.size : Int) := by omega
          have HX := Lib.hid (show nameOk s = true from by
            have hks : k = s.size := by omega
            rw [Tess.nameOk_end s (hks ▸ HTO.out), decide_eq_true hp, decide_eq_true h20]; rfl)
          go_wp2
          go_ret
          exact ⟨ret_bool' HX.out.symm, HB.out⟩
    · have HX := Lib.hid (Tess.nameOk_not s 0 hp (HC.out (by omega)))
      by_cases hl1 : 97 ≤ s[0].toNat
      · have e1 : ¬ (s[0].toNat : Int) < 97 := by omega
        have e2 : (122 : Int) < (s[0].toNat : Int) := by omega
        clear hlow
        go_enter Tryd.func66, Tryd.ntmps66
        go_wp2
        go_ret
        exact ⟨ret_bool' HX.out.symm, Below.refl _ _⟩
      · have e1 : (s[0].toNat : Int) < 97 := by omega
        clear hlow
        go_enter Tryd.func66, Tryd.ntmps66
        go_wp2
        go_ret
        exact ⟨ret_bool' HX.out.symm, Below.refl _ _⟩
  · have HR := Lib.hid (name_long s h20)
    have d1 : (20 : Int) < (s.size : Int) := by omega
    clear h20
    go_enter Tryd.func66, Tryd.ntmps66
    go_wp2
    go_ret
    exact ⟨ret_bool' HR.out.symm, Below.refl _ _⟩
end Go.Proofs.YtdfnolgcdododaaDoor
namespace Tess
open Go
theorem distinct_of : ∀ {l : List ByteArray}, (∀ (i j : Nat) (hi : i < l.length) (hj : j < l.length), i < j → l[i] ≠ l[j]) → distinct l = true
  | [], _ => rfl
  | a :: r, h => by
    simp only [distinct, Bool.and_eq_true, Bool.not_eq_true']
    refine ⟨(hasW_not r a).2 fun hm => ?_, distinct_of fun i j hi hj hij => ?_⟩
    · obtain ⟨j, hj, e⟩ := List.getElem_of_mem hm
      exact h 0 (j + 1) (by simp) (by simpa using hj) (by omega) (by simpa using e.symm)
    · intro e
      exact h (i + 1) (j + 1) (by simpa using hi) (by simpa using hj) (by omega) (by simpa only [List.getElem_cons_succ] using e)
theorem distinct_not : ∀ {l : List ByteArray} (i j : Nat) (hi : i < l.length) (hj : j < l.length), i < j → l[i] = l[j] → distinct l = false
  | [], i, _, hi, _, _, _ => absurd hi (by simp)
  | a :: r, i, j, hi, hj, hij, e => by
    obtain ⟨j, rfl⟩ : ∃ k, j = k + 1 := ⟨j - 1, by omega⟩
    unfold distinct
    cases i with
    | zero =>
      have : hasW r a = true := (hasW_iff r a).2 (by simp only [List.getElem_cons_zero, List.getElem_cons_succ] at e; rw [e]; exact List.getElem_mem _)
      rw [this]; rfl
    | succ i => rw [distinct_not (l := r) i j (by simpa using hi) (by simpa using hj) (by omega) (by simpa using e), Bool.and_false]
end Tess
namespace Go.Proofs.YtdfnolgcdododaaDoor
open Go.RowKit Go.Sort
open Tess (Fil hasW idxW nameOk namesOk schOk)

theorem _root_.Go.Flow.flow_append_nil {P : Program} {ops : Array Oper} {o : Oper} {a : Act} {w : World} {V : Value → World → Prop} (s x : Operand) (t e : TypeId) (i : TypeInfo) (z : Value) (bytes : Nat) (ho : o.op = .call { callee := .builtin .append, args := #[s, x], argTypes := #[t, t] })
    (ht : P.underlying t = some (.slice e)) (hi : P.info? e = some i) (hz : i.zero = some z) (hsize : i.size = 1) (hby : i.bytes = bytes) (hzs : z.cells.size = 1)
    (hs : a.eval s = .slice none 0 0) (ad : Addr) (m c : Nat) (news : List Value) (hx : a.eval x = .slice (some ad) m c) (hl : news.length = m) (hnews : ∀ j u, news[j]? = some u → w.cell? (ad.add j) = some u) (h1 : ∀ u ∈ news, u.oneCell' = true)
    (h63 : m ≤ maxLen) (hbytes : m * bytes ≤ 140737488355328) (hw : Region.wanted o (yielded ops a.tmps) = true)
    (hV : ∀ v w', w'.ownsRow w.heap.size e 1 v m news → V v w') : Flow.Runs P ops o (.inr V) a w := by
  obtain ⟨v', w', hr, h2, h3, _⟩ := run_append_own (P := P) w w.heap.size t o.type e i z 1 bytes ht hi hz hsize hby hzs (by decide) (.slice none 0 0) 0 [] (World.ownsRow_nil _ _ _ _) ad m c news (by simpa using hl) hnews h1 (by simpa using h63) (by simpa using hbytes) (Nat.le_refl _)
  refine Flow.runs_ok (w' := w') (u := v') hw ?_ ((Below.refl _ _).grown h3 (Nat.le_refl _) (fun k e => by cases e)) (hV _ _ (by simpa using h2))
  unfold execOp
  simp only [ho, resolve, invoke, builtin, Sem.run_bind, Sem.run_pure, Result.andThen_ok, List.map_toArray, List.map_cons, List.map_nil, hs, hx, hr]
theorem owns_base {w : World} {N N' : Nat} {e : TypeId} {size : Nat} {v : Value} {n : Nat} {xs : List Value} (h : w.ownsRow N' e size v n xs) (hN : N ≤ N') : w.ownsRow N e size v n xs := by
  refine ⟨h.1, ?_⟩
  rcases h.2 with hn | ⟨g, cap, cur, rfl, hb, rest⟩
  · exact .inl hn
  · exact .inr ⟨g, cap, cur, rfl, Nat.le_trans hN hb, rest⟩
/-- An append of a list that may be none. -/
theorem wpList_append_opt {P : Program} {w : World} {ops : Array Oper} {rest : List Oper} {o : Oper} {a : Act} {Q : Exit → Act → World → Prop} (hgd : o.guard = none) (s x : Operand) (t : TypeId)
    (ho : o.op = .call { callee := .builtin .append, args := #[s, x], argTypes := #[t, t] })
    (base : Nat) (e : TypeId) (i : TypeInfo) (z : Value) (bytes : Nat) (ht : P.underlying t = some (.slice e)) (hi : P.info? e = some i) (hz : i.zero = some z)
    (hsize : i.size = 1) (hby : i.bytes = bytes) (hzs : z.cells.size = 1)
    (v : Value) (n : Nat) (xs : List Value) (hs : a.eval s = v) (hown : w.ownsRow base e 1 v n xs)
    (ad : Option Addr) (m c : Nat) (news : List Value) (hx : a.eval x = .slice ad m c) (hl : news.length = m) (hnil : ad = none → m = 0 ∧ c = 0) (hnews : ∀ b, ad = some b → ∀ j u, news[j]? = some u → w.cell? (b.add j) = some u) (h1 : ∀ u ∈ news, u.oneCell' = true)
    (h63 : n + m ≤ maxLen) (hbytes : (n + m) * bytes ≤ 140737488355328) (hbase : base ≤ w.heap.size)
    (h : ∀ v' w', w'.ownsRow base e 1 v' (n + m) (xs ++ news) → w.grownBy w' v.ownBlock → wpList P ops Q rest (a.put o.dst v') w') : wpList P ops Q (o :: rest) a w := by
  cases ad with
  | none =>
    obtain ⟨rfl, rfl⟩ := hnil rfl
    have hn : news = [] := List.eq_nil_of_length_eq_zero hl
    subst hn
    exact wpList_append_own_none hgd s x t ho base e i 1 ht hi v n xs hs hown hx (h v w (by simpa using hown) ⟨rfl, rfl, rfl, Nat.le_refl _, fun _ _ _ => rfl⟩)
  | some b => exact wpList_append_own _ hgd s x t ho base e i z 1 bytes ht hi hz hsize hby hzs (by decide) v n xs hs hown b m c news hx (by simpa using hl) (hnews b rfl) h1 h63 hbytes hbase fun v' w' h2 h3 _ => h v' w' h2 h3
def ownsN (N : Nat) (n : Nat) (xs : List Value) (v : Value) (w : World) : Prop := w.ownsRow N 9 1 v n xs
theorem ownsN_mono (N n : Nat) (xs : List Value) : Flow.Spec.mono (.inr (ownsN N n xs)) := fun _ _ _ h hb => owns_below h hb

set_option maxRecDepth 100000 in
set_option maxHeartbeats 2000000 in
theorem rRight_any (p : Nat → Prop) (vs : Value) (s : Tess.Sch) (w : World) (hs : SchAt p w vs s) :
    Calls Tryd.prog 34 #[vs] w fun e w' => e = .returned (.bool (schOk s)) ∧ Below w.heap.size w w' := by
  obtain ⟨vd, vm, rfl, hd, hm, hdz, hmz⟩ := hs
  obtain ⟨ds, ms, g⟩ := s
  simp only at hd hm hdz hmz ⊢
  obtain ⟨ad, capd, rfl, hld, hcd⟩ := sls_open hd.1
  obtain ⟨am, capm, rfl, hlm, hcm⟩ := sls_open hm.1
  have HNIL := Lib.hid hm.2.2
  have HE : RowKit.Hid (schOk ⟨ds, ms, g⟩ = ((decide (1 ≤ ds.length) && decide (ds.length ≤ 6)) && decide (ms.length ≤ 4) && decide (1 ≤ g) && decide (g ≤ 1000000000) && namesOk (ds ++ ms))) := Lib.hid rfl
  have HCD := Lib.hid hcd
  have HCM := Lib.hid hcm
  have HDZ := Lib.hid hdz
  have HMZ := Lib.hid hmz
  clear hd hm hcd hcm hdz hmz
  by_cases h1 : 1 ≤ ds.length
  rotate_left
  · rw [decide_eq_false h1] at HE
    have d1 : (ds.length : Int) < 1 := by omega
    clear h1
    go_enter Tryd.func34, Tryd.ntmps34
    go_wp2
    go_ret
    exact ⟨ret_bool' (by rw [HE.out]; simp), (laid1 _ _).2.2⟩
  by_cases h2 : ds.length ≤ 6
  rotate_left
  · rw [decide_eq_false h2] at HE
    have d1 : ¬ (ds.length : Int) < 1 := by omega
    have d2 : (6 : Int) < (ds.length : Int) := by omega
    clear h1 h2
    go_enter Tryd.func34, Tryd.ntmps34
    go_wp2
    go_ret
    exact ⟨ret_bool' (by rw [HE.out]; simp), (laid1 _ _).2.2⟩
  by_cases h3 : ms.length ≤ 4
  rotate_left
  · rw [decide_eq_false h3] at HE
    have d1 : ¬ (ds.length : Int) < 1 := by omega
    have d2 : ¬ (6 : Int) < (ds.length : Int) := by omega
    have d3 : (4 : Int) < (ms.length : Int) := by omega
    clear h1 h2 h3
    go_enter Tryd.func34, Tryd.ntmps34
    go_wp2
    go_ret
    exact ⟨ret_bool' (by rw [HE.out]; simp), (laid1 _ _).2.2⟩
  by_cases h4 : 1 ≤ g
  rotate_left
  · rw [decide_eq_false h4] at HE
    have d1 : ¬ (ds.length : Int) < 1 := by omega
    have d2 : ¬ (6 : Int) < (ds.length : Int) := by omega
    have d3 : ¬ (4 : Int) < (ms.length : Int) := by omega
    have d4 : g < 1 := by omega
    clear h1 h2 h3 h4
    go_enter Tryd.func34, Tryd.ntmps34
    go_wp2
    go_ret
    exact ⟨ret_bool' (by rw [HE.out]; simp), (laid1 _ _).2.2⟩
  by_cases h5 : g ≤ 1000000000
  rotate_left
  · rw [decide_eq_false h5] at HE
    have d1 : ¬ (ds.length : Int) < 1 := by omega
    have d2 : ¬ (6 : Int) < (ds.length : Int) := by omega
    have d3 : ¬ (4 : Int) < (ms.length : Int) := by omega
    have d4 : ¬ g < 1 := by omega
    have d5 : 1000000000 < g := by omega
    clear h1 h2 h3 h4 h5
    go_enter Tryd.func34, Tryd.ntmps34
    go_wp2
    go_ret
    exact ⟨ret_bool' (by rw [HE.out]; simp), (laid1 _ _).2.2⟩
  rw [decide_eq_true h1, decide_eq_true h2, decide_eq_true h3, decide_eq_true h4, decide_eq_true h5] at HE
  have d1 : ¬ (ds.length : Int) < 1 := by omega
  have d2 : ¬ (6 : Int) < (ds.length : Int) := by omega
  have d3 : ¬ (4 : Int) < (ms.length : Int) := by omega
  have d4 : ¬ g < 1 := by omega
  have d5 : ¬ 1000000000 < g := by omega
  have HLN := Lib.hid (And.intro h1 (And.intro h2 h3))
  obtain ⟨db, dof, rfl, hdb, hdc⟩ := HCD.out 0 (by omega)
  clear h1 h2 h3 h4 h5 hdc
  have HDA := Lib.hid (show ∀ j u, (ds.map Value.string)[j]? = some u → w.cell? ((⟨db, dof, none⟩ : Addr).add j) = some u from fun j u hj => by
    rw [List.getElem?_map] at hj
    obtain ⟨x, hx, rfl⟩ := Option.map_eq_some_iff.1 hj
    obtain ⟨hj', rfl⟩ := List.getElem?_eq_some_iff.1 hx
    obtain ⟨b, off, ha, hb, h⟩ := HCD.out j hj'
    cases ha
    rw [show (⟨db, dof, none⟩ : Addr).add j = ⟨db, dof + j, none⟩ by unfold Addr.add; split <;> simp_all]
    exact h)
  obtain ⟨W0, hW0⟩ : ∃ W0, w.alloc (.cells #[.slice (some ⟨db, dof, none⟩) ds.length capd, .slice am ms.length capm, .int .i64 g] 24) = W0 := ⟨_, rfl⟩
  obtain ⟨k0, kS, kB⟩ := laid1 w (.cells #[.slice (some ⟨db, dof, none⟩) ds.length capd, .slice am ms.length capm, .int .i64 g] 24)
  rw [hW0] at k0 kS kB
  obtain ⟨⟨x0, x1, x2⟩, _⟩ := can3 k0
  have HB := Lib.hid kB
  have hb0 : w.heap.size < W0.heap.size := by omega
  obtain ⟨i0, hi, hz0, hz1, hz2⟩ := info_parts infoStr
  clear k0 kS kB
  go_enter Tryd.func34, Tryd.ntmps34
  go_wp2_with (fail)
  clear hW0
  refine Flow.wp_region_flow_tail 6 (Flow.specs [.inl ?_, .inl ?_, .inl ?_, .inr (ownsN W0.heap.size ds.length (ds.map .string)), .inl ?_, .inl ?_]) (by kernel_rfl) (by kernel_rfl) ?_ ?_
  rotate_left 5
  · refine Flow.specs_mono ?_
    repeat (first | exact Flow.lmono_nil | refine Flow.lmono_inl ?_ | refine Flow.lmono_inr (ownsN_mono _ _ _) ?_)
  all_goals try simp only [List.take_succ_cons, List.take_zero, List.drop_succ_cons, List.drop_zero]
  iterate 3 (refine Flow.tree_valK rfl (fun K hK => ⟨fun w hw hG => ?_, ?_⟩); (have hcl := Flow.bcell hw; clear hG hw; unfold Flow.Runs Flow.yields; go_simp; try rfl); go_simp; refine hK _ ?_; clear hK K)
  refine Flow.tree_varK rfl (fun K hK => ⟨fun w5 hw hG => ?_, ?_⟩)
  · have HW := Lib.hid hw
    clear hG hw
    refine Flow.flow_append_nil _ _ 22 9 i0 (.string ByteArray.empty) 16 rfl Tryd.underlying22 hi hz0 hz1 hz2 rfl rfl ⟨db, dof, none⟩ ds.length capd (ds.map .string) rfl (by simp) (fun j u hj => ?_) (fun u hu => ?_) ?_ ?_ ?_ (fun v w' h => ?_)
    · exact ((Bt HB.out HW.out).cell (World.block_lt_of_cell? _ _ (HDA.out j u hj))).trans (HDA.out j u hj)
    · obtain ⟨y, _, rfl⟩ := List.mem_map.1 hu; rfl
    · unfold maxLen; omega
    · have := HLN.out; omega
    · simp [Region.wanted]
    · exact owns_base h HW.out.size
  intro vz
  go_simp
  refine hK _ _ ?_
  clear hK K
  iterate 2 (refine Flow.tree_valK rfl (fun K hK => ⟨fun w hw hG => ?_, ?_⟩); (have hcl := Flow.bcell hw; clear hG hw; unfold Flow.Runs Flow.yields; go_simp; try rfl); go_simp; refine hK _ ?_; clear hK K)
  refine Flow.tree_nil fun w2 hw2 hG => ?_
  have HO := Lib.hid (show ownsN W0.heap.size ds.length (ds.map .string) vz w2 by simpa [Flow.upd] using hG 3)
  have HB2 := Lib.hid (Bt HB.out hw2)
  have hs2 := hw2.size
  clear hG hw2 x0 x1 x2
  have HMA := Lib.hid (show ∀ b, am = some b → ∀ j u, (ms.map Value.string)[j]? = some u → w2.cell? (b.add j) = some u from fun b e j u hj => by
    rw [List.getElem?_map] at hj
    obtain ⟨x, hx, rfl⟩ := Option.map_eq_some_iff.1 hj
    obtain ⟨hj', rfl⟩ := List.getElem?_eq_some_iff.1 hx
    obtain ⟨b', off, ha, hb, h⟩ := HCM.out j hj'
    rw [e] at ha
    cases ha
    rw [show (⟨b', off, none⟩ : Addr).add j = ⟨b', off + j, none⟩ by unfold Addr.add; split <;> simp_all]
    exact (HB2.out.cell (p := ⟨b', off + j, none⟩) hb).trans h)
  have HMN := Lib.hid (show am = none → ms.length = 0 ∧ capm = 0 from fun e => by
    subst e
    refine ⟨?_, HNIL.out _ _ rfl⟩
    rcases Nat.eq_zero_or_pos ms.length with h | h
    · exact h
    · obtain ⟨_, _, ha, _⟩ := HCM.out 0 h
      cases ha)
  go_wp2_with (have hxx := HMA; clear hxx; at_builtin; refine wpList_append_opt rfl _ _ 22 rfl W0.heap.size 9 i0 (.string ByteArray.empty) 16 Tryd.underlying22 hi hz0 hz1 hz2 rfl _ ds.length _ rfl HO.out am ms.length capm (ms.map .string) rfl (by simp) HMN.out HMA.out ?_ ?_ ?_ ?_ ?_)
  · intro u hu; obtain ⟨y, _, rfl⟩ := List.mem_map.1 hu; rfl
  · have := HLN.out; unfold maxLen; omega
  · have := HLN.out; omega
  · exact hs2
  intro v3 w3 hown3 hg3
  rw [← List.map_append] at hown3
  have hn3 : ds.length + ms.length = (ds ++ ms).length := by simp
  rw [hn3] at hown3
  have HB3 := Lib.hid (HB2.out.grown hg3 HB2.out.size (fun j e => Nat.le_trans HB.out.size (HO.out.lt j e).1))
  have HAZ := Lib.hid (show ∀ x ∈ ds ++ ms, x.size ≤ maxLen from fun x hx => (List.mem_append.1 hx).elim (HDZ.out x) (HMZ.out x))
  have hal : 1 ≤ (ds ++ ms).length ∧ (ds ++ ms).length ≤ 10 := by have := HLN.out; simp; omega
  generalize ds ++ ms = al at HE hown3 hn3 HAZ hal
  obtain ⟨gg, cp, rfl, _, hgg, _, hcell⟩ := owns_cell hown3 (by omega)
  have HCL := Lib.hid hcell
  obtain ⟨hal1, hal2⟩ := hal
  clear hown3 hg3 hn3 HO HB2 hcell HMA HMN hs2
  go_wp2_with (fail)
  go_loopw [4] (fun i wr => ∃ k : Nat, k ≤ al.length ∧ i = .int .i64 k ∧ (∀ (a b : Nat) (ha : a < al.length) (hb : b < al.length), a < b → b < k → al[a] ≠ al[b]) ∧ (∀ (j : Nat) (hj : j < al.length), j < k → nameOk al[j] = true) ∧ Below w3.heap.size w3 wr) (fun i _ => al.length - (intOf i).toNat)
  case atStart => exact ⟨0, Nat.zero_le _, rfl, fun _ _ _ _ _ h => absurd h (Nat.not_lt_zero _), fun _ _ h => absurd h (Nat.not_lt_zero _), Below.refl _ _⟩
  case round =>
    obtain ⟨k, hk, rfl, hdis, hnam, hBr⟩ := hrel
    have HDI := Lib.hid hdis
    have HNA := Lib.hid hnam
    have HBr := Lib.hid hBr
    clear hdis hnam hBr
    by_cases hlt : k < al.length
    · have hki : (k : Int) < (al.length : Int) := by omega
      obtain ⟨x, hx⟩ : ∃ x, x = al[k] := ⟨_, rfl⟩
      have ek := (HCL.out k hlt).1
      rw [List.getElem?_map, List.getElem?_eq_getElem hlt, ← hx, Nat.zero_add] at ek
      have HX := Lib.hid hx
      have HEK := Lib.hid ek
      clear hx ek
      go_wp2_with (fail)
      go_loopw [5] (fun i wq => ∃ m : Nat, m ≤ k ∧ i = .int .i64 m ∧ (∀ (j : Nat) (hj : j < al.length), j < m → al[j] ≠ x) ∧ Below w3.heap.size w3 wq) (fun i _ => k - (intOf i).toNat)
      case atStart => exact ⟨0, Nat.zero_le _, rfl, fun _ _ h => absurd h (Nat.not_lt_zero _), HBr.out⟩
      case round =>
        obtain ⟨m, hm, rfl, hne, hBq⟩ := hrel
        have HNE := Lib.hid hne
        have HBq := Lib.hid hBq
        clear hne hBq
        have e1 := (HBq.out.cell (p := ⟨gg, k, none⟩) hgg).trans HEK.out
        by_cases hmk : m < k
        · have hmi : (m : Int) < (k : Int) := by omega
          have hml : m < al.length := by omega
          obtain ⟨y, hy⟩ : ∃ y, y = al[m] := ⟨_, rfl⟩
          have em := (HCL.out m hml).1
          rw [List.getElem?_map, List.getElem?_eq_getElem hml, ← hy, Nat.zero_add] at em
          have e2 := (HBq.out.cell (p := ⟨gg, m, none⟩) hgg).trans em
          have HY := Lib.hid hy
          clear hy em
          cases he : (x.toList == y.toList)
          · have HEQ := Lib.hid (str_ne' he)
            go_wp2
            go_quiet (fail)
            go_wp2
            go_roundw
            case rel =>
              refine ⟨m + 1, by omega, by go_num, fun j hj hjm => ?_, below_drewN HBq.out _⟩
              by_cases h : j < m
              · exact HNE.out j hj h
              · obtain rfl : j = m := by omega
                rw [← HY.out]; exact fun e => HEQ.out e.symm
            case measure => simp [intOf]; omega
          · have HEQ := Lib.hid (str_eq' he)
            go_wp2
            go_quiet (fail)
            go_wp2
            go_ret
            refine ⟨ret_bool' ?_, below_drewN (Bt HB3.out HBq.out) _⟩
            rw [HE.out]
            have : Tess.distinct al = false := Tess.distinct_not m k hml hlt hmk (by rw [← HX.out, ← HY.out]; exact HEQ.out.symm)
            unfold namesOk
            rw [this]; simp
        · have hmi : ¬ (m : Int) < (k : Int) := by omega
          have HNI := Lib.hid (fun W => rIsName_any x W (HX.out ▸ HAZ.out _ (List.getElem_mem hlt)))
          cases hn : nameOk x
          · rw [hn] at HNI
            have HNN := Lib.hid hn
            clear hn
            go_wp2_with (go_at_call 66; refine (HNI.out _).mono ?_; rintro e w6 ⟨rfl, hB6⟩; have HB6 := Lib.hid (Bt HBq.out hB6); clear hB6)
            go_ret
            refine ⟨ret_bool' ?_, Bt HB3.out HB6.out⟩
            rw [HE.out]
            have : al.all nameOk = false := by
              rw [List.all_eq_false]
              exact ⟨al[k], List.getElem_mem hlt, by rw [← HX.out, HNN.out]; simp⟩
            unfold namesOk
            rw [this]; simp
          · rw [hn] at HNI
            have HNN := Lib.hid hn
            clear hn
            go_wp2_with (go_at_call 66; refine (HNI.out _).mono ?_; rintro e w6 ⟨rfl, hB6⟩; have HB6 := Lib.hid (Bt HBq.out hB6); clear hB6)
            go_roundw
            case rel =>
              refine ⟨k + 1, by omega, by go_num, fun a b ha hb hab hbk => ?_, fun j hj hjk => ?_, HB6.out⟩
              · by_cases h : b < k
                · exact HDI.out a b ha hb hab h
                · obtain rfl : b = k := by omega
                  rw [← HX.out]
                  exact HNE.out a ha (by omega)
              · by_cases h : j < k
                · exact HNA.out j hj h
                · obtain rfl : j = k := by omega
                  rw [← HX.out]; exact HNN.out
            case measure => simp [intOf]; omega
    · have hki : ¬ (k : Int) < (al.length : Int) := by omega
      go_wp2
      go_ret
      refine ⟨ret_bool' ?_, Bt HB3.out HBr.out⟩
      rw [HE.out]
      have h1 : Tess.distinct al = true := Tess.distinct_of fun i j hi hj hij => HDI.out i j hi hj hij (by omega)
      have h2 : al.all nameOk = true := by
        rw [List.all_eq_true]
        intro y hy
        obtain ⟨j, hj, rfl⟩ := List.getElem_of_mem hy
        exact HNA.out j hj (by omega)
      unfold namesOk
      rw [h1, h2]; rfl
set_option maxRecDepth 100000 in
theorem rDim_any (p : Nat → Prop) (vs : Value) (s : Tess.Sch) (x : ByteArray) (w : World) (hs : SchAt p w vs s) :
    Calls Tryd.prog 64 #[vs, .string x] w fun e w' => e = .returned (.tuple #[.int .i64 (Tess.dimW s x).1, .bool (Tess.dimW s x).2]) ∧ Below w.heap.size w w' := by
  have HR := Lib.hid (fun W (hB : Below w.heap.size w W) => rRight_any p vs s W (hs.ag (Ag.new p hB)))
  obtain ⟨vd, vm, rfl, hd, hm, _, _⟩ := hs
  have HP := Lib.hid (fun W (hB : Below w.heap.size w W) => rplace_any p vd s.dims x W (hd.ag (Ag.new p hB)))
  obtain ⟨ad, capd, rfl, _⟩ := slp_len hd
  obtain ⟨am, capm, rfl, _⟩ := slp_len hm
  clear hd hm
  obtain ⟨W0, hW0⟩ : ∃ W0, w.alloc (.cells #[.slice ad s.dims.length capd, .slice am s.mets.length capm, .int .i64 s.grain] 24) = W0 := ⟨_, rfl⟩
  obtain ⟨k0, kS, kB⟩ := laid1 w (.cells #[.slice ad s.dims.length capd, .slice am s.mets.length capm, .int .i64 s.grain] 24)
  rw [hW0] at k0 kS kB
  obtain ⟨⟨x0, x1, x2⟩, _⟩ := can3 k0
  have HB := Lib.hid kB
  have HK0 := Lib.hid k0
  have HKS := Lib.hid kS
  have HDW : RowKit.Hid (Tess.dimW s x = Tess.placeW (schOk s) s.dims x) := Lib.hid rfl
  clear k0 kB kS
  cases hok : schOk s
  · rw [hok] at HR HDW
    go_enter Tryd.func64, Tryd.ntmps64
    go_wp2_with (go_at_call 34; refine (HR.out _ HB.out).mono ?_; rintro e w1 ⟨rfl, hB1⟩; have HB1 := Lib.hid (Bt HB.out hB1); clear hB1)
    refine bodyPost_ret (v := .tuple #[.int .i64 (0 : Int), .bool false]) (by simp [results, Tryd.results64, go_sem]) rfl ⟨by rw [HDW.out]; simp [Tess.placeW], HB1.out⟩
  · rw [hok] at HR HDW
    generalize Tess.placeW true s.dims x = pw at HP HDW
    go_enter Tryd.func64, Tryd.ntmps64
    go_wp2_with (fail)
    go_at_call 34
    refine (HR.out _ HB.out).mono ?_
    rintro e w1 ⟨rfl, hB1⟩
    clear x0 x1 x2 hW0
    obtain ⟨⟨x0, x1, x2⟩, _⟩ := can3 ((hB1.block _ (by have := HKS.out; omega)).trans HK0.out)
    have HB1 := Lib.hid (Bt HB.out hB1)
    clear hB1
    go_wp2_with (fail)
    go_at_call 97
    refine (HP.out _ HB1.out).mono ?_
    rintro e w2 ⟨rfl, hB2⟩
    have HB2 := Lib.hid (Bt HB1.out hB2)
    clear hB2
    go_wp2
    refine bodyPost_ret (v := .tuple #[.int .i64 (pw.1 : Int), .bool pw.2]) (by simp [results, Tryd.results64, go_sem]) rfl ⟨by rw [HDW.out], HB2.out⟩
end Go.Proofs.YtdfnolgcdododaaDoor
namespace Tess.Fil
theorem deepL_append (a b : List Fil) : deepL (a ++ b) = max (deepL a) (deepL b) := by
  induction a with
  | nil => simp [deepL]
  | cons x r ih => simp only [List.cons_append, deepL, ih]; omega
theorem deepL_take_succ (q : List Fil) (k : Nat) (h : k < q.length) : deepL (q.take (k + 1)) = max (deepL (q.take k)) q[k].deep := by
  rw [List.take_succ_eq_append_getElem h, deepL_append]; simp [deepL]
theorem deepL_take_le (q : List Fil) (k : Nat) : deepL (q.take k) ≤ deepL q := by
  conv => rhs; rw [← List.take_append_drop k q, deepL_append]
  omega
end Tess.Fil
namespace Go.Proofs.YtdfnolgcdododaaDoor
open Go.RowKit Go.Sort
open Tess (Fil)
set_option maxHeartbeats 1000000 in
theorem rDeep_any (p : Nat → Prop) (n : Nat) : ∀ (v : Value) (f : Fil) (w : World), FilAt p n w v f → f.deep ≤ 1000000000 →
    Calls Tryd.prog 35 #[v] w fun e w' => e = .returned (.int .i64 (f.deep : Nat)) ∧ Below w.heap.size w w' := by
  induction n with
  | zero => intro v f w h; exact h.elim
  | succ n ih =>
    intro v f w h hcnt
    obtain ⟨vw, a, cap, rfl, _, hvw, _, hl, _, hc⟩ := h
    obtain ⟨wa, wn, wc, rfl⟩ := hvw.shape
    have HC := Lib.hid hc
    have hlm : f.l.length ≤ 9223372036854775807 := by unfold maxLen at hl; omega
    have HCE := Lib.hid (Fil.deep_eq f)
    have HCN := Lib.hid hcnt
    clear hvw hc hl hcnt
    go_enter Tryd.func35, Tryd.ntmps35
    go_wp2_with fail
    obtain ⟨W0, hW0⟩ : ∃ W0, w.alloc (.cells #[.int .i64 f.kind, .string f.name, .slice wa wn wc, .int .i64 f.frm, .int .i64 f.to, .slice a f.l.length cap] 29) = W0 := ⟨_, rfl⟩
    have hB0 : Below w.heap.size w W0 := by rw [← hW0]; exact (Below.refl _ _).alloc (Nat.le_refl _) _
    have hbox : W0.heap[w.heap.size]? = some (.cells #[.int .i64 f.kind, .string f.name, .slice wa wn wc, .int .i64 f.frm, .int .i64 f.to, .slice a f.l.length cap] 29 (0, 0)) := by rw [← hW0]; exact heap_alloc_new _ _
    rw [hW0]
    clear hW0
    go_loopw [3, 4] (fun c i wr => ∃ k : Nat, k ≤ f.l.length ∧ i = .int .i64 k ∧ c = .int .i64 ((Fil.deepL (f.l.take k) : Nat) : Int) ∧ Below W0.heap.size W0 wr) (fun _ i _ => f.l.length - (intOf i).toNat)
    case atStart => exact ⟨0, Nat.zero_le _, rfl, rfl, Below.refl _ _⟩
    case round =>
      obtain ⟨k, hk, rfl, rfl, hB⟩ := hrel
      have hs0 : w.heap.size < W0.heap.size := (Array.getElem?_eq_some_iff.1 hbox).1
      have c5 := cell_of_row wr w.heap.size 5 _ _ _ ((hB.block _ hs0).trans hbox)
      simp only [List.getElem?_toArray, List.getElem?_cons_succ, List.getElem?_cons_zero] at c5
      have HB := Lib.hid (Bt hB0 hB)
      have HB' := Lib.hid hB
      clear hB
      by_cases hlt : k < f.l.length
      · obtain ⟨b, off, rfl, hb, hp, hel⟩ := HC.out (by omega)
        obtain ⟨e0, e1, e2, e3, e4, e5, hf, q0, q1, q2, q3, q4, q5⟩ := hel k hlt
        have HIH := Lib.hid (fun W (hBW : Below w.heap.size w W) (hc : (f.l[k]).deep ≤ 1000000000) => ih _ _ W (hf.ag (Ag.new p hBW)) hc)
        have hki : (k : Int) < (f.l.length : Int) := by omega
        have r0 := (HB.out.cell (p := ⟨b, off + k * 6, none⟩) hb).trans q0
        have r1 := (HB.out.cell (p := ⟨b, off + k * 6 + 1, none⟩) hb).trans q1
        have r2 := (HB.out.cell (p := ⟨b, off + k * 6 + 2, none⟩) hb).trans q2
        have r3 := (HB.out.cell (p := ⟨b, off + k * 6 + 3, none⟩) hb).trans q3
        have r4 := (HB.out.cell (p := ⟨b, off + k * 6 + 4, none⟩) hb).trans q4
        have r5 := (HB.out.cell (p := ⟨b, off + k * 6 + 5, none⟩) hb).trans q5
        clear hel q0 q1 q2 q3 q4 q5 hf
        have hsc := Fil.deepL_take_succ f.l k hlt
        have hle := Fil.deepL_take_le f.l (k + 1)
        have hcn := HCN.out
        rw [HCE.out] at hcn
        have hck : (f.l[k]).deep ≤ 1000000000 := by omega
        have HCK := Lib.hid (HIH.out wr HB.out hck)
        have HSC := Lib.hid hsc
        clear hsc hle hcn hck HIH
        generalize Fil.deepL (f.l.take k) = m at *
        generalize (f.l[k]).deep = m2 at *
        have hmax : max (m : Int) (m2 : Int) = ((max m m2 : Nat) : Int) := by omega
        go_wp2_with (go_at_call 35; refine HCK.out.mono ?_; rintro e w2 ⟨rfl, hB2⟩; have HB2 := Lib.hid (Bt HB'.out hB2); clear hB2)
        go_roundw
        case rel => exact ⟨k + 1, by omega, by go_num, by rw [HSC.out], HB2.out⟩
        case measure => simp [intOf]; omega
      · have hki : ¬ (k : Int) < (f.l.length : Int) := by omega
        have HE := Lib.hid (show f.l.take k = f.l from List.take_of_length_le (by omega))
        have hbd : (Fil.deepL (f.l.take k) : Int) + 1 ≤ 1000000000 := by have h1 := HCN.out; rw [HCE.out] at h1; rw [HE.out]; omega
        go_wp2
        go_ret
        exact ⟨ret_int (by rw [HCE.out, HE.out]; omega), HB.out⟩
end Go.Proofs.YtdfnolgcdododaaDoor
namespace Go.Proofs.YtdfnolgcdododaaDoor
open Go.RowKit Go.Sort
open Tess (Fil)
theorem prefix_not (p x : ByteArray) (h : ¬ p.size ≤ x.size) : p.data.toList.isPrefixOf x.data.toList = false := by
  rw [Bool.eq_false_iff]
  intro e
  have := (List.isPrefixOf_iff_prefix.1 e).length_le
  simp at this
  exact h this
theorem prefix_is (p x : ByteArray) : p.data.toList.isPrefixOf x.data.toList = ((x.extract 0 p.size).toList == p.toList) := by
  rw [Bool.eq_iff_iff, List.isPrefixOf_iff_prefix, beq_iff_eq, ByteArray.toList_eq, ByteArray.toList_eq, List.prefix_iff_eq_take]
  have e : (x.extract 0 p.size).data.toList = x.data.toList.take p.data.toList.length := by
    simp [ByteArray.data_extract]
  rw [e]
  exact eq_comm
set_option maxRecDepth 100000 in
theorem rWord_any (p : Nat → Prop) (n : Nat) (v : Value) (f : Fil) (x : ByteArray) (w : World) (hf : FilAt p n w v f) (hx : x.size ≤ maxLen) (h4 : f.kind = 4 → 1 ≤ f.words.length) (h5 : f.kind = 5 → 2 ≤ f.words.length) :
    Calls Tryd.prog 65 #[v, .string x] w fun e w' => e = .returned (.bool (Fil.isWord f x)) ∧ Below w.heap.size w w' := by
  cases n with
  | zero => exact hf.elim
  | succ n =>
  obtain ⟨vw, za, zc, rfl, _, hw, hwz, _, _, _⟩ := hf
  have hw := hw.1
  obtain ⟨wa, wc, rfl, hl, hc⟩ := sls_open hw
  obtain ⟨W0, hW0⟩ : ∃ W0, w.alloc (.cells #[.int .i64 f.kind, .string f.name, .slice wa f.words.length wc, .int .i64 f.frm, .int .i64 f.to, .slice za f.l.length zc] 29) = W0 := ⟨_, rfl⟩
  obtain ⟨k0, kS, kB⟩ := laid1 w (.cells #[.int .i64 f.kind, .string f.name, .slice wa f.words.length wc, .int .i64 f.frm, .int .i64 f.to, .slice za f.l.length zc] 29)
  rw [hW0] at k0 kS kB
  obtain ⟨⟨x0, x1, x2, x3, x4, x5⟩, _⟩ := can6 k0
  have HK0 := Lib.hid k0
  have hlt0 : w.heap.size < W0.heap.size := by omega
  have HB := Lib.hid kB
  have hx' : x.size ≤ 9223372036854775807 := by unfold maxLen at hx; omega
  have HXZ := Lib.hid hx
  have HWZ := Lib.hid (fun k (hk : k < f.words.length) => show (f.words.getD k ByteArray.empty).size ≤ maxLen from by simp [hk]; exact hwz _ (List.getElem_mem hk))
  have HCELL : RowKit.Hid (∀ k (hk : k < f.words.length), ∃ b off, wa = some ⟨b, off, none⟩ ∧ b < W0.heap.size ∧ W0.cell? ⟨b, off + k, none⟩ = some (.string (f.words.getD k ByteArray.empty))) := Lib.hid fun k hk => by
    obtain ⟨b, off, ha, hb, hcl⟩ := hc k hk
    refine ⟨b, off, ha, by omega, ?_⟩
    rw [kB.cell (p := ⟨b, off + k, none⟩) hb, hcl]
    simp [hk]
  clear hw hc kB kS k0 hx hwz
  by_cases k4 : f.kind = 4
  · have hr : Fil.isWord f x = (f.words.getD 0 ByteArray.empty).data.toList.isPrefixOf x.data.toList := by simp [Fil.isWord, k4]
    have e4 : (f.kind == (4 : Int)) = true := by rw [k4]; rfl
    have hlen := h4 k4
    clear k4 h4 h5
    rw [hr]
    obtain ⟨b, off, rfl, hb, h0⟩ := HCELL.out 0 hlen
    have hyz := HWZ.out 0 hlen
    rw [Nat.add_zero] at h0
    generalize f.words.getD 0 ByteArray.empty = y0 at *
    have hz : (0 : Int) < (f.words.length : Int) := by omega
    have hyz' : y0.size ≤ 9223372036854775807 := by unfold maxLen at hyz; omega
    clear hyz
    by_cases hle : y0.size ≤ x.size
    · rw [prefix_is y0 x]
      have hlei : (y0.size : Int) ≤ (x.size : Int) := by omega
      generalize hq : ((x.extract 0 y0.size).toList == y0.toList) = r
      clear hle
      go_enter Tryd.func65, Tryd.ntmps65
      go_wp2
      go_ret
      exact ⟨rfl, HB.out⟩
    · rw [prefix_not y0 x hle]
      have hlei : decide ((y0.size : Int) ≤ (x.size : Int)) = false := decide_eq_false (by omega)
      have hlen' : decide (y0.size ≤ x.size) = false := decide_eq_false hle
      clear hle
      go_enter Tryd.func65, Tryd.ntmps65
      go_wp2
      go_ret
      exact ⟨rfl, HB.out⟩
  have e4 : (f.kind == (4 : Int)) = false := by rw [beq_eq_false_iff_ne]; exact k4
  by_cases k5 : f.kind = 5
  · have hr : Fil.isWord f x = (!Tess.bl x (f.words.getD 0 ByteArray.empty) && !Tess.bl (f.words.getD 1 ByteArray.empty) x) := by simp [Fil.isWord, k5]
    have e5 : (f.kind == (5 : Int)) = true := by rw [k5]; rfl
    have hlen := h5 k5
    clear k4 k5 h4 h5
    rw [hr]
    obtain ⟨b, off, rfl, hb, h0⟩ := HCELL.out 0 (by omega)
    obtain ⟨b', off', hh, hb', h1⟩ := HCELL.out 1 (by omega)
    obtain ⟨rfl, rfl⟩ : b' = b ∧ off' = off := by cases hh; exact ⟨rfl, rfl⟩
    have hyz := HWZ.out 1 (by omega)
    clear hh hb'
    rw [Nat.add_zero] at h0
    generalize f.words.getD 0 ByteArray.empty = y0 at *
    generalize f.words.getD 1 ByteArray.empty = y1 at *
    have hz : (0 : Int) < (f.words.length : Int) := by omega
    have hz1 : (1 : Int) < (f.words.length : Int) := by omega
    have HA := Lib.hid (fun W => ahead_any x y0 W HXZ.out)
    have HA2 := Lib.hid (fun W => ahead_any y1 x W hyz)
    have H1 := Lib.hid h1
    clear hyz h1
    cases hA : Tess.bl x y0
    · rw [hA] at HA
      generalize Tess.bl y1 x = r at HA2
      clear hA
      go_enter Tryd.func65, Tryd.ntmps65
      go_wp2_with (fail)
      go_at_call 98
      refine (HA.out _).mono ?_
      rintro e w1 ⟨rfl, hB1⟩
      have h1' := (hB1.cell (p := ⟨b', off' + 1, none⟩) hb).trans H1.out
      clear x0 x1 x2 x3 x4 x5 hW0 h0
      obtain ⟨⟨x0, x1, x2, x3, x4, x5⟩, _⟩ := can6 ((hB1.block _ hlt0).trans HK0.out)
      have HB1 := Lib.hid (Bt HB.out hB1)
      clear hB1
      go_wp2_with (fail)
      go_at_call 98
      refine (HA2.out _).mono ?_
      rintro e w2 ⟨rfl, hB2⟩
      have HB2 := Lib.hid (Bt HB1.out hB2)
      clear hB2
      go_wp2
      go_ret
      exact ⟨rfl, HB2.out⟩
    · rw [hA] at HA
      clear hA
      go_enter Tryd.func65, Tryd.ntmps65
      go_wp2_with (fail)
      go_at_call 98
      refine (HA.out _).mono ?_
      rintro e w1 ⟨rfl, hB1⟩
      have HB1 := Lib.hid (Bt HB.out hB1)
      clear hB1
      go_wp2
      go_ret
      exact ⟨rfl, HB1.out⟩
  have e5 : (f.kind == (5 : Int)) = false := by rw [beq_eq_false_iff_ne]; exact k5
  have hr : Fil.isWord f x = Tess.hasW f.words x := by simp [Fil.isWord, k4, k5]
  rw [hr]
  clear k4 k5 h4 h5
  go_enter Tryd.func65, Tryd.ntmps65
  go_wp2_with (fail)
  go_loopw [6] (fun i wr => ∃ k : Nat, k ≤ f.words.length ∧ i = .int .i64 k ∧ (∀ j (h1 : j < f.words.length), j < k → f.words.getD j ByteArray.empty ≠ x) ∧ Below W0.heap.size W0 wr) (fun i _ => f.words.length - (intOf i).toNat)
  case atStart => exact ⟨0, Nat.zero_le _, rfl, fun j _ h => absurd h (Nat.not_lt_zero _), Below.refl _ _⟩
  case round =>
    obtain ⟨k, hk, rfl, hall, hBr⟩ := hrel
    have HALL := Lib.hid hall
    have HBr := Lib.hid hBr
    clear x0 x1 x2 x3 x4 x5
    obtain ⟨⟨x0, x1, x2, x3, x4, x5⟩, _⟩ := can6 ((hBr.block _ hlt0).trans HK0.out)
    clear hall hBr
    by_cases hlt : k < f.words.length
    · obtain ⟨b1, o1, rfl, hb1, hc1⟩ := HCELL.out k hlt
      obtain ⟨y, hy⟩ : ∃ y, y = f.words.getD k ByteArray.empty := ⟨_, rfl⟩
      rw [← hy] at hc1
      have e1 := (HBr.out.cell (p := ⟨b1, o1 + k, none⟩) hb1).trans hc1
      have hki : (k : Int) < (f.words.length : Int) := by omega
      have HY := Lib.hid hy
      clear hy hc1
      cases he : (y.toList == x.toList)
      · have HE := Lib.hid (str_ne' he)
        go_wp2
        go_roundw
        case rel =>
          refine ⟨k + 1, by omega, by go_num, fun j h1 hjk => ?_, HBr.out⟩
          by_cases hjk' : j < k
          · exact HALL.out j h1 hjk'
          · obtain rfl : j = k := by omega
            rw [← HY.out]; exact HE.out
        case measure => simp [intOf]; omega
      · have HE := Lib.hid (str_eq' he)
        have HP := Lib.hid (show Tess.hasW f.words x = true from by
          have hm : f.words[k] = x := by have := HY.out; simp [hlt] at this; rw [← this]; exact HE.out
          exact (Tess.hasW_iff _ _).2 (hm ▸ List.getElem_mem hlt))
        go_wp2
        go_ret
        exact ⟨ret_bool' HP.out.symm, Bt HB.out HBr.out⟩
    · have hki : ¬ (k : Int) < (f.words.length : Int) := by omega
      have HP := Lib.hid (show Tess.hasW f.words x = false from by
        rw [Tess.hasW_not]
        intro hm
        obtain ⟨j, hj, e⟩ := List.getElem_of_mem hm
        exact HALL.out j hj (by omega) (by simp [hj, e]))
      go_wp2
      go_ret
      exact ⟨ret_bool' HP.out.symm, Bt HB.out HBr.out⟩
end Go.Proofs.YtdfnolgcdododaaDoor
