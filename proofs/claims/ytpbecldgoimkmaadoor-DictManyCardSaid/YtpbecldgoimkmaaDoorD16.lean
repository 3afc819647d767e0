/- A number's varint: the program's, walked. -/
import Derived.Test.YtpbecldgoimkmaaDoorD15
namespace Go.Rf
open Go Go.RowKit
variable {P : Program} {n : Nat}
/-- A loop whose body is run twice at most. -/
theorem wpIn_loop_twice {F : Fence} {c : Code} {Q : Exit → Act → World → Prop} {a : Act} {w : World} (h : c.wpIn F n P (Exit.then (fun a w => c.wpIn F n P (Exit.then (fun _ _ => False) Q) a w) Q) a w) : (Code.loop c).wpIn F n P Q a w := by
  intro b k cs hro hb hr
  obtain ⟨e, a₁, w₁, hq, harr⟩ := h b (.inLoop c :: k) cs hro hb hr
  have h0 : (lone (b.atR a (.code (.loop c) :: k)) cs w).fenced P F := fenced_calm hb hr rfl
  cases e with
  | normal =>
    obtain ⟨e₂, a₂, w₂, hq₂, harr₂⟩ := (show c.wpIn F n P (Exit.then (fun _ _ => False) Q) a₁ w₁ from hq) b (.inLoop c :: k) cs hro hb hr
    cases e₂ with
    | normal => exact hq₂.elim
    | exit id => exact ⟨_, a₂, w₂, hq₂, .of_steps (StepsIn.trans (.head h0 stepR_loop harr) (.one (fenced_calm hb hr rfl) stepR_inLoop)) (.pass (x := .inLoop c) rfl (fun _ _ => .inl (by simp)) harr₂)⟩
    | goto l => exact ⟨_, a₂, w₂, hq₂, .of_steps (StepsIn.trans (.head h0 stepR_loop harr) (.one (fenced_calm hb hr rfl) stepR_inLoop)) (.pass (x := .inLoop c) rfl (fun _ _ => .inl (by simp)) harr₂)⟩
    | ret => exact ⟨_, a₂, w₂, hq₂, .of_steps (StepsIn.trans (.head h0 stepR_loop harr) (.one (fenced_calm hb hr rfl) stepR_inLoop)) (.pass (x := .inLoop c) rfl (fun _ _ => .inl (by simp)) harr₂)⟩
    | panic ch => exact ⟨_, a₂, w₂, hq₂, .of_steps (StepsIn.trans (.head h0 stepR_loop harr) (.one (fenced_calm hb hr rfl) stepR_inLoop)) (.pass (x := .inLoop c) rfl (fun _ _ => .inl (by simp)) harr₂)⟩
    | outgrown => exact ⟨_, a₂, w₂, hq₂, .of_steps (StepsIn.trans (.head h0 stepR_loop harr) (.one (fenced_calm hb hr rfl) stepR_inLoop)) (.pass (x := .inLoop c) rfl (fun _ _ => .inl (by simp)) harr₂)⟩
  | exit id => exact ⟨_, a₁, w₁, hq, .of_steps (.one h0 stepR_loop) (.pass (x := .inLoop c) rfl (fun _ _ => .inl (by simp)) harr)⟩
  | goto l => exact ⟨_, a₁, w₁, hq, .of_steps (.one h0 stepR_loop) (.pass (x := .inLoop c) rfl (fun _ _ => .inl (by simp)) harr)⟩
  | ret => exact ⟨_, a₁, w₁, hq, .of_steps (.one h0 stepR_loop) (.pass (x := .inLoop c) rfl (fun _ _ => .inl (by simp)) harr)⟩
  | panic ch => exact ⟨_, a₁, w₁, hq, .of_steps (.one h0 stepR_loop) (.pass (x := .inLoop c) rfl (fun _ _ => .inl (by simp)) harr)⟩
  | outgrown => exact ⟨_, a₁, w₁, hq, .of_steps (.one h0 stepR_loop) (.pass (x := .inLoop c) rfl (fun _ _ => .inl (by simp)) harr)⟩
end Go.Rf
namespace Tess
def putL (n : Nat) : List UInt8 := if n < 128 then [UInt8.ofNat n] else UInt8.ofNat (128 + n % 128) :: putL (n / 128)
termination_by n
decreasing_by omega
theorem putL_lt (n : Nat) (h : n < 128) : putL n = [UInt8.ofNat n] := by rw [putL, if_pos h]
theorem putL_ge (n : Nat) (h : ¬ n < 128) : putL n = UInt8.ofNat (128 + n % 128) :: putL (n / 128) := by rw [putL, if_neg h]
theorem putL_len (n : Nat) (k : Nat) (h : n < 128 ^ (k + 1)) : (putL n).length ≤ k + 1 := by
  induction k generalizing n with
  | zero => rw [putL_lt n (by simpa using h)]; simp
  | succ k ih =>
    by_cases h1 : n < 128
    · rw [putL_lt n h1]; simp
    · rw [putL_ge n h1, List.length_cons]
      have := ih (n / 128) (by rw [Nat.pow_succ] at h; omega)
      omega
def putW (n : Nat) : ByteArray := ⟨(putL n).toArray⟩
set_option maxRecDepth 100000 in
theorem or_128 (n : Nat) : (n % 256) ||| 128 = 128 + n % 128 := by
  have key : ∀ m, m < 256 → m ||| 128 = 128 + m % 128 := by decide
  rw [key _ (Nat.mod_lt _ (by omega))]; omega
end Tess
namespace Go.Proofs.YtpbecldgoimkmaaDoor
open Go.RowKit Go.Sort Go.Shelf
attribute [local go_sem] Oper.semAt_some

theorem bytes_any (n : Int) (w : World) :
    Calls Tryd.prog 68 #[.int .u64 n] w fun e w' => e = .returned (.func (.func 87) #[] #[.pointer (some ⟨w.heap.size, 0, none⟩)]) ∧ w.alloc (.cells #[.int .u64 n] 54) = w' := by
  go_enter Tryd.func68, Tryd.ntmps68
  go_wp2
  go_ret
  exact ⟨rfl, rfl⟩

/-- What lies in sight between two rounds. -/
structure Pp (w : World) (rec : Loop) (p : Value) (bs : List UInt8) (m : Nat) (W : World) : Prop where
  hp : p = .pointer none ∨ p = .pointer (some ⟨w.heap.size, 0, none⟩)
  kb : BRow (w.heap.size + 4) w.heap.size p (Lib.byteCells bs) W
  kn : W.heap[w.heap.size + 1]? = some (.cells #[.int .u64 m] 54 (0, 0))
  kD : W.heap[w.heap.size + 2]? = some (.deferred (some []))
  kL : W.heap[w.heap.size + 3]? = some (.loop rec)
  size : w.heap.size + 4 ≤ W.heap.size
  below : Below w.heap.size w W

def mea (k : Nat) (w : World) : Nat := ((w.cell? ⟨k, 0, none⟩).map fun v => (intOf v).toNat).getD 0
theorem mea_at {k m : Nat} {w : World} {t : TypeId} (h : w.heap[k]? = some (.cells #[.int .u64 m] t (0, 0))) : mea k w = m := by
  unfold mea; rw [(cell_of_box h).1]; simp [intOf]
set_option maxRecDepth 100000 in
theorem or_bits (m : Nat) : bits .or .u8 ((m : Int) % 256) 128 = ((128 + m % 128 : Nat) : Int) := by
  have key : ∀ r : Fin 256, bits .or .u8 ((r.val : Nat) : Int) 128 = ((128 + r.val % 128 : Nat) : Int) := by decide +kernel
  have := key ⟨m % 256, Nat.mod_lt _ (by omega)⟩
  rw [show (128 + m % 128 : Nat) = 128 + (m % 256) % 128 by omega, ← this]
  rfl
theorem BRow.is {B b : Nat} {p : Value} {bs : List Value} {w : World} (hp : p = .pointer none ∨ p = .pointer (some ⟨b, 0, none⟩)) (h : BRow B b p bs w) (hb : b ≤ B) : Lib.IsBuilder 48 5 b b bs w := by
  obtain ⟨v, h1, h2, h3⟩ := h
  have h4 : w.ownsRow b 5 1 v bs.length bs := by
    refine ⟨h2.1, ?_⟩
    rcases h2.2 with h | ⟨g, cap, cur, hv, hB, r⟩
    · exact .inl h
    · exact .inr ⟨g, cap, cur, hv, by omega, r⟩
  rcases hp with rfl | rfl
  · exact .inl ⟨Nat.le_refl _, v, h1, h4, h3⟩
  · exact .inr ⟨Nat.le_refl _, v, h1, h4, h3⟩
section
variable {w W W' : World} {rec rec' : Loop} {p : Value} {bs : List UInt8} {m : Nat}
theorem Pp.but (h : Pp w rec p bs m W) (hs : Rf.SameBut (w.heap.size + 2 + 1) W W') (hl : W'.heap[w.heap.size + 2 + 1]? = some (.loop rec')) : Pp w rec' p bs m W' := by
  refine ⟨h.hp, ?_, (hs.block _ (by omega)).trans h.kn, (hs.block _ (by omega)).trans h.kD, hl, by rw [hs.size]; exact h.size, h.below.trans (hs.below (by omega))⟩
  obtain ⟨v, h1, h2, h3⟩ := h.kb
  exact ⟨v, (hs.block _ (by omega)).trans h1, hs.owns h2 h.kL rfl, h3⟩
theorem Pp.wrote {c : UInt8} (h : Pp w rec p bs m W) (hb : BRow (w.heap.size + 4) w.heap.size (.pointer (some ⟨w.heap.size, 0, none⟩)) (Lib.byteCells bs ++ [.int .u8 c.toNat]) W') (hk : Kept (w.heap.size + 4) w.heap.size W W') : Pp w rec (.pointer (some ⟨w.heap.size, 0, none⟩)) (bs ++ [c]) m W' :=
  ⟨.inr rfl, by simpa [Lib.byteCells] using hb, (hk.block _ (by omega) (by omega)).trans h.kn, (hk.block _ (by omega) (by omega)).trans h.kD, (hk.block _ (by omega) (by omega)).trans h.kL, Nat.le_trans h.size hk.size, h.below.trans (hk.below (by omega))⟩
theorem Pp.setn (h : Pp w rec p bs m W) (m' : Nat) : Pp w rec p bs m' (W.setCell ⟨w.heap.size + 1, 0, none⟩ (.int .u64 m')) := by
  refine ⟨h.hp, ?_, heap_setCell_box _ h.kn, (hs_ne (by omega)).trans h.kD, (hs_ne (by omega)).trans h.kL, by simpa [World.setCell] using h.size, h.below.setCell (by show _ ≤ w.heap.size + 1; omega) _⟩
  obtain ⟨v, h1, h2, h3⟩ := h.kb
  refine ⟨v, (hs_ne (by omega)).trans h1, ?_, h3⟩
  refine h2.kept (row := some (w.heap.size + 1)) ⟨rfl, rfl, rfl, by simp [World.setCell], fun k _ hk => Below.heap_setCell _ _ _ _ (fun e => hk (by simp [e]))⟩ (Or.inr ?_)
  intro e
  have := (h2.lt _ e).1
  omega
end

set_option maxRecDepth 100000 in
set_option maxHeartbeats 2000000 in
theorem put_one (g n : Nat) (w : World) (hc : w.cell? ⟨g, 0, none⟩ = some (.int .u64 n)) (hn : n < 18446744073709551616) :
    Calls Tryd.prog 54 #[.slice (some ⟨g, 0, none⟩) 1 1] w fun e w' => e = .returned (.string (Tess.putW n)) ∧ Below w.heap.size w w' := by
  have hg := World.block_lt_of_cell? _ _ hc
  have hn10 := Tess.putL_len n 9 (by omega)
  refine (callsIn_wide (n := 5)).1 ?_
  refine callsIn_of_wp_marks Tryd.func54 rfl trivial ?_ rfl
  simp only [Tryd.ntmps54, List.size_toArray, List.length_cons, List.length_nil, Nat.reduceAdd, Nat.reduceSub, Array.replicate_succ, Array.replicate_zero, List.push_toArray, List.append_toArray, List.nil_append, List.cons_append]
  gi_wp2
  refine Rf.wpIn_loop_twice ?_
  gi_wp2_with (refine ⟨trivial, ?_⟩; gi_at_call 68; refine (callsIn_wide.2 (bytes_any _ _)).mono ?_; rintro e w' ⟨rfl, rfl⟩)
  obtain ⟨w0, hw0⟩ : ∃ w0, ((w.alloc (.cells #[.pointer none, .slice none 0 0] 48)).alloc (.cells #[.int .u64 n] 54)) = w0 := ⟨_, rfl⟩
  have hA : w0.heap.size = w.heap.size + 2 := by rw [← hw0]; simp
  have hB0 : Below w.heap.size w w0 := by rw [← hw0]; exact ((Below.refl _ _).alloc (Nat.le_refl _) _).alloc (by simp) _
  have hb0 : w0.heap[w.heap.size]? = some (.cells #[.pointer none, .slice none 0 0] 48 (0, 0)) := by rw [← hw0]; exact (Below.heap_alloc _ _ _ (by simp)).trans (World.alloc_heap_new w _)
  have hn0 : w0.heap[w.heap.size + 1]? = some (.cells #[.int .u64 n] 54 (0, 0)) := by
    rw [← hw0]; have := World.alloc_heap_new (w.alloc (.cells #[.pointer none, .slice none 0 0] 48)) (.cells #[.int .u64 n] 54); rwa [World.size_alloc] at this
  rw [hw0]
  clear hw0
  refine Rf.range_wide (gf := 87) (lb := #[.pointer (some ⟨w.heap.size + 1, 0, none⟩)]) rfl (enters_of Tryd.func87 (by kernel_rfl) rfl) ?_
  intro fn W2 hL hD hB1 hS1
  rw [hA] at hL hD hS1 hB1 ⊢
  obtain ⟨rec, hrec, hL⟩ : ∃ rec : Loop, rec = _ ∧ W2.heap[w.heap.size + 2 + 1]? = some (.loop rec) := ⟨_, rfl, hL⟩
  have HREC := Lib.hid hrec
  have hst : rec.state = .ready ∧ rec.params.size = 1 ∧ rec.pending = none := by rw [hrec]; exact ⟨rfl, rfl, rfl⟩
  clear hrec
  obtain ⟨hst, hps, hpe⟩ := hst
  have hI : Pp w rec (.pointer none) [] n W2 := ⟨.inl rfl, ⟨_, (hB1.block _ (by omega)).trans hb0, World.ownsRow_nil _ _ _ _, by simp [Value.ownBlock]⟩, (hB1.block _ (by omega)).trans hn0, hD, hL, by omega, hB0.trans (hB1.mono (by omega))⟩
  clear hB0 hB1 hb0 hn0 hD hL
  refine callsIn_of_wp Tryd.func87 rfl trivial ?_ rfl
  simp only [Tryd.ntmps87, List.size_toArray, List.length_cons, List.length_nil, Nat.reduceAdd, Nat.reduceSub, Array.replicate_succ, Array.replicate_zero, List.push_toArray, List.append_toArray, List.nil_append, List.cons_append]
  gi_wp2
  gi_loopw [3] (fun _ wr => ∃ (m : Nat) (p : Value) (bs : List UInt8), bs ++ Tess.putL m = Tess.putL n ∧ m < 18446744073709551616 ∧ bs.length ≤ 10 ∧ Pp w rec p bs m wr) (fun _ wr => mea (w.heap.size + 1) wr)
  case atStart => exact ⟨n, _, [], rfl, hn, by simp, hI⟩
  case round =>
    obtain ⟨m, p, bs, hbs, hm, hbl, hS⟩ := hrel
    have HBS := Lib.hid hbs
    have HS := Lib.hid hS
    have hmea := mea_at hS.kn
    obtain ⟨c1, z1⟩ := cell_of_box hS.kn
    clear hbs hS
    by_cases h128 : 128 ≤ m
    · have h128i : (128 : Int) ≤ (m : Int) := by omega
      have hbits := or_bits m
      obtain ⟨c, hcc⟩ : ∃ c, c = 128 + m % 128 := ⟨_, rfl⟩
      rw [← hcc] at hbits
      have HCC := Lib.hid hcc
      have hc256 : c < 256 := by omega
      clear hcc
      have hyl := run_yield (P := Tryd.prog) (w := wr) (l := w.heap.size + 2 + 1) (r := rec) (args := #[.int .u8 (c : Int)]) HS.out.kL (by rw [hps]; rfl)
      gi_wp2
      refine Rf.round_wide (r := rec) ?_
      have hrr := HREC.out
      subst hrr
      dsimp only
      gi_wp2_with (rw [Oper.semAt_eq _ _ _ (fun c h => by cases h)]; go_simp; try go_bits)
      refine ⟨HS.out.kL, fun W4 hs4 hl4 => ?_⟩
      have HS4 := Lib.hid (HS.out.but hs4 hl4)
      clear hs4 hl4 hyl hL
      gi_wp2_with (rw [Oper.semAt_eq _ _ _ (fun c h => by cases h)]; go_simp; try go_bits)
      refine ⟨trivial, ?_⟩
      refine CallsIn.mono (CallsIn.inRound _ (callsIn_wide.2 (writeByte_row (w.heap.size + 4) w.heap.size p (Lib.byteCells bs) c W4 HS4.out.hp HS4.out.kb (by rw [Lib.byteCells_length]; omega) HS4.out.size (by omega)))) ?_
      rintro e w5 ⟨rfl, hb5, hk5⟩
      rw [show (c : Int) = ((UInt8.ofNat c).toNat : Int) by rw [UInt8.toNat_ofNat']; omega] at hb5
      have HS5 := Lib.hid (HS4.out.wrote hb5 hk5)
      clear hb5 hk5
      gi_wp2
      refine ⟨HS5.out.kL, fun W6 hs6 hl6 => ?_⟩
      have HS6 := Lib.hid (HS5.out.but hs6 hl6)
      clear hs6 hl6
      dsimp only
      obtain ⟨c6, z6⟩ := cell_of_box HS6.out.kn
      gi_wp2
      have hdiv : (m : Int) / 128 = ((m / 128 : Nat) : Int) := by omega
      have hlen := congrArg List.length HBS.out
      rw [Tess.putL_ge m (by omega), List.length_append, List.length_cons] at hlen
      refine ⟨⟨m / 128, .pointer (some ⟨w.heap.size, 0, none⟩), bs ++ [UInt8.ofNat c], ?_, by omega, by rw [List.length_append, List.length_singleton]; omega, ?_⟩, ?_⟩
      · rw [← HBS.out, Tess.putL_ge m (by omega), HCC.out]; simp
      · rw [hdiv]; exact HS6.out.setn (m / 128)
      · rw [hdiv, mea_at (HS6.out.setn (m / 128)).kn]; omega
    · have h128i : ¬ (128 : Int) ≤ (m : Int) := by omega
      obtain ⟨c, hcc⟩ : ∃ c, c = m := ⟨_, rfl⟩
      have hc256 : c < 256 := by omega
      have hyl := run_yield (P := Tryd.prog) (w := wr) (l := w.heap.size + 2 + 1) (r := rec) (args := #[.int .u8 (m : Int)]) HS.out.kL (by rw [hps]; rfl)
      gi_wp2
      refine Rf.round_wide (r := rec) ?_
      have hrr := HREC.out
      subst hrr
      dsimp only
      gi_wp2_with (rw [Oper.semAt_eq _ _ _ (fun c h => by cases h)]; go_simp; try go_bits)
      refine ⟨HS.out.kL, fun W4 hs4 hl4 => ?_⟩
      have HS4 := Lib.hid (HS.out.but hs4 hl4)
      clear hs4 hl4 hyl hL
      gi_wp2_with (rw [Oper.semAt_eq _ _ _ (fun c h => by cases h)]; go_simp; try go_bits)
      refine ⟨trivial, ?_⟩
      refine CallsIn.mono (CallsIn.inRound _ (callsIn_wide.2 (writeByte_row (w.heap.size + 4) w.heap.size p (Lib.byteCells bs) m W4 HS4.out.hp HS4.out.kb (by rw [Lib.byteCells_length]; omega) HS4.out.size (by omega)))) ?_
      rintro e w5 ⟨rfl, hb5, hk5⟩
      rw [show (m : Int) = ((UInt8.ofNat m).toNat : Int) by rw [UInt8.toNat_ofNat']; omega] at hb5
      have HS5 := Lib.hid (HS4.out.wrote hb5 hk5)
      clear hb5 hk5
      gi_wp2
      refine ⟨HS5.out.kL, fun W6 hs6 hl6 => ?_⟩
      have HS6 := Lib.hid (HS5.out.but hs6 hl6)
      clear hs6 hl6
      dsimp only
      obtain ⟨c6, z6⟩ := cell_of_box HS6.out.kn
      gi_wp2
      go_end0
      refine ⟨⟨_, rfl⟩, _, HS6.out.kL, by simp, ?_⟩
      intro W7 hW7
      dsimp only
      have HS7 : BRow (w.heap.size + 4) w.heap.size (.pointer (some ⟨w.heap.size, 0, none⟩)) (Lib.byteCells (Tess.putL n)) W7 := by
        obtain ⟨v, h1, h2, h3⟩ := HS6.out.kb
        rw [← HBS.out, Tess.putL_lt m (by omega)]
        exact ⟨v, (hW7.block _ (by omega)).trans h1, hW7.owns h2 HS6.out.kL rfl, h3⟩
      have hstr := string_row (w.heap.size + 4) w.heap.size _ _ W7 HS7 (by rw [← HBS.out, Tess.putL_lt m (by omega)]; simp)
      have hK7 := (hW7.block (w.heap.size + 2) (by omega)).trans HS6.out.kD
      have HB7 := Lib.hid (HS6.out.below.trans (hW7.below (by omega)))
      have hs7 : w.heap.size + 4 ≤ W7.heap.size := by rw [hW7.size]; exact HS6.out.size
      have HST := Lib.hid hstr
      clear hstr HS7
      gi_wp2_with (refine ⟨trivial, ?_⟩; gi_at_call 32; refine (callsIn_wide.2 HST.out).mono ?_; rintro e w8 ⟨rfl, hB8⟩; have HB8 := Lib.hid hB8; clear hB8)
      refine ⟨by simp, .inl ⟨_, _, rfl, run_takeDeferred ((HB8.out.block _ (by omega)).trans hK7), ?_⟩⟩
      refine ⟨_, results_tmp rfl _ _ _, rfl, ?_⟩
      exact (HB7.out.trans (HB8.out.mono (by omega))).grown (grownBy_putObj _ (w.heap.size + 2) (.deferred none)) (by have := HB8.out.size; omega) (fun k e => by cases e; omega)
end Go.Proofs.YtpbecldgoimkmaaDoor
