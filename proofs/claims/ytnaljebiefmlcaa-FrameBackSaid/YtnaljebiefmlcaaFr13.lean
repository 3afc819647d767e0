/- Frames parted: the program's. -/
import Derived.Test.YtnaljebiefmlcaaFr12
import Derived.Test.YtnaljebiefmlcaaRf
import Derived.OwnWalkIn
import Derived.TacticsInMore
import Derived.LoopNIn
import Derived.LoopIn
import Derived.Shelf.Abstract
import Derived.Shelf.RegionOpen
namespace Go.Proofs.Ytnaljebiefmlcaa
open Go.RowKit Go.Sort Go.Shelf
attribute [local go_sem] Oper.semAt_some

set_option maxHeartbeats 1000000 in
theorem frames_any (p : Option Addr) (w : World) :
    Calls Try.prog 29 #[.pointer p] w fun e w' => e = .returned (.func (.func 30) #[] #[.pointer (some ⟨w.heap.size, 0, none⟩)]) ∧ w.alloc (.cells #[.pointer p] 50) = w' := by
  go_enter Try.func29, Try.ntmps29
  go_wp2
  go_ret
  exact ⟨rfl, rfl⟩

theorem cell_of_box {W : World} {B : Nat} {v : Value} {t : TypeId} (h : W.heap[B]? = some (.cells #[v] t (0, 0))) : W.cell? ⟨B, 0, none⟩ = some v ∧ W.frozen? ⟨B, 0, none⟩ = false := by
  constructor <;> simp [World.cell?, World.frozen?, h]
theorem heap_setCell_box {W : World} {B : Nat} {v : Value} {t : TypeId} (v' : Value) (h : W.heap[B]? = some (.cells #[v] t (0, 0))) : (W.setCell ⟨B, 0, none⟩ v').heap[B]? = some (.cells #[v'] t (0, 0)) := by
  obtain ⟨hlt, hk⟩ := Array.getElem?_eq_some_iff.1 h
  show (W.heap.modify B _)[B]? = _
  rw [Array.getElem?_eq_getElem (by rw [Array.size_modify]; exact hlt), Array.getElem_modify_self, hk]
  rfl
theorem grownBy_putObj (W : World) (l : Nat) (o : Obj) : W.grownBy (W.putObj l o) (some l) :=
  ⟨rfl, rfl, rfl, by simp, fun k _ hk => World.putObj_heap_other (fun e => hk (by rw [e]))⟩
theorem ownsRow_ne {W : World} {base : Nat} {e : TypeId} {size : Nat} {v : Value} {k : Nat} {xs : List Value} (h : W.ownsRow base e size v k xs) {j : Nat} {o : Obj} (hj : W.heap[j]? = some o) (hno : ∀ cur, o ≠ .cells cur e (0, 0)) :
    v.ownBlock = none ∨ v.ownBlock ≠ some j := by
  rcases h.2 with ⟨rfl, _⟩ | ⟨g, cap, cur, rfl, _, hgb, _⟩
  · exact .inl rfl
  · refine .inr fun e' => ?_
    have : g = j := by simpa [Value.ownBlock] using e'
    subst this; rw [hgb] at hj; cases hj; exact hno cur rfl
theorem hs_ne {W : World} {B k : Nat} {u : Value} (h : k ≠ B) : (W.setCell ⟨B, 0, none⟩ u).heap[k]? = W.heap[k]? := Below.heap_setCell _ _ _ _ h
/-- What lies in sight between two rounds. -/
structure Sp (w : World) (rec : Loop) (cur : ByteArray) (out : List ByteArray) (v : Value) (e : Int) (wr : World) : Prop where
  k0 : wr.heap[w.heap.size]? = some (.cells #[v] 38 (0, 0))
  k1 : wr.heap[w.heap.size + 1]? = some (.cells #[.int .i64 e] 24 (0, 0))
  k2 : wr.heap[w.heap.size + 2]? = some (.cells #[.string cur] 54 (0, 0))
  k3 : wr.heap[w.heap.size + 3]? = some (.cells #[.pointer (some ⟨w.heap.size + 2, 0, none⟩)] 50 (0, 0))
  kD : wr.heap[w.heap.size + 4]? = some (.deferred (some []))
  kL : wr.heap[w.heap.size + 5]? = some (.loop rec)
  own : wr.ownsRow (w.heap.size + 6) 9 1 v out.length (strV out)
  below : Below w.heap.size w wr
  size : w.heap.size + 6 ≤ wr.heap.size
section
variable {w W W' : World} {rec rec' : Loop} {cur cur' : ByteArray} {out out' : List ByteArray} {v v' : Value} {e e' : Int}
theorem Sp.under (h : Sp w rec cur out v e W) (hb : Below W.heap.size W W') : Sp w rec cur out v e W' := by
  have hs := h.size
  exact ⟨(hb.block _ (by omega)).trans h.k0, (hb.block _ (by omega)).trans h.k1, (hb.block _ (by omega)).trans h.k2, (hb.block _ (by omega)).trans h.k3, (hb.block _ (by omega)).trans h.kD, (hb.block _ (by omega)).trans h.kL,
    owns_below h.own hb, Bt h.below hb, Nat.le_trans hs hb.size⟩
theorem Sp.set2 (h : Sp w rec cur out v e W) (cur' : ByteArray) : Sp w rec cur' out v e (W.setCell ⟨w.heap.size + 2, 0, none⟩ (.string cur')) :=
  ⟨(hs_ne (by omega)).trans h.k0, (hs_ne (by omega)).trans h.k1, heap_setCell_box _ h.k2, (hs_ne (by omega)).trans h.k3, (hs_ne (by omega)).trans h.kD, (hs_ne (by omega)).trans h.kL,
    ownsRow_setCell_below h.own (by show _ + 2 < _; omega) _, h.below.setCell (by show _ ≤ _ + 2; omega) _, by simpa [World.setCell] using h.size⟩
theorem Sp.set1 (h : Sp w rec cur out v e W) (e' : Int) : Sp w rec cur out v e' (W.setCell ⟨w.heap.size + 1, 0, none⟩ (.int .i64 e')) :=
  ⟨(hs_ne (by omega)).trans h.k0, heap_setCell_box _ h.k1, (hs_ne (by omega)).trans h.k2, (hs_ne (by omega)).trans h.k3, (hs_ne (by omega)).trans h.kD, (hs_ne (by omega)).trans h.kL,
    ownsRow_setCell_below h.own (by show _ + 1 < _; omega) _, h.below.setCell (by show _ ≤ _ + 1; omega) _, by simpa [World.setCell] using h.size⟩
theorem Sp.but (h : Sp w rec cur out v e W) (hs : Rf.SameBut (w.heap.size + 4 + 1) W W') (hl : W'.heap[w.heap.size + 4 + 1]? = some (.loop rec')) : Sp w rec' cur out v e W' :=
  ⟨(hs.block _ (by omega)).trans h.k0, (hs.block _ (by omega)).trans h.k1, (hs.block _ (by omega)).trans h.k2, (hs.block _ (by omega)).trans h.k3, (hs.block _ (by omega)).trans h.kD, hl,
    hs.owns h.own h.kL rfl, h.below.trans (hs.below (by omega)), by rw [hs.size]; exact h.size⟩
/-- The blocks below the rows, behind an append. -/
theorem Sp.grown (h : Sp w rec cur out v e W) {o : Obj} (hg : (W.alloc o).grownBy W' v.ownBlock) {k : Nat} (hk : k < w.heap.size + 6) : W'.heap[k]? = W.heap[k]? := by
  have hs := h.size
  exact (hg.block k (by simp; omega) (fun e => by have := (h.own.lt k e.symm).1; omega)).trans (Below.heap_alloc _ _ _ (by omega))
theorem Sp.append (h : Sp w rec cur out v e W) {o : Obj} (hg : (W.alloc o).grownBy W' v.ownBlock) (hown : W'.ownsRow (w.heap.size + 6) 9 1 v' out'.length (strV out')) : Sp w rec cur out' v' e (W'.setCell ⟨w.heap.size, 0, none⟩ v') := by
  have hs := h.size
  have hb : Below w.heap.size w W' := (h.below.alloc h.below.size _).grown hg (by simp; omega) (fun k e => by have := (h.own.lt k e).1; omega)
  exact ⟨heap_setCell_box _ ((h.grown hg (by omega)).trans h.k0), (hs_ne (by omega)).trans ((h.grown hg (by omega)).trans h.k1), (hs_ne (by omega)).trans ((h.grown hg (by omega)).trans h.k2), (hs_ne (by omega)).trans ((h.grown hg (by omega)).trans h.k3),
    (hs_ne (by omega)).trans ((h.grown hg (by omega)).trans h.kD), (hs_ne (by omega)).trans ((h.grown hg (by omega)).trans h.kL),
    ownsRow_setCell_below hown (by show w.heap.size < w.heap.size + 6; omega) _, hb.setCell (Nat.le_refl _) _, by have := hg.size; simp [World.setCell] at *; omega⟩
end
def curLen (k : Nat) (wr : World) : Nat := match wr.cell? ⟨k, 0, none⟩ with | some (.string c) => c.size | _ => 0

set_option maxRecDepth 100000 in
set_option maxHeartbeats 1000000 in
theorem split_any (s : ByteArray) (w : World) (hs : s.size ≤ 10000) : Calls Try.prog 21 #[.string s] w (SplitPost s w) := by
  obtain ⟨i0, hi, hz0, hz1, hz2⟩ := info_parts infoStr
  refine (callsIn_wide (n := 5)).1 ?_
  refine callsIn_of_wp_marks Try.func21 rfl trivial ?_ rfl
  simp only [Try.ntmps21, List.size_toArray, List.length_cons, List.length_nil, Nat.reduceAdd, Nat.reduceSub, Array.replicate_succ, Array.replicate_zero, List.push_toArray, List.append_toArray, List.nil_append, List.cons_append]
  gi_wp2
  refine Rf.wpIn_scope_straight ?_
  gi_wp2
  refine wpIn_label ?_
  gi_wp2_with (refine ⟨trivial, ?_⟩; gi_at_call 29; refine (callsIn_wide.2 (frames_any _ _)).mono ?_; rintro e w' ⟨rfl, rfl⟩)
  obtain ⟨w0, hw0⟩ : ∃ w0, (((w.alloc (.cells #[.slice none 0 0] 38)).alloc (.cells #[.int .i64 0] 24)).alloc (.cells #[.string s] 54)).alloc (.cells #[.pointer (some ⟨w.heap.size + 1 + 1, 0, none⟩)] 50) = w0 := ⟨_, rfl⟩
  have hA : w0.heap.size = w.heap.size + 4 := by rw [← hw0]; simp
  have hB0 : Below w.heap.size w w0 := by rw [← hw0]; exact ((((Below.refl _ _).alloc (Nat.le_refl _) _).alloc (by simp) _).alloc (by simp <;> omega) _).alloc (by simp <;> omega) _
  have h0 : w0.heap[w.heap.size]? = some (.cells #[.slice none 0 0] 38 (0, 0)) := by rw [← hw0]; exact (Below.heap_alloc _ _ _ (by simp <;> omega)).trans ((Below.heap_alloc _ _ _ (by simp <;> omega)).trans ((Below.heap_alloc _ _ _ (by simp)).trans (World.alloc_heap_new w _)))
  have h1 : w0.heap[w.heap.size + 1]? = some (.cells #[.int .i64 0] 24 (0, 0)) := by
    rw [← hw0]; refine (Below.heap_alloc _ _ _ (by simp <;> omega)).trans ((Below.heap_alloc _ _ _ (by simp)).trans ?_)
    have := World.alloc_heap_new (w.alloc (.cells #[.slice none 0 0] 38)) (.cells #[.int .i64 0] 24); rwa [World.size_alloc] at this
  have h2 : w0.heap[w.heap.size + 2]? = some (.cells #[.string s] 54 (0, 0)) := by
    rw [← hw0]; refine (Below.heap_alloc _ _ _ (by simp)).trans ?_
    have := World.alloc_heap_new ((w.alloc (.cells #[.slice none 0 0] 38)).alloc (.cells #[.int .i64 0] 24)) (.cells #[.string s] 54); rwa [World.size_alloc, World.size_alloc] at this
  have h3 : w0.heap[w.heap.size + 3]? = some (.cells #[.pointer (some ⟨w.heap.size + 2, 0, none⟩)] 50 (0, 0)) := by
    rw [← hw0]
    have := World.alloc_heap_new (((w.alloc (.cells #[.slice none 0 0] 38)).alloc (.cells #[.int .i64 0] 24)).alloc (.cells #[.string s] 54)) (.cells #[.pointer (some ⟨w.heap.size + 1 + 1, 0, none⟩)] 50); rwa [World.size_alloc, World.size_alloc, World.size_alloc] at this
  simp only [hw0, Nat.add_assoc, Nat.reduceAdd]
  clear hw0
  refine Rf.range_wide (gf := 30) (lb := #[.pointer (some ⟨w.heap.size + 3, 0, none⟩)]) rfl (enters_of Try.func30 (by kernel_rfl) rfl) ?_
  intro fn W1 hL hD hB1 hS1
  rw [hA] at hL hD hS1 ⊢
  obtain ⟨rec, hrec, hL⟩ : ∃ rec : Loop, rec = _ ∧ W1.heap[w.heap.size + 4 + 1]? = some (.loop rec) := ⟨_, rfl, hL⟩
  have HREC := Lib.hid hrec
  have hst : rec.state = .ready ∧ rec.params.size = 2 ∧ rec.pending = none := by rw [hrec]; exact ⟨rfl, rfl, rfl⟩
  clear hrec
  obtain ⟨hst, hps, hpe⟩ := hst
  have k0 := (hB1.block _ (by omega)).trans h0
  have k1 := (hB1.block _ (by omega)).trans h1
  have k2 := (hB1.block _ (by omega)).trans h2
  have k3 := (hB1.block _ (by omega)).trans h3
  have hI : Sp w rec s [] (.slice none 0 0) 0 W1 := ⟨k0, k1, k2, k3, hD, hL, World.ownsRow_nil _ _ _ _, Bt hB0 hB1, by omega⟩
  clear hB0 hB1 h0 h1 h2 h3 k0 k1 k2 k3 hD hL
  refine callsIn_of_wp Try.func30 rfl trivial ?_ rfl
  simp only [Try.ntmps30, List.size_toArray, List.length_cons, List.length_nil, Nat.reduceAdd, Nat.reduceSub, Array.replicate_succ, Array.replicate_zero, List.push_toArray, List.append_toArray, List.nil_append, List.cons_append]
  gi_wp2
  gi_loopw [3, 4, 5] (fun _ _ _ wr => ∃ (cur : ByteArray) (out : List ByteArray) (f : Nat) (v : Value), Sp w rec cur out v 0 wr ∧ 8 * out.length + cur.size ≤ s.size ∧ cur.size ≤ f ∧ Tess.splitF f out cur = Tess.splitF s.size [] s) (fun _ _ _ wr => curLen (w.heap.size + 2) wr)
  case atStart => exact ⟨s, [], s.size, _, hI, by simp, Nat.le_refl _, rfl⟩
  case round =>
    obtain ⟨cur, out, f, v, hS, hlen, hf, heq⟩ := hrel
    have HEQ := Lib.hid heq
    have HS := Lib.hid hS
    clear heq hS
    obtain ⟨c3, z3⟩ := cell_of_box HS.out.k3
    obtain ⟨c2, z2⟩ := cell_of_box HS.out.k2
    by_cases hc0 : cur.size = 0
    · obtain rfl := size_nil hc0
      have HZ := Lib.hid ((Tess.splitF_zero f out _ hc0).symm.trans HEQ.out)
      gi_wp2
      go_end0
      refine ⟨⟨_, rfl⟩, rec, HS.out.kL, by rw [hst]; decide, ?_⟩
      intro W4 hW4
      rw [hpe]
      dsimp only
      obtain ⟨q0, y0⟩ := cell_of_box ((hW4.block w.heap.size (by omega)).trans HS.out.k0)
      obtain ⟨q1, y1⟩ := cell_of_box ((hW4.block (w.heap.size + 1) (by omega)).trans HS.out.k1)
      gi_wp2
      refine ⟨by simp, .inl ⟨_, _, rfl, run_takeDeferred ((hW4.block (w.heap.size + 4) (by omega)).trans HS.out.kD), ?_⟩⟩
      have hK4 := (hW4.block (w.heap.size + 4) (by omega)).trans HS.out.kD
      refine ⟨_, results_tmp2 rfl _ _ _, v, by rw [← HZ.out]; rfl, ?_, ?_⟩
      · rw [← HZ.out]; exact SlOf.owned ((hW4.owns HS.out.own HS.out.kL rfl).kept (grownBy_putObj _ _ _) (ownsRow_ne (hW4.owns HS.out.own HS.out.kL rfl) hK4 (fun cur e => by cases e)))
      · exact (HS.out.below.trans (hW4.below (by omega))).grown (grownBy_putObj _ _ _) (by have := HS.out.size; rw [hW4.size]; omega) (fun k e => by cases e; omega)
    · have hne := size_ne hc0
      have hlt : curLen (w.heap.size + 2) wr = cur.size := by unfold curLen; rw [c2]
      by_cases he : (Tess.rd cur).2.2 = 0
      · obtain ⟨f', hf', hstp⟩ := Tess.splitF_step f out cur hc0 hf he
        obtain ⟨hr1, hr2⟩ := Tess.rd_rest cur he
        have HST := Lib.hid (hstp.symm.trans HEQ.out)
        have hrd := read_any cur wr (by unfold maxLen; omega)
        unfold RdPost at hrd
        rw [he] at hrd
        generalize (Tess.rd cur).1 = b at *
        generalize (Tess.rd cur).2.1 = rest at *
        have HR := Lib.hid hrd
        clear hrd hstp
        gi_wp2_with (refine ⟨trivial, ?_⟩; gi_at_call 14; refine (callsIn_wide.2 HR.out).mono ?_; rintro e w2 ⟨rfl, hB2⟩; have HB2 := Lib.hid hB2; have hsz := HS.out.size; have c3b := (hB2.cell (p := ⟨w.heap.size + 3, 0, none⟩) (by show w.heap.size + 3 < _; omega)).trans c3; have z3b := (hB2.frozen (p := ⟨w.heap.size + 3, 0, none⟩) (by show w.heap.size + 3 < _; omega)).trans z3; have c2b := (hB2.cell (p := ⟨w.heap.size + 2, 0, none⟩) (by show w.heap.size + 2 < _; omega)).trans c2; have z2b := (hB2.frozen (p := ⟨w.heap.size + 2, 0, none⟩) (by show w.heap.size + 2 < _; omega)).trans z2; have hy := run_yield (P := Try.prog) (w := w2.setCell ⟨w.heap.size + 2, 0, none⟩ (.string rest)) (l := w.heap.size + 4 + 1) (r := rec) (args := #[.string b, .int .i64 0]) ((Below.heap_setCell _ _ _ _ (by show _ ≠ w.heap.size + 2; omega)).trans ((hB2.block (w.heap.size + 5) (by omega)).trans HS.out.kL)) (by rw [hps]; rfl))
        have hS3 := Lib.hid ((HS.out.under HB2.out).set2 rest)
        clear c2b c3b z2b z3b c2 c3 z2 z3
        refine Rf.round_wide (r := rec) ?_
        have hrr := HREC.out
        subst hrr
        dsimp only
        gi_wp2_with (rw [Oper.semAt_eq _ _ _ (fun c h => by cases h)]; go_simp; try go_bits)
        refine ⟨hS3.out.kL, fun W4 hs4 hl4 => ?_⟩
        have HS4 := Lib.hid (hS3.out.but hs4 hl4)
        obtain ⟨c0, z0⟩ := cell_of_box HS4.out.k0
        clear hs4 hl4 hy hL
        gi_wp2_with (first
          | (gi_at_builtin; refine wpListIn_append_own _ rfl _ _ 38 rfl (w.heap.size + 6) 9 i0 (.string ByteArray.empty) 1 16 Try.underlying38 hi hz0 hz1 hz2 rfl (by decide) _ _ _ rfl (HS4.out.own.alloc _) ⟨W4.heap.size, 0, none⟩ 1 1 [.string b] rfl rfl (cell_one_new _ _ _) (by simp [Value.oneCell']) (by unfold maxLen; omega) (by omega) (by have := HS4.out.size; simp; omega) ?_; intro v' w3 hown' hg3 _; obtain ⟨c0b, z0b⟩ := cell_of_box ((HS4.out.grown hg3 (by omega)).trans HS4.out.k0); obtain ⟨gg, cp, rfl, _⟩ := owns_cell hown' (by omega); go_frame)
          | (rw [Oper.semAt_eq _ _ _ (fun c h => by cases h)]; go_simp; try go_bits))
        refine ⟨(HS4.out.append hg3 (out' := out ++ [b]) (by simpa [strV] using hown')).kL, fun W5 hs5 hl5 => ?_⟩
        have HS5 := Lib.hid ((HS4.out.append hg3 (out' := out ++ [b]) (by simpa [strV] using hown')).but hs5 hl5)
        clear hg3 hown' hs5 hl5 c0b z0b
        dsimp only
        gi_wp2
        go_roundw
        case rel => exact ⟨rest, out ++ [b], f', _, HS5.out, by simp; omega, hf', HST.out⟩
        case measure =>
          obtain ⟨c5, _⟩ := cell_of_box HS5.out.k2
          rw [hlt]; unfold curLen; rw [c5]; show rest.size < _; omega
      · have HST := Lib.hid ((Tess.splitF_err f out cur hc0 hf he).symm.trans HEQ.out)
        have hrd := read_any cur wr (by unfold maxLen; omega)
        unfold RdPost at hrd
        have hei : (((Tess.rd cur).2.2 : Nat) : Int) ≠ 0 := by omega
        have hen : ((((Tess.rd cur).2.2 : Nat) : Int) != 0) = true := by rw [bne_iff_ne]; exact hei
        generalize (Tess.rd cur).1 = b at *
        generalize (Tess.rd cur).2.1 = rest at *
        generalize (Tess.rd cur).2.2 = en at *
        have HR := Lib.hid hrd
        clear hrd
        gi_wp2_with (refine ⟨trivial, ?_⟩; gi_at_call 14; refine (callsIn_wide.2 HR.out).mono ?_; rintro e w2 ⟨rfl, hB2⟩; have HB2 := Lib.hid hB2; have hsz := HS.out.size; have c3b := (hB2.cell (p := ⟨w.heap.size + 3, 0, none⟩) (by show w.heap.size + 3 < _; omega)).trans c3; have z3b := (hB2.frozen (p := ⟨w.heap.size + 3, 0, none⟩) (by show w.heap.size + 3 < _; omega)).trans z3; have c2b := (hB2.cell (p := ⟨w.heap.size + 2, 0, none⟩) (by show w.heap.size + 2 < _; omega)).trans c2; have z2b := (hB2.frozen (p := ⟨w.heap.size + 2, 0, none⟩) (by show w.heap.size + 2 < _; omega)).trans z2; have hy := run_yield (P := Try.prog) (w := w2.setCell ⟨w.heap.size + 2, 0, none⟩ (.string rest)) (l := w.heap.size + 4 + 1) (r := rec) (args := #[.string b, .int .i64 (en : Nat)]) ((Below.heap_setCell _ _ _ _ (by show _ ≠ w.heap.size + 2; omega)).trans ((hB2.block (w.heap.size + 5) (by omega)).trans HS.out.kL)) (by rw [hps]; rfl))
        have hS3 := Lib.hid ((HS.out.under HB2.out).set2 rest)
        clear c2b c3b z2b z3b c2 c3 z2 z3
        refine Rf.round_wide (r := rec) ?_
        have hrr := HREC.out
        subst hrr
        dsimp only
        gi_wp2_with (rw [Oper.semAt_eq _ _ _ (fun c h => by cases h)]; go_simp; try go_bits)
        refine ⟨hS3.out.kL, fun W4 hs4 hl4 => ?_⟩
        have HS4 := Lib.hid (hS3.out.but hs4 hl4)
        obtain ⟨c1, z1⟩ := cell_of_box HS4.out.k1
        clear hs4 hl4 hy hL
        gi_wp2_with (rw [Oper.semAt_eq _ _ _ (fun c h => by cases h)]; go_simp; try go_bits)
        refine ⟨(HS4.out.set1 en).kL, fun W5 hs5 hl5 => ?_⟩
        have HS5 := Lib.hid ((HS4.out.set1 en).but hs5 hl5)
        clear hs5 hl5
        dsimp only
        gi_wp2
        refine bodyPost_ret (results_none (by rfl) _ _ _) rfl ?_
        refine ⟨⟨_, rfl⟩, _, HS5.out.kL, by simp, ?_⟩
        intro W6 hW6
        dsimp only
        have hK6 := (hW6.block (w.heap.size + 4) (by omega)).trans HS5.out.kD
        obtain ⟨q1, y1⟩ := cell_of_box ((hW6.block (w.heap.size + 1) (by omega)).trans HS5.out.k1)
        gi_wp2
        refine wpIn_wide.2 ?_
        go_quiet (fail)
        gi_wp2
        refine ⟨by simp, .inl ⟨_, _, rfl, run_takeDeferred hK6, ?_⟩⟩
        refine ⟨_, results_tmp2 rfl _ _ _, .slice none 0 0, by rw [← HST.out]; rfl, ?_, ?_⟩
        · rw [← HST.out]; exact SlOf.nil _
        · have hb6 : Below w.heap.size w (W6.drewN nq) := (HS5.out.below.trans (hW6.below (by omega))).trans ⟨rfl, rfl, rfl, Nat.le_refl _, fun _ _ => rfl⟩
          exact hb6.grown (grownBy_putObj _ (w.heap.size + 4) (.deferred none)) (by have := HS5.out.size; show _ ≤ W6.heap.size; rw [hW6.size]; omega) (fun k e => by cases e; omega)
end Go.Proofs.Ytnaljebiefmlcaa
