/- Filters in memory; how many they are: the document's, walked. -/
import Derived.Test.YtdfnolgcdododaaDoorF9
namespace Go.Proofs.YtdfnolgcdododaaDoor
open Go.RowKit Go.Sort
open Tess (Fil)

/-- A filter in memory, of at most so many lists in lists; its blocks are such. -/
def FilAt (p : Nat → Prop) : Nat → World → Value → Fil → Prop
  | 0, _, _, _ => False
  | n + 1, w, v, f => ∃ vw a cap, v = .agg #[.int .i64 f.kind, .string f.name, vw, .int .i64 f.frm, .int .i64 f.to, .slice a f.l.length cap] ∧ f.name.size ≤ maxLen ∧ SlP p w vw (f.words.map .string) ∧ (∀ x ∈ f.words, x.size ≤ maxLen) ∧ f.l.length ≤ maxLen ∧ (a = none → cap = 0) ∧
      (0 < f.l.length → ∃ b off, a = some ⟨b, off, none⟩ ∧ b < w.heap.size ∧ p b ∧ ∀ j (h : j < f.l.length), ∃ c0 c1 c2 c3 c4 c5, FilAt p n w (.agg #[c0, c1, c2, c3, c4, c5]) f.l[j] ∧
        w.cell? ⟨b, off + j * 6, none⟩ = some c0 ∧ w.cell? ⟨b, off + j * 6 + 1, none⟩ = some c1 ∧ w.cell? ⟨b, off + j * 6 + 2, none⟩ = some c2 ∧ w.cell? ⟨b, off + j * 6 + 3, none⟩ = some c3 ∧ w.cell? ⟨b, off + j * 6 + 4, none⟩ = some c4 ∧ w.cell? ⟨b, off + j * 6 + 5, none⟩ = some c5)
theorem FilAt.ag {p : Nat → Prop} : ∀ {n : Nat} {w w' : World} {v : Value} {f : Fil}, FilAt p n w v f → Ag p w w' → FilAt p n w' v f
  | 0, _, _, _, _, h, _ => h.elim
  | n + 1, w, w', v, f, h, hg => by
    obtain ⟨vw, a, cap, hv, h1, h2, h3, h4, h5, h6⟩ := h
    refine ⟨vw, a, cap, hv, h1, h2.ag hg, h3, h4, h5, fun hl => ?_⟩
    obtain ⟨b, off, ha, hb, hp, hc⟩ := h6 hl
    refine ⟨b, off, ha, Nat.lt_of_lt_of_le hb hg.1, hp, fun j hj => ?_⟩
    obtain ⟨c0, c1, c2, c3, c4, c5, hf, e0, e1, e2, e3, e4, e5⟩ := hc j hj
    exact ⟨c0, c1, c2, c3, c4, c5, hf.ag hg, (hg.cell hb hp).trans e0, (hg.cell hb hp).trans e1, (hg.cell hb hp).trans e2, (hg.cell hb hp).trans e3, (hg.cell hb hp).trans e4, (hg.cell hb hp).trans e5⟩
theorem FilAt.weak {p q : Nat → Prop} (hpq : ∀ b, p b → q b) : ∀ {n : Nat} {w : World} {v : Value} {f : Fil}, FilAt p n w v f → FilAt q n w v f
  | 0, _, _, _, h => h.elim
  | n + 1, w, v, f, h => by
    obtain ⟨vw, a, cap, hv, h1, h2, h3, h4, h5, h6⟩ := h
    refine ⟨vw, a, cap, hv, h1, h2.weak hpq, h3, h4, h5, fun hl => ?_⟩
    obtain ⟨b, off, ha, hb, hp, hc⟩ := h6 hl
    refine ⟨b, off, ha, hb, hpq b hp, fun j hj => ?_⟩
    obtain ⟨c0, c1, c2, c3, c4, c5, hf, e⟩ := hc j hj
    exact ⟨c0, c1, c2, c3, c4, c5, hf.weak hpq, e⟩
theorem FilAt.shape {p : Nat → Prop} {n : Nat} {w : World} {v : Value} {f : Fil} (h : FilAt p n w v f) : ∃ x a cap, v = .agg #[.int .i64 f.kind, .string f.name, x, .int .i64 f.frm, .int .i64 f.to, .slice a f.l.length cap] := by
  cases n with
  | zero => exact h.elim
  | succ n => obtain ⟨vw, a, cap, hv, _⟩ := h; exact ⟨vw, a, cap, hv⟩

set_option maxRecDepth 100000 in
set_option maxHeartbeats 2000000 in
theorem count_any (p : Nat → Prop) (n : Nat) : ∀ (v : Value) (f : Fil) (w : World), FilAt p n w v f → f.count ≤ 1000000000 →
    Calls Tryd.prog 28 #[v] w fun e w' => e = .returned (.int .i64 (f.count : Nat)) ∧ Below w.heap.size w w' := by
  induction n with
  | zero => intro v f w h; exact h.elim
  | succ n ih =>
    intro v f w h hcnt
    have HF := Lib.hid h
    obtain ⟨vw, a, cap, rfl, _, hvw, _, hl, _, hc⟩ := h
    obtain ⟨wa, wn, wc, rfl⟩ := hvw.shape
    have HC := Lib.hid hc
    have hlm : f.l.length ≤ 9223372036854775807 := by unfold maxLen at hl; omega
    have HCE := Lib.hid (Fil.count_eq f)
    have HCN := Lib.hid hcnt
    clear hvw hc hl hcnt
    go_enter Tryd.func28, Tryd.ntmps28
    go_wp2_with fail
    obtain ⟨W0, hW0⟩ : ∃ W0, w.alloc (.cells #[.int .i64 f.kind, .string f.name, .slice wa wn wc, .int .i64 f.frm, .int .i64 f.to, .slice a f.l.length cap] 29) = W0 := ⟨_, rfl⟩
    have hB0 : Below w.heap.size w W0 := by rw [← hW0]; exact (Below.refl _ _).alloc (Nat.le_refl _) _
    have hbox : W0.heap[w.heap.size]? = some (.cells #[.int .i64 f.kind, .string f.name, .slice wa wn wc, .int .i64 f.frm, .int .i64 f.to, .slice a f.l.length cap] 29 (0, 0)) := by rw [← hW0]; exact heap_alloc_new _ _
    rw [hW0]
    clear hW0
    go_loopw [3, 4] (fun c i wr => ∃ k : Nat, k ≤ f.l.length ∧ i = .int .i64 k ∧ c = .int .i64 ((1 + Fil.countL (f.l.take k) : Nat) : Int) ∧ Below W0.heap.size W0 wr) (fun _ i _ => f.l.length - (intOf i).toNat)
    case atStart => exact ⟨0, Nat.zero_le _, rfl, rfl, Below.refl _ _⟩
    case round =>
      obtain ⟨k, hk, rfl, rfl, hB⟩ := hrel
      have hs0 : w.heap.size < W0.heap.size := (Array.getElem?_eq_some_iff.1 hbox).1
      have c5 := cell_of_row wr w.heap.size 5 _ _ _ ((hB.block _ hs0).trans hbox)
      simp only [List.getElem?_toArray, List.getElem?_cons_succ, List.getElem?_cons_zero] at c5
      have HB := Lib.hid (Bt hB0 hB)
      have HB' := Lib.hid hB
      clear hB
      by_cases hlt : k < f.l.length
      · obtain ⟨b, off, rfl, hb, hp, hel⟩ := HC.out (by omega)
        obtain ⟨e0, e1, e2, e3, e4, e5, hf, q0, q1, q2, q3, q4, q5⟩ := hel k hlt
        have HIH := Lib.hid (fun W (hBW : Below w.heap.size w W) (hc : (f.l[k]).count ≤ 1000000000) => ih _ _ W (hf.ag (Ag.new p hBW)) hc)
        have hki : (k : Int) < (f.l.length : Int) := by omega
        have r0 := (HB.out.cell (p := ⟨b, off + k * 6, none⟩) hb).trans q0
        have r1 := (HB.out.cell (p := ⟨b, off + k * 6 + 1, none⟩) hb).trans q1
        have r2 := (HB.out.cell (p := ⟨b, off + k * 6 + 2, none⟩) hb).trans q2
        have r3 := (HB.out.cell (p := ⟨b, off + k * 6 + 3, none⟩) hb).trans q3
        have r4 := (HB.out.cell (p := ⟨b, off + k * 6 + 4, none⟩) hb).trans q4
        have r5 := (HB.out.cell (p := ⟨b, off + k * 6 + 5, none⟩) hb).trans q5
        clear hel q0 q1 q2 q3 q4 q5 hf
        have hsc := Fil.countL_take_succ f.l k hlt
        have hle := Fil.countL_take_le f.l (k + 1)
        have hcn := HCN.out
        rw [HCE.out] at hcn
        have hck : (f.l[k]).count ≤ 1000000000 := by omega
        have HCK := Lib.hid (HIH.out wr HB.out hck)
        have HSC := Lib.hid hsc
        have hm : 1 + Fil.countL (f.l.take k) + (f.l[k]).count ≤ 1000000000 := by omega
        clear hsc hle hcn hck HIH
        generalize Fil.countL (f.l.take k) = m at *
        generalize (f.l[k]).count = m2 at *
        go_wp2_with (go_at_call 28; refine HCK.out.mono ?_; rintro e w2 ⟨rfl, hB2⟩; have HB2 := Lib.hid (Bt HB'.out hB2); clear hB2)
        go_roundw
        case rel => exact ⟨k + 1, by omega, by go_num, by rw [HSC.out]; go_num, HB2.out⟩
        case measure => simp [intOf]; omega
      · have hki : ¬ (k : Int) < (f.l.length : Int) := by omega
        have HE := Lib.hid (show f.l.take k = f.l from List.take_of_length_le (by omega))
        go_wp2
        go_ret
        exact ⟨ret_int (by rw [HCE.out, HE.out]; omega), HB.out⟩
end Go.Proofs.YtdfnolgcdododaaDoor
