/- Values in memory; the two closures of holds. -/
import Derived.Test.YtdfnolgcdododaaDoorF24
namespace Go.Proofs.YtdfnolgcdododaaDoor
open Go.RowKit Go.Sort
open Tess (Fil)

/-- Values in memory. -/
def ValsAt (p : Nat → Prop) (w : World) (v : Value) (l : List Tess.Val) : Prop :=
  ∃ a cap, v = .slice a l.length cap ∧ l.length ≤ maxLen ∧ (∀ x ∈ l, x.s.size ≤ maxLen) ∧ (a = none → cap = 0) ∧
    (0 < l.length → ∃ b off, a = some ⟨b, off, none⟩ ∧ b < w.heap.size ∧ p b ∧ ∀ j (h : j < l.length), w.cell? ⟨b, off + j * 2, none⟩ = some (.string l[j].s) ∧ w.cell? ⟨b, off + j * 2 + 1, none⟩ = some (.bool l[j].null))
theorem ValsAt.ag {p : Nat → Prop} {w w' : World} {v : Value} {l : List Tess.Val} (h : ValsAt p w v l) (hg : Ag p w w') : ValsAt p w' v l := by
  obtain ⟨a, cap, hv, h1, h2, h3, h4⟩ := h
  refine ⟨a, cap, hv, h1, h2, h3, fun hl => ?_⟩
  obtain ⟨b, off, ha, hb, hp, hc⟩ := h4 hl
  refine ⟨b, off, ha, Nat.lt_of_lt_of_le hb hg.1, hp, fun j hj => ?_⟩
  exact ⟨(hg.cell hb hp).trans (hc j hj).1, (hg.cell hb hp).trans (hc j hj).2⟩
theorem ValsAt.weak {p q : Nat → Prop} {w : World} {v : Value} {l : List Tess.Val} (h : ValsAt p w v l) (hpq : ∀ b, p b → q b) : ValsAt q w v l := by
  obtain ⟨a, cap, hv, h1, h2, h3, h4⟩ := h
  refine ⟨a, cap, hv, h1, h2, h3, fun hl => ?_⟩
  obtain ⟨b, off, ha, hb, hp, hc⟩ := h4 hl
  exact ⟨b, off, ha, hb, hpq b hp, hc⟩

/-- What holds asks of itself. -/
def Asks (B : Nat) (vs v : Value) (t : Int) (vd : Value) (r : Bool) (W : World) : Prop :=
  ∀ W', Below B W W' → Calls Tryd.prog 32 #[vs, v, .int .i64 t, vd] W' fun e w' => e = .returned (.bool r) ∧ Below W'.heap.size W' w'

theorem is_any (bs bt bd : Nat) (s0 s1 s2 c0 c1 c2 c3 c4 c5 : Value) (t : Int) (da : Option Addr) (dn dc : Nat) (r : Bool) (W : World) (T1 T2 T3 : TypeId)
    (hs : W.heap[bs]? = some (.cells #[s0, s1, s2] T1 (0, 0))) (ht : W.heap[bt]? = some (.cells #[.int .i64 t] T2 (0, 0))) (hd : W.heap[bd]? = some (.cells #[.slice da dn dc] T3 (0, 0)))
    (H : Asks W.heap.size (.agg #[s0, s1, s2]) (.agg #[c0, c1, c2, c3, c4, c5]) t (.slice da dn dc) r W) :
    Calls Tryd.prog 57 #[.agg #[c0, c1, c2, c3, c4, c5], .pointer (some ⟨bs, 0, none⟩), .pointer (some ⟨bt, 0, none⟩), .pointer (some ⟨bd, 0, none⟩)] W fun e w' => e = .returned (.bool r) ∧ Below W.heap.size W w' := by
  have HH := Lib.hid H
  clear H
  obtain ⟨k1, k2, hB⟩ := laid1 W (.cells #[c0, c1, c2, c3, c4, c5] 29)
  have HB := Lib.hid hB
  obtain ⟨x0, x1, x2⟩ := right_cells3 hB hs
  have y0 := (cell_of_box ((hB.block _ (Array.getElem?_eq_some_iff.1 ht).1).trans ht)).1
  have z0 := (cell_of_box ((hB.block _ (Array.getElem?_eq_some_iff.1 hd).1).trans hd)).1
  clear hB k1 k2 hs ht hd
  go_enter Tryd.func57, Tryd.ntmps57
  go_wp2_with (go_at_call 32; refine (HH.out _ HB.out).mono ?_; rintro e w2 ⟨rfl, hB2⟩; have HB2 := Lib.hid hB2; clear hB2)
  go_ret
  exact ⟨rfl, Bt HB.out HB2.out⟩

theorem isNot_any (bi bs bt bd : Nat) (s0 s1 s2 c0 c1 c2 c3 c4 c5 : Value) (t : Int) (da : Option Addr) (dn dc : Nat) (r : Bool) (W : World) (T1 T2 T3 T4 : TypeId)
    (hi : W.heap[bi]? = some (.cells #[.func (.func 57) #[] #[.pointer (some ⟨bs, 0, none⟩), .pointer (some ⟨bt, 0, none⟩), .pointer (some ⟨bd, 0, none⟩)]] T4 (0, 0)))
    (hs : W.heap[bs]? = some (.cells #[s0, s1, s2] T1 (0, 0))) (ht : W.heap[bt]? = some (.cells #[.int .i64 t] T2 (0, 0))) (hd : W.heap[bd]? = some (.cells #[.slice da dn dc] T3 (0, 0)))
    (H : Asks W.heap.size (.agg #[s0, s1, s2]) (.agg #[c0, c1, c2, c3, c4, c5]) t (.slice da dn dc) r W) :
    Calls Tryd.prog 58 #[.agg #[c0, c1, c2, c3, c4, c5], .pointer (some ⟨bi, 0, none⟩)] W fun e w' => e = .returned (.bool (!r)) ∧ Below W.heap.size W w' := by
  obtain ⟨k1, k2, hB⟩ := laid1 W (.cells #[c0, c1, c2, c3, c4, c5] 29)
  have HB := Lib.hid hB
  have y0 := (cell_of_box ((hB.block _ (Array.getElem?_eq_some_iff.1 hi).1).trans hi)).1
  have HI := Lib.hid (is_any bs bt bd s0 s1 s2 c0 c1 c2 c3 c4 c5 t da dn dc r _ T1 T2 T3 ((hB.block _ (Array.getElem?_eq_some_iff.1 hs).1).trans hs) ((hB.block _ (Array.getElem?_eq_some_iff.1 ht).1).trans ht) ((hB.block _ (Array.getElem?_eq_some_iff.1 hd).1).trans hd)
    (fun W' h => H W' (Bt hB h)))
  clear hB k1 k2 hs ht hd H hi
  go_enter Tryd.func58, Tryd.ntmps58
  go_wp2_with (go_at_call 57; refine HI.out.mono ?_; rintro e w2 ⟨rfl, hB2⟩; have HB2 := Lib.hid hB2; clear hB2)
  go_ret
  exact ⟨rfl, Bt HB.out HB2.out⟩
end Go.Proofs.YtdfnolgcdododaaDoor
