/- What is wrong with a filter: the program's answer. -/
import Derived.Test.YtdfnolgcdododaaDoorF8
import Derived.Test.YtdfnolgcdododaaDoorF21
namespace Go.Proofs.YtdfnolgcdododaaDoor
open Go.RowKit Go.Sort Go.Shelf
open Tess (Fil)

/-- A filter's kinds are ints of the machine. -/
def kindsOk (f : Fil) : Prop := Fil.allP (fun x => decide (-9223372036854775808 ≤ x.kind) && decide (x.kind ≤ 9223372036854775807)) f = true

theorem chk_code (s : Tess.Sch) (l : List (Nat × Fil)) : ∀ n g, Fil.chk s n g l = 0 ∨ Fil.chk s n g l = 140 ∨ Fil.chk s n g l = 110 := by
  induction l with
  | nil => intro n g; cases g <;> simp [Fil.chk]
  | cons x r ih =>
    intro n g
    obtain ⟨d, x⟩ := x
    simp only [Fil.chk]
    split
    · exact .inr (.inl rfl)
    · exact ih _ _

theorem right_cells3 {w w' : World} {g : Nat} {x0 x1 x2 : Value} {t : TypeId} (hB : Below w.heap.size w w') (hg : w.heap[g]? = some (.cells #[x0, x1, x2] t (0, 0))) : w'.cell? ⟨g, 0, none⟩ = some x0 ∧ w'.cell? ⟨g, 1, none⟩ = some x1 ∧ w'.cell? ⟨g, 2, none⟩ = some x2 := by
  have hg' := (hB.block _ (Array.getElem?_eq_some_iff.1 hg).1).trans hg
  exact ⟨cell_of_row _ _ 0 _ _ _ hg', cell_of_row _ _ 1 _ _ _ hg', cell_of_row _ _ 2 _ _ _ hg'⟩
theorem right_cells6 {w w' : World} {g : Nat} {x0 x1 x2 x3 x4 x5 : Value} {t : TypeId} (hB : Below w.heap.size w w') (hg : w.heap[g]? = some (.cells #[x0, x1, x2, x3, x4, x5] t (0, 0))) : w'.cell? ⟨g, 0, none⟩ = some x0 ∧ w'.cell? ⟨g, 1, none⟩ = some x1 ∧ w'.cell? ⟨g, 2, none⟩ = some x2 ∧ w'.cell? ⟨g, 3, none⟩ = some x3 ∧ w'.cell? ⟨g, 4, none⟩ = some x4 ∧ w'.cell? ⟨g, 5, none⟩ = some x5 := by
  have hg' := (hB.block _ (Array.getElem?_eq_some_iff.1 hg).1).trans hg
  exact ⟨cell_of_row _ _ 0 _ _ _ hg', cell_of_row _ _ 1 _ _ _ hg', cell_of_row _ _ 2 _ _ _ hg', cell_of_row _ _ 3 _ _ _ hg', cell_of_row _ _ 4 _ _ _ hg', cell_of_row _ _ 5 _ _ _ hg'⟩

set_option maxRecDepth 100000 in
theorem check_any (a0 a1 : Addr) (p : Nat → Prop) (n : Nat) (vs v : Value) (s : Tess.Sch) (f : Fil) (w : World) (hV : Vars a0 a1 w) (hs : SchAt p w vs s) (hf : FilAt p n w v f) (hn : n ≤ 100) (hK : kindsOk f) :
    Calls Tryd.prog 14 #[vs, v] w fun e w' => e = .returned (.int .i64 (Fil.checkE s f)) ∧ Below w.heap.size w w' := by
  have HR := Lib.hid (fun W (hB : Below w.heap.size w W) => schRight_any vs s p W (hs.ag (Ag.new p hB)))
  have HC := Lib.hid (fun W (hB : Below w.heap.size w W) => checked_any a0 a1 p n vs v s f W (hV.below hB) (hs.ag (Ag.new p hB)) (hf.ag (Ag.new p hB)) hn hK)
  have HT := Lib.hid (fun W (hB : Below w.heap.size w W) => told_any a0 a1 (Fil.chk s 0 false (Fil.pre 1 f)) W (hV.below hB) (chk_code s _ _ _))
  have HE : RowKit.Hid (Fil.checkE s f = if Tess.schOk s then Fil.chk s 0 false (Fil.pre 1 f) else 100) := Lib.hid rfl
  obtain ⟨vd, vm, rfl, hd, hm, _, _⟩ := hs
  obtain ⟨ad, capd, rfl, _⟩ := slp_len hd
  obtain ⟨am, capm, rfl, _⟩ := slp_len hm
  obtain ⟨wa, wn, wc, za, zc, rfl⟩ := hf.shape6
  clear hd hm hV hf
  obtain ⟨h1, h2, hS0, hB0⟩ := laid2 w (.cells #[.slice ad s.dims.length capd, .slice am s.mets.length capm, .int .i64 s.grain] 24) (.cells #[.int .i64 f.kind, .string f.name, .slice wa wn wc, .int .i64 f.frm, .int .i64 f.to, .slice za f.l.length zc] 29)
  have HB0 := Lib.hid hB0
  have H1 := Lib.hid h1
  have H2 := Lib.hid h2
  clear hB0 h1 h2 hS0
  cases hok : Tess.schOk s
  · rw [hok] at HR HE
    go_enter Tryd.func14, Tryd.ntmps14
    go_wp2_with (go_at_call 29; refine (HR.out _ HB0.out).mono ?_; rintro e W1 ⟨rfl, hB1⟩; have HB1 := Lib.hid hB1; clear hB1)
    go_ret
    rw [HE.out]
    exact ⟨rfl, Bt HB0.out HB1.out⟩
  · rw [hok] at HR HE
    go_enter Tryd.func14, Tryd.ntmps14
    go_wp2_with (first | (go_at_call 29; refine (HR.out _ HB0.out).mono ?_; rintro e W1 ⟨rfl, hB1⟩; obtain ⟨y0, y1, y2, y3, y4, y5⟩ := right_cells6 hB1 H2.out; obtain ⟨x0, x1, x2⟩ := right_cells3 hB1 H1.out; have HB1 := Lib.hid hB1; clear hB1) | (go_at_call 31; refine (HC.out _ (Bt HB0.out HB1.out)).mono ?_; rintro e W2 ⟨rfl, hB2⟩; have HB2 := Lib.hid (Bt (Bt HB0.out HB1.out) hB2); clear hB2) | (go_at_call 30; refine (HT.out _ HB2.out).mono ?_; rintro e W3 ⟨rfl, rfl⟩))
    go_ret
    rw [HE.out]
    exact ⟨rfl, HB2.out⟩
end Go.Proofs.YtdfnolgcdododaaDoor
