/- The law's filters, cut: plain, and what lies there meanwhile. -/
import Derived.Test.YtdfnolgcdododaaDoorF10
import Derived.Maps.AppendAt
namespace Tess
open Go
namespace Fil
/-- A filter of at most ten filters, words in a list, so many lists in lists. -/
def cut : Nat → Fil → Fil
  | 0, f => mk f.kind (cutN 30 f.name) ((f.words.take 10).map (cutN 110)) f.frm f.to []
  | d + 1, f => mk f.kind (cutN 30 f.name) ((f.words.take 10).map (cutN 110)) f.frm f.to ((f.l.take 10).map (cut d))
def tops : Nat → Nat
  | 0 => 1
  | d + 1 => 1 + 10 * tops d
theorem cut_count (d : Nat) : ∀ f : Fil, (cut d f).count ≤ tops d := by
  induction d with
  | zero => intro f; rw [count_eq]; simp [cut, l, countL, tops]
  | succ d ih =>
    intro f
    rw [count_eq]
    have h : ∀ q : List Fil, countL (q.map (cut d)) ≤ q.length * tops d := fun q => by
      induction q with
      | nil => simp [countL]
      | cons a r ihr =>
        have := ih a
        rw [List.map_cons, List.length_cons, Nat.add_mul]
        unfold countL
        omega
    have h1 := h (f.l.take 10)
    have h2 : (f.l.take 10).length ≤ 10 := by rw [List.length_take]; omega
    have h3 : (f.l.take 10).length * tops d ≤ 10 * tops d := Nat.mul_le_mul_right _ h2
    show 1 + countL ((f.l.take 10).map (cut d)) ≤ 1 + 10 * tops d
    omega
end Fil
end Tess
namespace Go.Proofs.YtdfnolgcdododaaDoor
open Go.RowKit Go.Sort
open Tess (Fil)

theorem FilAt.lt {p : Nat → Prop} : ∀ {n : Nat} {w : World} {v : Value} {f : Fil}, FilAt p n w v f → FilAt (fun b => p b ∧ b < w.heap.size) n w v f
  | 0, _, _, _, h => h.elim
  | n + 1, w, v, f, h => by
    obtain ⟨vw, a, cap, hv, h1, h2, h3, h4, h5, h6⟩ := h
    refine ⟨vw, a, cap, hv, h1, h2.lt, h3, h4, h5, fun hl => ?_⟩
    obtain ⟨b, off, ha, hb, hp, hc⟩ := h6 hl
    refine ⟨b, off, ha, hb, ⟨hp, hb⟩, fun j hj => ?_⟩
    obtain ⟨c0, c1, c2, c3, c4, c5, hf, e⟩ := hc j hj
    exact ⟨c0, c1, c2, c3, c4, c5, hf.lt, e⟩
theorem FilAt.mono {p : Nat → Prop} : ∀ {n m : Nat} {w : World} {v : Value} {f : Fil}, n ≤ m → FilAt p n w v f → FilAt p m w v f
  | 0, _, _, _, _, _, h => h.elim
  | n + 1, 0, _, _, _, hnm, _ => by omega
  | n + 1, m + 1, w, v, f, hnm, h => by
    obtain ⟨vw, a, cap, hv, h1, h2, h3, h4, h5, h6⟩ := h
    refine ⟨vw, a, cap, hv, h1, h2, h3, h4, h5, fun hl => ?_⟩
    obtain ⟨b, off, ha, hb, hp, hc⟩ := h6 hl
    refine ⟨b, off, ha, hb, hp, fun j hj => ?_⟩
    obtain ⟨c0, c1, c2, c3, c4, c5, hf, e⟩ := hc j hj
    exact ⟨c0, c1, c2, c3, c4, c5, hf.mono (by omega), e⟩

/-- A new block of cells, from such a block on. -/
def newAt (B : Nat) (cs : Array Value) (t : TypeId) (v : Value) (w : World) : Prop := ∃ g, v = .pointer (some ⟨g, 0, none⟩) ∧ B ≤ g ∧ w.heap[g]? = some (.cells cs t (0, 0))
theorem newAt_mono (B : Nat) (cs : Array Value) (t : TypeId) : Flow.Spec.mono (.inr (newAt B cs t)) := fun _ _ _ ⟨g, h1, h2, h3⟩ hb => ⟨g, h1, h2, (hb.block g (Array.getElem?_eq_some_iff.1 h3).1).trans h3⟩

/-- The cells of filters, one behind the other. -/
def cells6 : Value → List Value
  | .agg cs => cs.toList
  | _ => []
/-- Filters in a row of the call's own, cell by cell. -/
structure Fils (N : Nat) (p : Nat → Prop) (n : Nat) (W : World) (lv : Value) (us : List Value) (fs : List Fil) : Prop where
  own : W.ownsRow N 29 6 lv us.length (us.flatMap cells6)
  len : us.length = fs.length
  at_ : ∀ j (h : j < fs.length) (h' : j < us.length), FilAt p n W us[j] fs[j]
theorem cells6_len {p : Nat → Prop} {n : Nat} {w : World} {v : Value} {f : Fil} (h : FilAt p n w v f) : (cells6 v).length = 6 := by
  obtain ⟨x, a, cap, rfl⟩ := h.shape; rfl
theorem flat6 (us : List Value) (h : ∀ u ∈ us, (cells6 u).length = 6) : ∀ (j i : Nat) (hj : j < us.length), i < 6 → (us.flatMap cells6)[j * 6 + i]? = (cells6 us[j])[i]? := by
  induction us with
  | nil => intro j i hj; simp at hj
  | cons u r ih =>
    intro j i hj hi
    rw [List.flatMap_cons]
    cases j with
    | zero =>
      rw [List.getElem?_append_left (by rw [h u (List.mem_cons_self)]; omega)]
      simp
    | succ j =>
      rw [List.getElem?_append_right (by rw [h u (List.mem_cons_self)]; omega), h u (List.mem_cons_self), show (j + 1) * 6 + i - 6 = j * 6 + i by omega]
      exact ih (fun x hx => h x (List.mem_cons_of_mem _ hx)) j i (by simpa using hj) hi
/-- A cell of such a row. -/
theorem owns_cell_any {w : World} {base : Nat} {e : TypeId} {size : Nat} {v : Value} {n : Nat} {xs : List Value} (h : w.ownsRow base e size v n xs) (hn : 0 < n) :
    ∃ g cap, v = .slice (some ⟨g, 0, none⟩) n cap ∧ base ≤ g ∧ g < w.heap.size ∧ n ≤ cap ∧ cap ≤ maxLen ∧ ∀ j, j < n * size → w.cell? ⟨g, j, none⟩ = xs[j]? := by
  obtain ⟨hl, h⟩ := h
  rcases h with ⟨_, h0⟩ | ⟨g, cap, cur, hv, hb, hg, hcap, hm, hs, ht⟩
  · omega
  · refine ⟨g, cap, hv, hb, (Array.getElem?_eq_some_iff.1 hg).1, hcap, hm, fun j hj => ?_⟩
    rw [cell_of_row _ _ _ _ _ _ hg, ← ht, List.getElem?_take, if_pos hj, Array.getElem?_toList]
/-- A list of filters in a row, as a filter's list. -/
theorem Fils.listed {N : Nat} {p q : Nat → Prop} {n : Nat} {W : World} {lv : Value} {us : List Value} {fs : List Fil} (h : Fils N p n W lv us fs) (hpq : ∀ b, p b → q b) (hN : ∀ b, N ≤ b → q b) :
    ∃ a cap, lv = .slice a fs.length cap ∧ fs.length ≤ maxLen ∧ (a = none → cap = 0) ∧
      (0 < fs.length → ∃ b off, a = some ⟨b, off, none⟩ ∧ b < W.heap.size ∧ q b ∧ ∀ j (h : j < fs.length), ∃ c0 c1 c2 c3 c4 c5, FilAt q n W (.agg #[c0, c1, c2, c3, c4, c5]) fs[j] ∧
        W.cell? ⟨b, off + j * 6, none⟩ = some c0 ∧ W.cell? ⟨b, off + j * 6 + 1, none⟩ = some c1 ∧ W.cell? ⟨b, off + j * 6 + 2, none⟩ = some c2 ∧ W.cell? ⟨b, off + j * 6 + 3, none⟩ = some c3 ∧ W.cell? ⟨b, off + j * 6 + 4, none⟩ = some c4 ∧ W.cell? ⟨b, off + j * 6 + 5, none⟩ = some c5) := by
  have hlen := h.len
  rcases Nat.eq_zero_or_pos us.length with h0 | h0
  · have hf0 : fs = [] := List.eq_nil_of_length_eq_zero (by omega)
    subst hf0
    obtain ⟨_, ⟨hv, _⟩ | ⟨g, cap, cur, hv, hb, hg, _⟩⟩ := h.own
    · exact ⟨none, 0, hv, Nat.zero_le _, fun _ => rfl, fun h => absurd h (by simp)⟩
    · rw [h0] at hv
      exact ⟨_, cap, hv, Nat.zero_le _, (fun e => by cases e), fun h => absurd h (by simp)⟩
  · obtain ⟨g, cap, hv, hb, hlt, hcap, hm, hc⟩ := owns_cell_any h.own h0
    refine ⟨_, cap, by rw [hv, hlen], by omega, (fun e => by cases e), fun _ => ⟨g, 0, rfl, hlt, hN g hb, fun j hj => ?_⟩⟩
    have hj' : j < us.length := by omega
    have hat := h.at_ j hj hj'
    obtain ⟨x, a, c, hs⟩ := hat.shape
    have h6 : ∀ u ∈ us, (cells6 u).length = 6 := fun u hu => by
      obtain ⟨i, hi, rfl⟩ := List.getElem_of_mem hu
      exact cells6_len (h.at_ i (by omega) hi)
    have hcell : ∀ i, i < 6 → W.cell? ⟨g, 0 + j * 6 + i, none⟩ = (cells6 us[j])[i]? := fun i hi => by
      rw [show 0 + j * 6 + i = j * 6 + i by omega, hc _ (by omega), flat6 us h6 j i hj' hi]
    rw [hs] at hat hcell
    exact ⟨_, _, _, _, _, _, hat.weak hpq, hcell 0 (by omega), hcell 1 (by omega), hcell 2 (by omega), hcell 3 (by omega), hcell 4 (by omega), hcell 5 (by omega)⟩
theorem infoFil : (Tryd.prog.info? 29).map (fun i => (i.zero, i.size, i.bytes)) = some (some (.agg #[.int .i64 0, .string ⟨#[]⟩, .slice none 0 0, .int .i64 0, .int .i64 0, .slice none 0 0]), 6, 88) := by kernel_rfl

/-- Six stores into one block. -/
theorem set6 {W : World} {g : Nat} {x0 x1 x2 x3 x4 x5 : Value} {t : TypeId} (y0 y1 y2 y3 y4 y5 : Value) (h : W.heap[g]? = some (.cells #[x0, x1, x2, x3, x4, x5] t (0, 0))) :
    ((((((W.setCell ⟨g, 0, none⟩ y0).setCell ⟨g, 1, none⟩ y1).setCell ⟨g, 2, none⟩ y2).setCell ⟨g, 3, none⟩ y3).setCell ⟨g, 4, none⟩ y4).setCell ⟨g, 5, none⟩ y5).heap[g]? = some (.cells #[y0, y1, y2, y3, y4, y5] t (0, 0)) :=
  heap_setCell_same _ _ _ _ _ _ (heap_setCell_same _ _ _ _ _ _ (heap_setCell_same _ _ _ _ _ _ (heap_setCell_same _ _ _ _ _ _ (heap_setCell_same _ _ _ _ _ _ (heap_setCell_same _ _ _ _ _ _ h)))))
theorem set6_other {W : World} {g k : Nat} (y0 y1 y2 y3 y4 y5 : Value) (h : k ≠ g) :
    ((((((W.setCell ⟨g, 0, none⟩ y0).setCell ⟨g, 1, none⟩ y1).setCell ⟨g, 2, none⟩ y2).setCell ⟨g, 3, none⟩ y3).setCell ⟨g, 4, none⟩ y4).setCell ⟨g, 5, none⟩ y5).heap[k]? = W.heap[k]? := by
  rw [heap_setCell_other _ _ _ _ h, heap_setCell_other _ _ _ _ h, heap_setCell_other _ _ _ _ h, heap_setCell_other _ _ _ _ h, heap_setCell_other _ _ _ _ h, heap_setCell_other _ _ _ _ h]
theorem set6_below {B : Nat} {a W : World} {g : Nat} (y0 y1 y2 y3 y4 y5 : Value) (h : Below B a W) (hg : B ≤ g) :
    Below B a ((((((W.setCell ⟨g, 0, none⟩ y0).setCell ⟨g, 1, none⟩ y1).setCell ⟨g, 2, none⟩ y2).setCell ⟨g, 3, none⟩ y3).setCell ⟨g, 4, none⟩ y4).setCell ⟨g, 5, none⟩ y5) :=
  (((((h.setCell hg _).setCell hg _).setCell hg _).setCell hg _).setCell hg _).setCell hg _
theorem set6_size {W : World} {g : Nat} (y0 y1 y2 y3 y4 y5 : Value) : ((((((W.setCell ⟨g, 0, none⟩ y0).setCell ⟨g, 1, none⟩ y1).setCell ⟨g, 2, none⟩ y2).setCell ⟨g, 3, none⟩ y3).setCell ⟨g, 4, none⟩ y4).setCell ⟨g, 5, none⟩ y5).heap.size = W.heap.size := by simp [World.setCell]
theorem set6_ag (q : Nat → Prop) {W : World} {g : Nat} (y0 y1 y2 y3 y4 y5 : Value) (h : ¬ q g) :
    Ag q W ((((((W.setCell ⟨g, 0, none⟩ y0).setCell ⟨g, 1, none⟩ y1).setCell ⟨g, 2, none⟩ y2).setCell ⟨g, 3, none⟩ y3).setCell ⟨g, 4, none⟩ y4).setCell ⟨g, 5, none⟩ y5) :=
  (((((Ag.set q _ _ h).trans (Ag.set q _ _ h)).trans (Ag.set q _ _ h)).trans (Ag.set q _ _ h)).trans (Ag.set q _ _ h)).trans (Ag.set q _ _ h)

/-- What the call of cut has made, between its rounds: its own filter's block g, its result's. -/
structure Cf (w : World) (g : Nat) (bx : Array Value) (k : Int) (nm : ByteArray) (wv : Value) (fr to : Int) (lv : Value) (W : World) : Prop where
  k1 : W.heap[w.heap.size]? = some (.cells bx 29 (0, 0))
  k2 : W.heap[w.heap.size + 1]? = some (.cells #[.int .i64 0, .string ⟨#[]⟩, .slice none 0 0, .int .i64 0, .int .i64 0, .slice none 0 0] 29 (0, 0))
  k3 : W.heap[g]? = some (.cells #[.int .i64 k, .string nm, wv, .int .i64 fr, .int .i64 to, lv] 29 (0, 0))
  below : Below w.heap.size w W
  hg : w.heap.size + 2 ≤ g
section
variable {w W W' : World} {g : Nat} {bx : Array Value} {k fr to : Int} {nm : ByteArray} {wv lv : Value}
theorem Cf.lt (h : Cf w g bx k nm wv fr to lv W) : g < W.heap.size := (Array.getElem?_eq_some_iff.1 h.k3).1
theorem Cf.later (h : Cf w g bx k nm wv fr to lv W) (hb : Below W.heap.size W W') : Cf w g bx k nm wv fr to lv W' :=
  have := h.lt; have := h.hg
  ⟨(hb.block _ (by omega)).trans h.k1, (hb.block _ (by omega)).trans h.k2, (hb.block _ (by omega)).trans h.k3, Bt h.below hb, h.hg⟩
theorem Cf.grown (h : Cf w g bx k nm wv fr to lv W) {o : Option Nat} (hg : W.grownBy W' o) (ho : ∀ k, o = some k → g < k) : Cf w g bx k nm wv fr to lv W' :=
  have h1 := h.lt; have h2 := h.hg
  ⟨(hg.block _ (by omega) (fun e => by have := ho _ e.symm; omega)).trans h.k1, (hg.block _ (by omega) (fun e => by have := ho _ e.symm; omega)).trans h.k2, (hg.block _ (by omega) (fun e => by have := ho _ e.symm; omega)).trans h.k3,
    h.below.grown hg h.below.size (fun k e => by have := ho k e; omega), h.hg⟩
theorem Cf.set2 (h : Cf w g bx k nm wv fr to lv W) (wv' : Value) : Cf w g bx k nm wv' fr to lv (W.setCell ⟨g, 2, none⟩ wv') :=
  have h2 := h.hg
  ⟨(heap_setCell_other _ _ _ _ (by show _ ≠ g; omega)).trans h.k1, (heap_setCell_other _ _ _ _ (by show _ ≠ g; omega)).trans h.k2, heap_setCell_same _ _ _ _ _ _ h.k3, h.below.setCell (by show _ ≤ g; omega) _, h.hg⟩
theorem Cf.set5 (h : Cf w g bx k nm wv fr to lv W) (lv' : Value) : Cf w g bx k nm wv fr to lv' (W.setCell ⟨g, 5, none⟩ lv') :=
  have h2 := h.hg
  ⟨(heap_setCell_other _ _ _ _ (by show _ ≠ g; omega)).trans h.k1, (heap_setCell_other _ _ _ _ (by show _ ≠ g; omega)).trans h.k2, heap_setCell_same _ _ _ _ _ _ h.k3, h.below.setCell (by show _ ≤ g; omega) _, h.hg⟩
end
theorem cf_start {w W0 w2 : World} {g : Nat} {bx : Array Value} {k fr to : Int} (nm nm' : ByteArray) (hn : nm = nm') (hB0 : Below w.heap.size w W0) (hS0 : W0.heap.size = w.heap.size + 2) (hw2 : Below W0.heap.size W0 w2)
    (hk1 : W0.heap[w.heap.size]? = some (.cells bx 29 (0, 0)))
    (hk2 : W0.heap[w.heap.size + 1]? = some (.cells #[.int .i64 0, .string ⟨#[]⟩, .slice none 0 0, .int .i64 0, .int .i64 0, .slice none 0 0] 29 (0, 0)))
    (hgb : w.heap.size + 2 ≤ g) (hk3 : w2.heap[g]? = some (.cells #[.int .i64 0, .string ⟨#[]⟩, .slice none 0 0, .int .i64 0, .int .i64 0, .slice none 0 0] 29 (0, 0))) :
    ∃ W1, ((((((w2.setCell ⟨g, 0, none⟩ (.int .i64 k)).setCell ⟨g, 1, none⟩ (.string nm)).setCell ⟨g, 2, none⟩ (.slice none 0 0)).setCell ⟨g, 3, none⟩ (.int .i64 fr)).setCell ⟨g, 4, none⟩ (.int .i64 to)).setCell ⟨g, 5, none⟩ (.slice none 0 0)) = W1 ∧ Cf w g bx k nm' (.slice none 0 0) fr to (.slice none 0 0) W1 := by
  subst hn
  refine ⟨_, rfl, ⟨?_, ?_, set6 _ _ _ _ _ _ hk3, set6_below _ _ _ _ _ _ (hB0.trans (hw2.mono hB0.size)) (by omega), hgb⟩⟩
  · rw [set6_other _ _ _ _ _ _ (by omega)]; exact (hw2.block _ (by omega)).trans hk1
  · rw [set6_other _ _ _ _ _ _ (by omega)]; exact (hw2.block _ (by omega)).trans hk2
theorem cut_fil {q : Nat → Prop} {n : Nat} {W : World} {k fr to : Int} {nm : ByteArray} {ws : List ByteArray} {fs : List Fil} {wv : Value} {la : Option Addr} {len lc : Nat} (hlen : len = fs.length) (h1 : nm.size ≤ maxLen) (h2 : SlP q W wv (ws.map .string)) (h3 : ∀ x ∈ ws, x.size ≤ maxLen) (h4 : fs.length ≤ maxLen) (h5 : la = none → lc = 0)
    (h6 : 0 < fs.length → ∃ b off, la = some ⟨b, off, none⟩ ∧ b < W.heap.size ∧ q b ∧ ∀ j (h : j < fs.length), ∃ c0 c1 c2 c3 c4 c5, FilAt q n W (.agg #[c0, c1, c2, c3, c4, c5]) fs[j] ∧
        W.cell? ⟨b, off + j * 6, none⟩ = some c0 ∧ W.cell? ⟨b, off + j * 6 + 1, none⟩ = some c1 ∧ W.cell? ⟨b, off + j * 6 + 2, none⟩ = some c2 ∧ W.cell? ⟨b, off + j * 6 + 3, none⟩ = some c3 ∧ W.cell? ⟨b, off + j * 6 + 4, none⟩ = some c4 ∧ W.cell? ⟨b, off + j * 6 + 5, none⟩ = some c5) :
    FilAt q (n + 1) W (.agg #[.int .i64 k, .string nm, wv, .int .i64 fr, .int .i64 to, .slice la len lc]) (Fil.mk k nm ws fr to fs) := by
  subst hlen
  exact ⟨wv, la, lc, rfl, h1, h2, h3, h4, h5, h6⟩
/-- A new row of one filter. -/
def newFil (N n : Nat) (f : Fil) (v : Value) (W : World) : Prop := ∃ gn x, v = .slice (some ⟨gn, 0, none⟩) 1 1 ∧ gn < W.heap.size ∧ FilAt (fun b => N ≤ b) n W x f ∧ ∀ j u, (cells6 x)[j]? = some u → W.cell? ⟨gn, j, none⟩ = some u
theorem newFil_mono (N n : Nat) (f : Fil) : Flow.Spec.mono (.inr (newFil N n f)) := fun _ _ _ ⟨gn, x, h1, h2, h3, h4⟩ hb => ⟨gn, x, h1, Nat.lt_of_lt_of_le h2 hb.size, h3.ag (Ag.new _ hb), fun j u hj => (hb.cell (p := ⟨gn, j, none⟩) h2).trans (h4 j u hj)⟩
def isFil (N n : Nat) (f : Fil) (v : Value) (W : World) : Prop := FilAt (fun b => N ≤ b) n W v f
theorem isFil_mono (N n : Nat) (f : Fil) : Flow.Spec.mono (.inr (isFil N n f)) := fun _ _ _ h hb => FilAt.ag h (Ag.new _ hb)
theorem cells6_one {p : Nat → Prop} {n : Nat} {w : World} {v : Value} {f : Fil} (h : FilAt p n w v f) : ∀ u ∈ cells6 v, u.oneCell' = true := by
  cases n with
  | zero => exact h.elim
  | succ n =>
    obtain ⟨vw, a, cap, rfl, _, hs, _⟩ := h
    obtain ⟨x, y, z, rfl⟩ := hs.shape
    intro u hu
    simp only [cells6, List.mem_cons, List.not_mem_nil, or_false] at hu
    rcases hu with rfl | rfl | rfl | rfl | rfl | rfl <;> rfl
theorem Fils.below {N : Nat} {q : Nat → Prop} {n : Nat} {W W' : World} {lv : Value} {us : List Value} {fs : List Fil} (h : Fils N q n W lv us fs) (hb : Below W.heap.size W W') : Fils N q n W' lv us fs :=
  ⟨owns_below h.own hb, h.len, fun j hj hj' => (h.at_ j hj hj').ag (Ag.new _ hb)⟩
theorem Fils.set {N : Nat} {q : Nat → Prop} {n : Nat} {W : World} {lv : Value} {us : List Value} {fs : List Fil} (h : Fils N q n W lv us fs) {g i : Nat} (hg : g < N) (hq : ∀ b, q b → N ≤ b) (u : Value) : Fils N q n (W.setCell ⟨g, i, none⟩ u) lv us fs :=
  ⟨ownsRow_setCell_below h.own (by show g < N; exact hg) _, h.len, fun j hj hj' => (h.at_ j hj hj').ag (Ag.set q W u (fun e => by have := hq _ e; simp only at this; omega))⟩
/-- One filter more in the row. -/
theorem Fils.more {N : Nat} {n : Nat} {W W' : World} {lv lv' : Value} {us : List Value} {fs : List Fil} {x : Value} {f : Fil} {L : Nat}
    (h : Fils N (fun b => N ≤ b ∧ lv.ownBlock ≠ some b) n W lv us fs) (hx : FilAt (fun b => L ≤ b) n W x f) (hL : ∀ g, lv.ownBlock = some g → g < L) (hNL : N ≤ L)
    (hown : W'.ownsRow N 29 6 lv' (us.length + 1) (us.flatMap cells6 ++ cells6 x)) (hg : W.grownBy W' lv.ownBlock) (hloc : lv'.ownBlock = lv.ownBlock ∨ lv'.ownBlock = some W.heap.size) :
    Fils N (fun b => N ≤ b ∧ lv'.ownBlock ≠ some b) n W' lv' (us ++ [x]) (fs ++ [f]) := by
  have hag : Ag (fun b => lv.ownBlock ≠ some b) W W' := Ag.grown hg fun g e => by rw [e]; simp
  have key : ∀ {v f}, FilAt (fun b => N ≤ b ∧ lv.ownBlock ≠ some b) n W v f → FilAt (fun b => N ≤ b ∧ lv'.ownBlock ≠ some b) n W' v f := fun h =>
    (h.lt.ag (hag.weak fun b hb => hb.1.2)).weak fun b hb => ⟨hb.1.1, by
      rcases hloc with e | e
      · rw [e]; exact hb.1.2
      · rw [e]; intro e'; have := hb.2; simp only [Option.some.injEq] at e'; omega⟩
  refine ⟨by simpa using hown, by simp [h.len], fun j hj hj' => ?_⟩
  have hlen := h.len
  by_cases e : j < us.length
  · rw [List.getElem_append_left e, List.getElem_append_left (by omega)]
    exact key (h.at_ j (by omega) e)
  · have ej : j = us.length := by simp at hj'; omega
    subst ej
    rw [List.getElem_append_right (by omega)]
    have : (fs ++ [f])[us.length] = f := by rw [List.getElem_append_right (by omega)]; simp
    rw [this]
    simp only [Nat.sub_self, List.getElem_cons_zero]
    exact key (hx.weak fun b hb => ⟨Nat.le_trans hNL hb, fun e => by have := hL b e; have : L ≤ b := hb; omega⟩)
end Go.Proofs.YtdfnolgcdododaaDoor
