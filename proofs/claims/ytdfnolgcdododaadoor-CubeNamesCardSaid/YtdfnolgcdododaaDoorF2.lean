/- Slices whose blocks are known to lie somewhere; worlds that agree there. -/
import Derived.Test.YtdfnolgcdododaaDoorFl
namespace Go
open Go.RowKit

theorem Flow.bcell {W w1 : World} (hb : Below W.heap.size W w1) : (∀ b o, b < W.heap.size → w1.cell? ⟨b, o, none⟩ = W.cell? ⟨b, o, none⟩) :=
  fun b o h => hb.cell (p := ⟨b, o, none⟩) h
/-- A text's first bytes. -/
def cutN (n : Nat) (s : ByteArray) : ByteArray := s.extract 0 n
theorem cutN_size (n : Nat) (s : ByteArray) : (cutN n s).size ≤ n := by simp [cutN]; omega
theorem cutN_self (n : Nat) (s : ByteArray) (h : s.size ≤ n) : cutN n s = s := by
  apply ByteArray.ext
  have : s.data.size ≤ n := h
  simp [cutN]; omega

/-- The block of a slice. -/
def blk : Value → Option Nat
  | .slice (some a) _ _ => some a.block
  | _ => none
/-- Two worlds are the same at blocks that were there and of which p holds. -/
def Ag (p : Nat → Prop) (w w' : World) : Prop := w.heap.size ≤ w'.heap.size ∧ ∀ b, b < w.heap.size → p b → w'.heap[b]? = w.heap[b]?
/-- A nil slice has no room. -/
def NilOk (v : Value) : Prop := ∀ n c, v = .slice none n c → c = 0
def SlP (p : Nat → Prop) (w : World) (v : Value) (cs : List Value) : Prop := SlOf w v cs ∧ (0 < cs.length → ∀ b, blk v = some b → p b) ∧ NilOk v
section
variable {p q : Nat → Prop} {w w' w'' : World} {v : Value} {cs : List Value}
theorem Ag.refl (p : Nat → Prop) (w : World) : Ag p w w := ⟨Nat.le_refl _, fun _ _ _ => rfl⟩
theorem Ag.trans (h : Ag p w w') (k : Ag p w' w'') : Ag p w w'' := ⟨Nat.le_trans h.1 k.1, fun b hb hp => (k.2 b (Nat.lt_of_lt_of_le hb h.1) hp).trans (h.2 b hb hp)⟩
theorem Ag.below (p : Nat → Prop) {B : Nat} (h : Below B w w') (hB : ∀ b, b < w.heap.size → p b → b < B) : Ag p w w' := ⟨h.size, fun b hb hp => h.block b (hB b hb hp)⟩
theorem Ag.new (p : Nat → Prop) (h : Below w.heap.size w w') : Ag p w w' := Ag.below p h fun _ hb _ => hb
theorem Ag.weak (h : Ag q w w') (hpq : ∀ b, p b → q b) : Ag p w w' := ⟨h.1, fun b hb hp => h.2 b hb (hpq b hp)⟩
theorem Ag.set (p : Nat → Prop) (w : World) {a : Addr} (v : Value) (h : ¬ p a.block) : Ag p w (w.setCell a v) :=
  ⟨by simp [World.setCell], fun b _ hp => heap_setCell_other w a b v (fun e => h (e ▸ hp))⟩
theorem Ag.grown {o : Option Nat} (h : w.grownBy w' o) (hp : ∀ g, o = some g → ¬ p g) : Ag p w w' :=
  ⟨h.size, fun b hb hpb => h.block b hb (fun e => hp b e.symm hpb)⟩
theorem Ag.cell (h : Ag p w w') {b o : Nat} (hb : b < w.heap.size) (hp : p b) : w'.cell? ⟨b, o, none⟩ = w.cell? ⟨b, o, none⟩ := World.cell?_of_block (h.2 b hb hp)
theorem SlP.ag (h : SlP p w v cs) (hg : Ag p w w') : SlP p w' v cs := by
  obtain ⟨⟨h0, a, cap, hv, hc⟩, hp, hn⟩ := h
  refine ⟨⟨h0, a, cap, hv, fun hl => ?_⟩, hp, hn⟩
  obtain ⟨b, off, rfl, hb, hcell⟩ := hc hl
  exact ⟨b, off, rfl, Nat.lt_of_lt_of_le hb hg.1, fun j hj => (hg.cell hb (hp hl b (by rw [hv]; rfl))).trans (hcell j hj)⟩
theorem SlP.weak (h : SlP p w v cs) (hpq : ∀ b, p b → q b) : SlP q w v cs := ⟨h.1, fun hl b hb => hpq b (h.2.1 hl b hb), h.2.2⟩
theorem SlP.lt (h : SlP p w v cs) : SlP (fun b => p b ∧ b < w.heap.size) w v cs := by
  refine ⟨h.1, fun hl b hb => ⟨h.2.1 hl b hb, ?_⟩, h.2.2⟩
  obtain ⟨⟨h0, a, cap, hv, hc⟩, hp⟩ := h
  obtain ⟨b', off, rfl, hb', hcell⟩ := hc hl
  rw [hv] at hb; cases hb; exact hb'
theorem SlP.of (h : SlOf w v cs) (hn : NilOk v) : SlP (fun _ => True) w v cs := ⟨h, fun _ _ _ => trivial, hn⟩
theorem SlP.nil (p : Nat → Prop) (w : World) : SlP p w (.slice none 0 0) [] := ⟨SlOf.nil w, fun h => absurd h (by simp), fun n c e => by cases e; rfl⟩
theorem SlP.shape (h : SlP p w v cs) : ∃ a n c, v = .slice a n c := let ⟨⟨_, a, c, hv, _⟩, _⟩ := h; ⟨a, _, c, hv⟩
theorem SlP.owned {base : Nat} {e : TypeId} {n : Nat} (h : w.ownsRow base e 1 v n cs) : SlP (fun b => base ≤ b) w v cs := by
  refine ⟨SlOf.owned h, fun _ b hb => ?_, fun n c e => ?_⟩
  · obtain ⟨_, ⟨rfl, _⟩ | ⟨g, cap, cur, rfl, hg, _⟩⟩ := h
    · cases hb
    · cases hb; exact hg
  · obtain ⟨_, ⟨rfl, _⟩ | ⟨g, cap, cur, rfl, hg, _⟩⟩ := h
    · cases e; rfl
    · cases e
end

section
variable (w : World) (A B C D E : Obj)
theorem laid1 : (w.alloc A).heap[w.heap.size]? = some A ∧ (w.alloc A).heap.size = w.heap.size + 1 ∧ Below w.heap.size w (w.alloc A) := ⟨heap_alloc_new w A, by simp, (Below.refl _ _).alloc (Nat.le_refl _) _⟩
theorem laid2 : ((w.alloc A).alloc B).heap[w.heap.size]? = some A ∧ ((w.alloc A).alloc B).heap[w.heap.size + 1]? = some B ∧ ((w.alloc A).alloc B).heap.size = w.heap.size + 2 ∧ Below w.heap.size w ((w.alloc A).alloc B) := by
  obtain ⟨h1, h2, h3⟩ := laid1 w A
  obtain ⟨k1, k2, k3⟩ := laid1 (w.alloc A) B
  rw [h2] at k1
  exact ⟨(k3.block _ (by omega)).trans h1, k1, by rw [k2, h2], h3.trans (k3.mono (by omega))⟩
theorem laid3 : (((w.alloc A).alloc B).alloc C).heap[w.heap.size]? = some A ∧ (((w.alloc A).alloc B).alloc C).heap[w.heap.size + 1]? = some B ∧ (((w.alloc A).alloc B).alloc C).heap[w.heap.size + 2]? = some C ∧ (((w.alloc A).alloc B).alloc C).heap.size = w.heap.size + 3 ∧ Below w.heap.size w (((w.alloc A).alloc B).alloc C) := by
  obtain ⟨h1, h2, h3, h4⟩ := laid2 w A B
  obtain ⟨k1, k2, k3⟩ := laid1 ((w.alloc A).alloc B) C
  rw [h3] at k1
  exact ⟨(k3.block _ (by omega)).trans h1, (k3.block _ (by omega)).trans h2, k1, by rw [k2, h3], h4.trans (k3.mono (by omega))⟩
theorem laid4 : ((((w.alloc A).alloc B).alloc C).alloc D).heap[w.heap.size]? = some A ∧ ((((w.alloc A).alloc B).alloc C).alloc D).heap[w.heap.size + 1]? = some B ∧ ((((w.alloc A).alloc B).alloc C).alloc D).heap[w.heap.size + 2]? = some C ∧ ((((w.alloc A).alloc B).alloc C).alloc D).heap[w.heap.size + 3]? = some D ∧ ((((w.alloc A).alloc B).alloc C).alloc D).heap.size = w.heap.size + 4 ∧ Below w.heap.size w ((((w.alloc A).alloc B).alloc C).alloc D) := by
  obtain ⟨h1, h2, h3, h4, h5⟩ := laid3 w A B C
  obtain ⟨k1, k2, k3⟩ := laid1 (((w.alloc A).alloc B).alloc C) D
  rw [h4] at k1
  exact ⟨(k3.block _ (by omega)).trans h1, (k3.block _ (by omega)).trans h2, (k3.block _ (by omega)).trans h3, k1, by rw [k2, h4], h5.trans (k3.mono (by omega))⟩
end
end Go
