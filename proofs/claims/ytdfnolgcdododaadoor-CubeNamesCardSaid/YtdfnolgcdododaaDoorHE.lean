/- Merged by merge.py: H18, H19, H21: the document's functions, walked. -/
import Derived.Test.YtdfnolgcdododaaDoorHA
import Derived.Test.YtdfnolgcdododaaDoorF34
import Derived.Test.YtdfnolgcdododaaDoorHC
import Derived.Test.YtdfnolgcdododaaDoorHB
namespace Go.Proofs.YtdfnolgcdododaaDoor
open Go.RowKit Go.ChangeShapes Go.WideShapes Go.Deep Go.Joins
open Tess (Fil Que)
instance : Inhabited Tess.Agg := ⟨⟨0, ByteArray.empty⟩⟩
instance : Inhabited Tess.Cond := ⟨⟨0, 0, 0⟩⟩
instance : Inhabited Tess.Key := ⟨⟨false, 0, false⟩⟩
section
variable {w : World} {H : Type} {enc : TypeId × Value → H} {held : Bool}
/-- A query in memory, of whatever is in it. -/
def QueOk (w : World) (v : Value) (q : Que) : Prop := (∃ n va vb vS f0 f1 f2 f3 f4 f5 vh vo, QueAt (fun _ => True) n w v q va vb vS f0 f1 f2 f3 f4 f5 vh vo) ∧ kindsOk q.fil
theorem rows_of_trod {α : Type} [Inhabited α] (k : Nat) (hk0 : 0 < k) (f : α → List Value) (Q : α → Prop) (hfl : ∀ z, (f z).length = k) {t e : TypeId} (ht : Tryd.prog.underlying t = some (.slice e)) (hc : Tryd.prog.cellsOf e = k)
    (hd : ∀ n cs y, cs.length = k → DataW.trod enc Tryd.prog w 0 (fun _ => true) held n e cs = some y → ∃ z, cs = f z ∧ Q z) {fuel : Nat} {v : Value} {x : DataW H × List MemPlace} (h : DataW.trod enc Tryd.prog w 0 (fun _ => true) held fuel t [v] = some x) :
    ∃ zs : List α, RowsAt k f (fun _ => True) w v zs ∧ ∀ z ∈ zs, Q z := by
  rcases open_slice ht h with ⟨hcs, _⟩ | ⟨a, len, cap, m, n, D, Pl, hcs, _, hl, hm, hmm, _, hx⟩
  · obtain rfl : v = .slice none 0 0 := by simpa using hcs
    exact ⟨[], RowsAt.nil _ _ _ _, fun z hz => by cases hz⟩
  · obtain rfl : v = .slice (some a) len cap := by simpa using hcs
    simp only [if_true] at hmm
    subst hmm
    obtain ⟨Z, hZ⟩ := choose_lt (α := α) (n := len) (p := fun i z => w.cells? 0 (a.add (i * k)) k = some (f z) ∧ Q z) (fun i hi => by
      obtain ⟨cs', e1, e2⟩ := hx i (by omega)
      rw [hc] at e1
      obtain ⟨z, hz, hq⟩ := hd n cs' _ (World.cells?_some e1).2.1 e2
      exact ⟨z, by rw [e1, hz], hq⟩)
    refine ⟨(List.range len).map Z, ⟨some a, m, by simp, by simp; omega, by simpa using hl, (fun e => by cases e), fun hp => ?_⟩, fun z hz => ?_⟩
    · replace hp : 0 < len := by simpa using hp
      obtain ⟨_, _, z2⟩ := World.cells?_some (hZ 0 hp).1
      have z3 := z2 0 hk0
      rw [List.getElem?_eq_getElem (by rw [hfl]; exact hk0), Deep.add_add] at z3
      obtain ⟨b, off, rfl, hb, hadd⟩ := addr_plain (by simpa using z3)
      refine ⟨b, off, rfl, hb, trivial, fun j hj i hi => ?_⟩
      replace hj : j < len := by simpa using hj
      obtain ⟨_, _, e5⟩ := World.cells?_some (hZ j hj).1
      have := e5 i hi
      rw [Deep.add_add, hadd] at this
      rw [Nat.add_assoc]
      simpa using this
    · obtain ⟨i, hi, rfl⟩ := List.mem_map.1 hz
      exact (hZ i (List.mem_range.1 hi)).2
theorem sets_of_trod {fuel : Nat} {v : Value} {x : DataW H × List MemPlace} (h : DataW.trod enc Tryd.prog w 0 (fun _ => true) held fuel 59 [v] = some x) : ∃ l, SetsAt (fun _ => True) w v l := by
  rcases open_slice1 Tryd.underlying59 (by kernel_rfl) h with ⟨hcs, _⟩ | ⟨a, len, cap, m, n, V, D, Pl, hcs, _, hl, hm, hmm, _, hx⟩
  · obtain rfl : v = .slice none 0 0 := by simpa using hcs
    exact ⟨[], SetsAt.nil _ _⟩
  · obtain rfl : v = .slice (some a) len cap := by simpa using hcs
    simp only [if_true] at hmm
    subst hmm
    obtain ⟨Z, hZ⟩ := choose_lt (α := List ByteArray) (n := len) (p := fun i z => SlP (fun _ => True) w (V i) (z.map .string) ∧ ∀ x ∈ z, x.size ≤ maxLen) (fun i hi => by
      obtain ⟨z, h1, h2, _⟩ := strs_of_trod (hx i (Nat.lt_of_lt_of_le hi hl)).2
      exact ⟨z, h1, h2⟩)
    refine ⟨(List.range len).map Z, some a, m, by simp, by simp; omega, by simpa using hl, (fun e => by cases e), fun hp => ?_⟩
    replace hp : 0 < len := by simpa using hp
    obtain ⟨b, off, rfl, hb, hadd⟩ := addr_plain (hx 0 (by omega)).1
    refine ⟨b, off, rfl, hb, trivial, fun j hj => ?_⟩
    replace hj : j < len := by simpa using hj
    refine ⟨V j, by rw [← hadd j, (hx j (by omega)).1], ?_, ?_⟩
    · simpa using (hZ j hj).1
    · simpa using (hZ j hj).2
set_option maxRecDepth 100000 in
theorem aggs_of_trod {fuel : Nat} {v : Value} {x : DataW H × List MemPlace} (h : DataW.trod enc Tryd.prog w 0 (fun _ => true) held fuel 58 [v] = some x) : ∃ l, RowsAt 2 aggF (fun _ => True) w v l ∧ ∀ z ∈ l, z.met.size ≤ maxLen :=
  rows_of_trod 2 (by omega) aggF (fun z => z.met.size ≤ maxLen) (fun _ => rfl) Tryd.underlying58 (by kernel_rfl) (fun n cs y hl hy => by
    have k0 : Tryd.prog.cellsOf 3 = 1 := by kernel_rfl
    have k1 : Tryd.prog.cellsOf 9 = 1 := by kernel_rfl
    obtain ⟨y0, y1, n', _, hcl, t0, t1⟩ := trod_struct2 Tryd.underlying93 hy
    match cs, hl with
    | [c0, c1], _ =>
      obtain ⟨k, rfl⟩ : ∃ k, c0 = .int .i64 k := by
        obtain ⟨k, hk, _⟩ := DataW.trod_int Tryd.underlying3 (by simpa [k0] using t0)
        exact ⟨k, by simpa using hk⟩
      obtain ⟨s, hs, _, hz⟩ := DataW.trod_string Tryd.underlying9 (by simpa [k0, k1] using t1)
      obtain rfl : c1 = .string s := by simpa using hs
      exact ⟨⟨k, s⟩, rfl, hz⟩) h
set_option maxRecDepth 100000 in
theorem conds_of_trod {fuel : Nat} {v : Value} {x : DataW H × List MemPlace} (h : DataW.trod enc Tryd.prog w 0 (fun _ => true) held fuel 60 [v] = some x) : ∃ l, RowsAt 3 condF (fun _ => True) w v l := by
  obtain ⟨l, hl, _⟩ := rows_of_trod 3 (by omega) condF (fun _ => True) (fun _ => rfl) Tryd.underlying60 (by kernel_rfl) (fun n cs y hl hy => by
    have k0 : Tryd.prog.cellsOf 3 = 1 := by kernel_rfl
    have k1 : Tryd.prog.cellsOf 2 = 1 := by kernel_rfl
    obtain ⟨xs, n', rfl, _, _, hlen, hf⟩ := DataW.trod_struct Tryd.underlying154 hy
    match cs, hl, xs, (show xs.length = 3 from hlen) with
    | [c0, c1, c2], _, [y0, y1, y2], _ =>
      obtain ⟨a, ha, _⟩ := DataW.trod_int Tryd.underlying3 (by simpa [k0] using hf 0 _ rfl)
      obtain ⟨b, hb, _⟩ := DataW.trod_int Tryd.underlying3 (by simpa [k0] using hf 1 _ rfl)
      obtain ⟨c, hc, _⟩ := DataW.trod_int Tryd.underlying2 (by simpa [k0, k1] using hf 2 _ rfl)
      obtain rfl : c0 = .int .i64 a := by simpa using ha
      obtain rfl : c1 = .int .i64 b := by simpa using hb
      obtain rfl : c2 = .int .i64 c := by simpa using hc
      exact ⟨⟨a, b, c⟩, rfl, trivial⟩) h
  exact ⟨l, hl⟩
set_option maxRecDepth 100000 in
theorem keys_of_trod {fuel : Nat} {v : Value} {x : DataW H × List MemPlace} (h : DataW.trod enc Tryd.prog w 0 (fun _ => true) held fuel 61 [v] = some x) : ∃ l, RowsAt 3 keyF (fun _ => True) w v l := by
  obtain ⟨l, hl, _⟩ := rows_of_trod 3 (by omega) keyF (fun _ => True) (fun _ => rfl) Tryd.underlying61 (by kernel_rfl) (fun n cs y hl hy => by
    have k0 : Tryd.prog.cellsOf 4 = 1 := by kernel_rfl
    have k1 : Tryd.prog.cellsOf 3 = 1 := by kernel_rfl
    obtain ⟨xs, n', rfl, _, _, hlen, hf⟩ := DataW.trod_struct Tryd.underlying158 hy
    match cs, hl, xs, (show xs.length = 3 from hlen) with
    | [c0, c1, c2], _, [y0, y1, y2], _ =>
      obtain ⟨a, ha, _⟩ := DataW.trod_bool Tryd.underlying4 (by simpa [k0] using hf 0 _ rfl)
      obtain ⟨b, hb, _⟩ := DataW.trod_int Tryd.underlying3 (by simpa [k0, k1] using hf 1 _ rfl)
      obtain ⟨c, hc, _⟩ := DataW.trod_bool Tryd.underlying4 (by simpa [k0, k1] using hf 2 _ rfl)
      obtain rfl : c0 = .bool a := by simpa using ha
      obtain rfl : c1 = .int .i64 b := by simpa using hb
      obtain rfl : c2 = .bool c := by simpa using hc
      exact ⟨⟨a, b, c⟩, rfl, trivial⟩) h
  exact ⟨l, hl⟩
set_option maxRecDepth 100000 in
theorem que_of_trod {fuel : Nat} {cs : List Value} {x : DataW H × List MemPlace} (hcl : cs.length = 14) (h : DataW.trod enc Tryd.prog w 0 (fun _ => true) held fuel 63 cs = some x) : ∃ q, QueOk w (.agg cs.toArray) q := by
  have kI : Tryd.prog.cellsOf 3 = 1 := by kernel_rfl
  have kJ : Tryd.prog.cellsOf 2 = 1 := by kernel_rfl
  have kA : Tryd.prog.cellsOf 58 = 1 := by kernel_rfl
  have kW : Tryd.prog.cellsOf 22 = 1 := by kernel_rfl
  have kS : Tryd.prog.cellsOf 59 = 1 := by kernel_rfl
  have kF : Tryd.prog.cellsOf 29 = 6 := by kernel_rfl
  have kC : Tryd.prog.cellsOf 60 = 1 := by kernel_rfl
  have kK : Tryd.prog.cellsOf 61 = 1 := by kernel_rfl
  obtain ⟨xs, n, rfl, _, _, hlen, hf⟩ := DataW.trod_struct Tryd.underlying63 h
  match cs, hcl, xs, (show xs.length = 9 from hlen) with
  | [c0, c1, c2, c3, c4, c5, c6, c7, c8, c9, ca, cb, cc, cd], _, [u0, u1, u2, u3, u4, u5, u6, u7, u8], _ =>
    have h0 : DataW.trod enc Tryd.prog w 0 (fun _ => true) held n 58 [c0] = some u0 := by simpa [kA] using hf 0 _ rfl
    have h1 : DataW.trod enc Tryd.prog w 0 (fun _ => true) held n 22 [c1] = some u1 := by simpa [kA, kW] using hf 1 _ rfl
    have h2 : DataW.trod enc Tryd.prog w 0 (fun _ => true) held n 3 [c2] = some u2 := by simpa [kA, kW, kI] using hf 2 _ rfl
    have h3 : DataW.trod enc Tryd.prog w 0 (fun _ => true) held n 59 [c3] = some u3 := by simpa [kA, kW, kI, kS] using hf 3 _ rfl
    have h4 : DataW.trod enc Tryd.prog w 0 (fun _ => true) held n 2 [c4] = some u4 := by simpa [kA, kW, kI, kS, kJ] using hf 4 _ rfl
    have h5 : DataW.trod enc Tryd.prog w 0 (fun _ => true) held n 29 [c5, c6, c7, c8, c9, ca] = some u5 := by simpa [kA, kW, kI, kS, kJ, kF] using hf 5 _ rfl
    have h6 : DataW.trod enc Tryd.prog w 0 (fun _ => true) held n 60 [cb] = some u6 := by simpa [kA, kW, kI, kS, kJ, kF, kC] using hf 6 _ rfl
    have h7 : DataW.trod enc Tryd.prog w 0 (fun _ => true) held n 61 [cc] = some u7 := by simpa [kA, kW, kI, kS, kJ, kF, kC, kK] using hf 7 _ rfl
    have h8 : DataW.trod enc Tryd.prog w 0 (fun _ => true) held n 3 [cd] = some u8 := by simpa [kA, kW, kI, kS, kJ, kF, kC, kK] using hf 8 _ rfl
    obtain ⟨aggs, ra, rm⟩ := aggs_of_trod h0
    obtain ⟨names, rn, rs, _⟩ := strs_of_trod h1
    obtain ⟨mode, hmd, _⟩ := DataW.trod_int Tryd.underlying3 h2
    obtain ⟨sets, rS⟩ := sets_of_trod h3
    obtain ⟨every, hev, _⟩ := DataW.trod_int Tryd.underlying2 h4
    obtain ⟨f, _, hK, hF⟩ := fil_of_trod n _ _ h5
    obtain ⟨conds, rC⟩ := conds_of_trod h6
    obtain ⟨keys, rK⟩ := keys_of_trod h7
    obtain ⟨limit, hlm, _⟩ := DataW.trod_int Tryd.underlying3 h8
    obtain rfl : c2 = .int .i64 mode := by simpa using hmd
    obtain rfl : c4 = .int .i64 every := by simpa using hev
    obtain rfl : cd = .int .i64 limit := by simpa using hlm
    exact ⟨⟨aggs, names, mode, sets, every, f, conds, keys, limit⟩, ⟨n, _, _, _, _, _, _, _, _, _, _, _, rfl, ra, rm, rn, rs, rS, hF, rC, rK⟩, hK⟩
set_option maxRecDepth 100000 in
theorem open_que {r : Reach} {b0 : Nat} {v : Value} {d : DataW H} {ps : List MemPlace} (hval : Value.okWide Tryd.prog w r b0 63 v) (hd : DataW.Trod enc Tryd.prog w 0 (fun _ => true) held 63 v d ps) : ∃ q, QueOk w v q := by
  obtain ⟨cs, rfl, _⟩ := okWide_struct Tryd.underlying63 hval
  obtain ⟨fuel, hf⟩ := hd
  have hC : Tryd.prog.cellsOf 63 = 14 := by kernel_rfl
  obtain ⟨_, _, _, _, hl, _⟩ := DataW.trod_struct Tryd.underlying63 hf
  obtain ⟨q, hq⟩ := que_of_trod (by simpa [hC] using hl) hf
  exact ⟨q, by simpa [Value.cells] using hq⟩
end
end Go.Proofs.YtdfnolgcdododaaDoor
namespace Go.Proofs.YtdfnolgcdododaaDoor
open Go.RowKit Go.Sort
open Tess (Fil Que)

/-- Numbers in memory. -/
theorem nat_open {p : Nat → Prop} {w : World} {v : Value} {l : List Nat} (h : SlP p w v (natV l)) : ∃ a cap, v = .slice a l.length cap ∧ (∀ k (hk : k < l.length), ∃ b off, a = some ⟨b, off, none⟩ ∧ b < w.heap.size ∧ w.cell? ⟨b, off + k, none⟩ = some (.int .i64 ((l[k] : Nat) : Int))) := by
  rw [natV_ints] at h
  obtain ⟨a, cap, rfl, _, hc⟩ := sli_open h
  refine ⟨a, cap, by simp, fun k hk => ?_⟩
  obtain ⟨b, off, h1, h2, h3⟩ := hc k (by simpa using hk)
  exact ⟨b, off, h1, h2, by simpa using h3⟩
theorem SchAt.ltS {p : Nat → Prop} {w : World} {v : Value} {s : Tess.Sch} (h : SchAt p w v s) : SchAt (fun b => p b ∧ b < w.heap.size) w v s := by
  obtain ⟨vd, vm, e1, e2, e3, e4, e5⟩ := h
  exact ⟨vd, vm, e1, e2.lt, e3.lt, e4, e5⟩
section
variable {p : Nat → Prop} {n : Nat} {w : World} {v : Value} {q : Que} {va vb vS f0 f1 f2 f3 f4 f5 vh vo : Value}
theorem QueAt.ltQ (h : QueAt p n w v q va vb vS f0 f1 f2 f3 f4 f5 vh vo) : QueAt (fun b => p b ∧ b < w.heap.size) n w v q va vb vS f0 f1 f2 f3 f4 f5 vh vo :=
  ⟨h.e, h.aggs.lt, h.mets, h.names.lt, h.small, h.sets.lt, h.fil.lt, h.conds.lt, h.keys.lt⟩
theorem QueAt.mod (h : QueAt p n w v q va vb vS f0 f1 f2 f3 f4 f5 vh vo) (mode : Int) {vS' : Value} {sets : List (List ByteArray)} (hS : SetsAt p w vS' sets) :
    QueAt p n w (.agg #[va, vb, .int .i64 mode, vS', .int .i64 q.every, f0, f1, f2, f3, f4, f5, vh, vo, .int .i64 q.limit]) { q with sets := sets, mode := mode } va vb vS' f0 f1 f2 f3 f4 f5 vh vo :=
  ⟨rfl, h.aggs, h.mets, h.names, h.small, hS, h.fil, h.conds, h.keys⟩
end
/-- The law's two boxes. -/
structure Bq (w : World) (sc qc : Array Value) (W : World) : Prop where
  k0 : W.heap[w.heap.size]? = some (.cells sc 24 (0, 0))
  k1 : W.heap[w.heap.size + 1]? = some (.cells qc 63 (0, 0))
  below : Below w.heap.size w W
/-- Not one of the boxes. -/
def Dq (w : World) (b : Nat) : Prop := b ≠ w.heap.size ∧ b ≠ w.heap.size + 1
section
variable {w W W' : World} {sc qc : Array Value}
theorem Bq.lt (h : Bq w sc qc W) : w.heap.size + 1 < W.heap.size := (Array.getElem?_eq_some_iff.1 h.k1).1
theorem Bq.later (h : Bq w sc qc W) (hb : Below W.heap.size W W') : Bq w sc qc W' :=
  have := h.lt
  ⟨(hb.block _ (by omega)).trans h.k0, (hb.block _ (by omega)).trans h.k1, Bt h.below hb⟩
theorem Bq.set1 (h : Bq w sc qc W) (i : Nat) (u : Value) (qc' : Array Value) (e : qc.setIfInBounds i u = qc') : Bq w sc qc' (W.setCell ⟨w.heap.size + 1, i, none⟩ u) ∧ Ag (Dq w) W (W.setCell ⟨w.heap.size + 1, i, none⟩ u) := by
  subst e
  exact ⟨⟨(heap_setCell_other _ _ _ _ (by show _ ≠ w.heap.size + 1; omega)).trans h.k0, heap_setCell_same _ _ _ _ _ _ h.k1, h.below.setCell (by show _ ≤ w.heap.size + 1; omega) _⟩, Ag.set _ _ _ (fun h => h.2 rfl)⟩
theorem Bq.put0 {x0 x1 x2 : Value} (y0 y1 y2 : Value) (h : Bq w #[x0, x1, x2] qc W) : ∃ W3, (((W.setCell ⟨w.heap.size, 0, none⟩ y0).setCell ⟨w.heap.size, 1, none⟩ y1).setCell ⟨w.heap.size, 2, none⟩ y2) = W3 ∧ Bq w #[y0, y1, y2] qc W3 ∧ Ag (Dq w) W W3 := by
  obtain ⟨W3, e, q0, qo, qs, qB⟩ := box3 y0 y1 y2 h.k0 h.below (Nat.le_refl _)
  exact ⟨W3, e, ⟨q0, (qo _ (by omega)).trans h.k1, qB⟩, by rw [qs]; exact Nat.le_refl _, fun b _ hb => qo b hb.1⟩
theorem Bq.put1 {x0 x1 x2 x3 x4 x5 x6 x7 x8 x9 xa xb xc xd : Value} (y0 y1 y2 y3 y4 y5 y6 y7 y8 y9 ya yb yc yd : Value) (h : Bq w sc #[x0, x1, x2, x3, x4, x5, x6, x7, x8, x9, xa, xb, xc, xd] W) :
    ∃ W3, ((((((((((((((W.setCell ⟨w.heap.size + 1, 0, none⟩ y0).setCell ⟨w.heap.size + 1, 1, none⟩ y1).setCell ⟨w.heap.size + 1, 2, none⟩ y2).setCell ⟨w.heap.size + 1, 3, none⟩ y3).setCell ⟨w.heap.size + 1, 4, none⟩ y4).setCell ⟨w.heap.size + 1, 5, none⟩ y5).setCell ⟨w.heap.size + 1, 6, none⟩ y6).setCell ⟨w.heap.size + 1, 7, none⟩ y7).setCell ⟨w.heap.size + 1, 8, none⟩ y8).setCell ⟨w.heap.size + 1, 9, none⟩ y9).setCell ⟨w.heap.size + 1, 10, none⟩ ya).setCell ⟨w.heap.size + 1, 11, none⟩ yb).setCell ⟨w.heap.size + 1, 12, none⟩ yc).setCell ⟨w.heap.size + 1, 13, none⟩ yd) = W3 ∧
      Bq w sc #[y0, y1, y2, y3, y4, y5, y6, y7, y8, y9, ya, yb, yc, yd] W3 ∧ Ag (Dq w) W W3 := by
  obtain ⟨W3, e, q0, qo, qs, qB, qA⟩ := put14 y0 y1 y2 y3 y4 y5 y6 y7 y8 y9 ya yb yc yd h.k1
  exact ⟨W3, e, ⟨(qo _ (by omega)).trans h.k0, q0, qB _ _ h.below (by omega)⟩, qA _ (fun h => h.2 rfl)⟩
end
theorem Dq.of {w W : World} (h : w.heap.size + 2 ≤ W.heap.size) (b : Nat) (hb : W.heap.size ≤ b) : Dq w b := ⟨by omega, by omega⟩
end Go.Proofs.YtdfnolgcdododaaDoor
namespace Go.Proofs.YtdfnolgcdododaaDoor
open Go.RowKit Go.Sort
open Tess (Fil Que)

set_option maxRecDepth 100000 in
set_option maxHeartbeats 8000000 in
theorem CubeNames_any (a0 a1 : Addr) (set : Int) (w : World) (hV : Vars a0 a1 w) {vs vq : Value} {s : Tess.Sch} {q : Que} (hs : SchAt (fun _ => True) w vs s) (hq : QueOk w vq q) (hset : (Lit.int .i64 set).wf = true) :
    Calls Tryd.prog 9 #[vs, vq, .int .i64 set] w fun e w' => e = .returned (.bool true) ∧ Below w.heap.size w w' := by
  obtain ⟨⟨n, va, vb, vS, f0, f1, f2, f3, f4, f5, vh, vo, hq⟩, hK⟩ := hq
  have hs := hs.ltS
  have hq := hq.ltQ
  obtain ⟨vd, vm, rfl, hd, hm, hd1, hm1⟩ := hs
  have HS := Lib.hid (show SchAt (fun b => True ∧ b < w.heap.size) w (.agg #[vd, vm, .int .i64 s.grain]) s from ⟨vd, vm, rfl, hd, hm, hd1, hm1⟩)
  obtain ⟨ad, capd, rfl, _⟩ := slp_len hd
  obtain ⟨am, capm, rfl, _⟩ := slp_len hm
  have hv := hq.e
  subst hv
  obtain ⟨ab, cb, rfl, _, hdum⟩ := sls_open hq.names.1
  obtain ⟨aa, ca, rfl⟩ := hq.aggs.shape
  obtain ⟨aS, cS, rfl⟩ := hq.sets.shape
  obtain ⟨ah, ch, rfl⟩ := hq.conds.shape
  obtain ⟨ao, co, rfl⟩ := hq.keys.shape
  obtain ⟨z0, z1, z2, z3, z4, ez⟩ := FilAt.shape6 hq.fil
  simp only [Value.agg.injEq, Array.mk.injEq, List.cons.injEq, and_true] at ez
  obtain ⟨rfl, rfl, rfl, rfl, rfl, rfl⟩ := ez
  have HQ := Lib.hid hq
  have HV := Lib.hid hV
  clear hd hm hd1 hm1 hdum hq hV
  have hKF : kindsOk (Que.few q).fil := kinds_few _ hK
  obtain ⟨W0, hW0⟩ : ∃ W0, (w.alloc (.cells #[.slice ad s.dims.length capd, .slice am s.mets.length capm, .int .i64 s.grain] 24)).alloc (.cells #[.slice aa q.aggs.length ca, .slice ab q.names.length cb, .int .i64 q.mode, .slice aS q.sets.length cS, .int .i64 q.every, .int .i64 q.fil.kind, .string q.fil.name, .slice z0 z1 z2, .int .i64 q.fil.frm, .int .i64 q.fil.to, .slice z3 q.fil.l.length z4, .slice ah q.conds.length ch, .slice ao q.keys.length co, .int .i64 q.limit] 63) = W0 := ⟨_, rfl⟩
  obtain ⟨k0, k1, kS, kB⟩ := laid2 w (.cells #[.slice ad s.dims.length capd, .slice am s.mets.length capm, .int .i64 s.grain] 24) (.cells #[.slice aa q.aggs.length ca, .slice ab q.names.length cb, .int .i64 q.mode, .slice aS q.sets.length cS, .int .i64 q.every, .int .i64 q.fil.kind, .string q.fil.name, .slice z0 z1 z2, .int .i64 q.fil.frm, .int .i64 q.fil.to, .slice z3 q.fil.l.length z4, .slice ah q.conds.length ch, .slice ao q.keys.length co, .int .i64 q.limit] 63)
  rw [hW0] at k0 k1 kS kB
  have HX0 := Lib.hid (show Bq w _ _ W0 from ⟨k0, k1, kB⟩)
  clear k0 k1 kS kB
  go_enter Tryd.func9, Tryd.ntmps9
  go_wp2_with (fail)
  go_at_call 23
  refine (shown17_any a0 a1 W0 (HV.out.below HX0.out.below)).mono ?_
  rintro e W1 ⟨rfl, hB1⟩
  have HX1 := Lib.hid (HX0.out.later hB1)
  clear hB1 HX0 hW0
  obtain ⟨⟨x0, x1, x2⟩, x3, x4, x5⟩ := can3 HX1.out.k0
  go_wp2_with (fail)
  go_at_call 11
  refine (cutSch_any _ s W1 _ (HS.out.ag (Ag.new _ HX1.out.below))).mono ?_
  rintro e W2 ⟨vs', rfl, hs2, hB2⟩
  have HX2 := HX1.out.later hB2
  have hs2 := hs2.weak (q := Dq w) (Dq.of HX1.out.lt)
  obtain ⟨vd', vm', rfl, hd, hm, hd1, hm1⟩ := hs2
  have HS2 := Lib.hid (show SchAt (Dq w) W2 (.agg #[vd', vm', .int .i64 (cutSch s).grain]) (cutSch s) from ⟨vd', vm', rfl, hd, hm, hd1, hm1⟩)
  obtain ⟨ad', capd', rfl, _⟩ := slp_len hd
  obtain ⟨am', capm', rfl, _⟩ := slp_len hm
  obtain ⟨W3, hW3, HX3, hA3⟩ := HX2.put0 (.slice ad' (cutSch s).dims.length capd') (.slice am' (cutSch s).mets.length capm') (.int .i64 (cutSch s).grain)
  have HS3 := Lib.hid (HS2.out.ag hA3)
  have HX3 := Lib.hid HX3
  clear x0 x1 x2 x3 x4 x5 hd hm hd1 hm1 hB2 HS2 hA3 HX1
  obtain ⟨⟨x0, x1, x2⟩, x3, x4, x5⟩ := can3 HX2.k0
  obtain ⟨y0, y1, y2, y3, y4, y5, y6, y7, y8, y9, ya, yb, yc, yd⟩ := (can14 HX3.out.k1).1
  clear HX2
  go_wp2_with (fail)
  go_at_call 24
  refine (few15_any _ n _ q _ _ _ _ _ _ _ _ _ _ _ W3 (HQ.out.ag (Ag.new _ HX3.out.below))).mono ?_
  rintro e W4 ⟨v', ua, ub, uS, g0, g1, g2, g3, g4, g5, uh, uo, rfl, hq4, hcap, hB4⟩
  have hX4 := HX3.out.later hB4
  have hq4 := hq4.weak (q := Dq w) (fun b hb => by
    rcases hb with hb | hb
    · exact ⟨by have := hb.2; omega, by have := hb.2; omega⟩
    · exact Dq.of HX3.out.lt b hb)
  have HS4 := Lib.hid (HS3.out.ag (Ag.new _ hB4))
  have hn10 : (Que.few q).names.length ≤ 10 := by show ((q.names.take 10).map (cutN 30)).length ≤ 10; simp; omega
  obtain ⟨Q, hQ⟩ : ∃ Q, Q = Que.few q := ⟨_, rfl⟩
  rw [← hQ] at hq4 hcap hKF hn10
  clear hQ hB4 x0 x1 x2 x3 x4 x5 y0 y1 y2 y3 y4 y5 y6 y7 y8 y9 ya yb yc yd hW3 HS3
  have hv := hq4.e
  subst hv
  obtain ⟨na, nc, rfl, _, hdum⟩ := sls_open hq4.names.1
  obtain ⟨ba, bc, rfl⟩ := hq4.aggs.shape
  obtain ⟨ta, tc, rfl⟩ := hq4.sets.shape
  obtain ⟨ha, hc, rfl⟩ := hq4.conds.shape
  obtain ⟨oa, oc, rfl⟩ := hq4.keys.shape
  obtain ⟨j0, j1, j2, j3, j4, ez⟩ := FilAt.shape6 hq4.fil
  simp only [Value.agg.injEq, Array.mk.injEq, List.cons.injEq, and_true] at ez
  obtain ⟨rfl, rfl, rfl, rfl, rfl, rfl⟩ := ez
  have HCAP := Lib.hid hcap
  clear hdum hcap HX3 HQ HS
  obtain ⟨W5, hW5, hX5, hA5⟩ := hX4.put1 (.slice ba Q.aggs.length bc) (.slice na Q.names.length nc) (.int .i64 Q.mode) (.slice ta Q.sets.length tc) (.int .i64 Q.every) (.int .i64 Q.fil.kind) (.string Q.fil.name) (.slice j0 j1 j2) (.int .i64 Q.fil.frm) (.int .i64 Q.fil.to) (.slice j3 Q.fil.l.length j4) (.slice ha Q.conds.length hc) (.slice oa Q.keys.length oc) (.int .i64 Q.limit)
  obtain ⟨y0, y1, y2, y3, y4, y5, y6, y7, y8, y9, ya, yb, yc, yd⟩ := (can14 hX4.k1).1
  have zf := (can14 hX4.k1).2
  have zz0 := zf 0 (by omega)
  have zz1 := zf 1 (by omega)
  have zz2 := zf 2 (by omega)
  have zz3 := zf 3 (by omega)
  have zz4 := zf 4 (by omega)
  have zz5 := zf 5 (by omega)
  have zz6 := zf 6 (by omega)
  have zz7 := zf 7 (by omega)
  have zz8 := zf 8 (by omega)
  have zz9 := zf 9 (by omega)
  have zza := zf 10 (by omega)
  have zzb := zf 11 (by omega)
  have zzc := zf 12 (by omega)
  have zzd := zf 13 (by omega)
  clear zf
  have HS5 := Lib.hid (HS4.out.ag hA5)
  have HQ5 := Lib.hid (hq4.ag hA5)
  have HX5 := Lib.hid hX5
  have u1 := (can14 hX5.k1).1.2.1
  obtain ⟨w1, w2, w3⟩ := pow_small Q.names.length (by omega)
  obtain ⟨P, hP⟩ : ∃ P, P = 2 ^ Q.names.length := ⟨_, rfl⟩
  rw [← hP] at w1 w2 w3
  have HP := Lib.hid hP
  clear hP hX4 hq4 hA5 HS4 hX5
  by_cases hs0 : set < 0
  · have d1 : decide (set < 0) = true := decide_eq_true hs0
    go_wp2
    go_ret
    exact ⟨rfl, HX5.out.below⟩
  have d1 : decide (set < 0) = false := decide_eq_false hs0
  by_cases hsP : (P : Int) ≤ set
  · have d2 : decide ((P : Int) ≤ set) = true := decide_eq_true hsP
    go_wp2
    go_ret
    exact ⟨rfl, HX5.out.below⟩
  have d2 : decide ((P : Int) ≤ set) = false := decide_eq_false hsP
  obtain ⟨st, rfl⟩ : ∃ st : Nat, set = (st : Nat) := ⟨set.toNat, by omega⟩
  have hst : st < P := by omega
  clear hs0 hsP
  have c52 := (can14 HX5.out.k1).1.2.2.1
  have z52 := (can14 HX5.out.k1).2 2 (by omega)
  obtain ⟨W6, hW6⟩ : ∃ W6, W5.setCell ⟨w.heap.size + 1, 2, none⟩ (.int .i64 4) = W6 := ⟨_, rfl⟩
  obtain ⟨hX6, hA6⟩ := HX5.out.set1 2 (.int .i64 4) _ rfl
  rw [hW6] at hX6 hA6
  have HS6 := Lib.hid (HS5.out.ag hA6)
  have HQ6 := Lib.hid (HQ5.out.ag hA6)
  have HX6 := Lib.hid hX6
  obtain ⟨v0, v1, v2, v3, v4, v5, v6, v7, v8, v9, va', vb', vc', vd'⟩ := (can14 hX6.k1).1
  clear hX6 hA6 HS5 HQ5 HX5
  go_wp2_with (fail)
  go_at_call 26
  refine (namesOf_any (.slice ba Q.aggs.length bc) (.int .i64 4) (.slice ta Q.sets.length tc) (.int .i64 Q.every) (.int .i64 Q.fil.kind) (.string Q.fil.name) (.slice j0 j1 j2) (.int .i64 Q.fil.frm) (.int .i64 Q.fil.to) (.slice j3 Q.fil.l.length j4) (.slice ha Q.conds.length hc) (.slice oa Q.keys.length oc) (.int .i64 Q.limit) (.slice na Q.names.length nc) Q.names st (by omega) hn10 W6 HQ6.out.names.1 HCAP.out).mono ?_
  rintro e W7 ⟨nv, rfl, hN, hB7⟩
  obtain ⟨L, hL⟩ : ∃ L, L = Que.namesOf Q.names st := ⟨_, rfl⟩
  rw [← hL] at hN
  have hsm : ∀ x ∈ L, x.size ≤ maxLen := fun x hx => by
    rw [hL] at hx
    obtain ⟨j, hj, e, _⟩ := (Que.namesFrom_mem st x _ 0).1 hx
    exact HQ6.out.small x (List.mem_of_mem_take (e ▸ List.getElem_mem hj))
  have HLE := Lib.hid hL
  have HSM := Lib.hid hsm
  obtain ⟨m0, m1, m2, rfl⟩ := hN.shape
  have hX7 := HX6.out.later hB7
  have hN7 := hN.weak (q := Dq w) (Dq.of HX6.out.lt)
  have hS7 := HS6.out.ag (Ag.new _ hB7)
  have hQ7 := HQ6.out.ag (Ag.new _ hB7)
  obtain ⟨W8, hW8⟩ : ∃ W8, W7.alloc (.cells #[.slice m0 m1 m2] 22) = W8 := ⟨_, rfl⟩
  obtain ⟨g8, hS8, hB8⟩ := laid1 W7 (.cells #[.slice m0 m1 m2] 22)
  rw [hW8] at g8 hS8 hB8
  have hX8 := hX7.later hB8
  have c83 := (can14 hX8.k1).1.2.2.2.1
  have z83 := (can14 hX8.k1).2 3 (by omega)
  obtain ⟨W9, hW9⟩ : ∃ W9, W8.setCell ⟨w.heap.size + 1, 3, none⟩ (.slice (some ⟨W7.heap.size, 0, none⟩) 1 1) = W9 := ⟨_, rfl⟩
  obtain ⟨hX9, hA9⟩ := hX8.set1 3 (.slice (some ⟨W7.heap.size, 0, none⟩) 1 1) _ rfl
  rw [hW9] at hX9 hA9
  have hA79 := (Ag.new (Dq w) hB8).trans hA9
  have HS9 := Lib.hid (hS7.ag hA79)
  have HQ9 := Lib.hid (hQ7.ag hA79)
  have hN9 := hN7.ag hA79
  have hl7 := hX7.lt
  have g9 := (hA9.2 W7.heap.size (by omega) ⟨by omega, by omega⟩).trans g8
  have HSE : RowKit.Hid (SetsAt (Dq w) W9 (.slice (some ⟨W7.heap.size, 0, none⟩) 1 1) [L]) := Lib.hid ⟨_, _, rfl, (by decide : (1 : Nat) ≤ maxLen), Nat.le_refl _, (fun e => by cases e), fun _ => ⟨W7.heap.size, 0, rfl, (Array.getElem?_eq_some_iff.1 g9).1, ⟨by omega, by omega⟩, fun j hj => by
    obtain rfl : j = 0 := by have : j < 1 := hj; omega
    exact ⟨_, cell_of_row _ _ 0 _ _ _ g9, hN9, HSM.out⟩⟩⟩
  have HX9 := Lib.hid hX9
  obtain ⟨x0, x1, x2⟩ := (can3 hX9.k0).1
  clear v0 v1 v2 v3 v4 v5 v6 v7 v8 v9 va' vb' vc' vd'
  obtain ⟨v0, v1, v2, v3, v4, v5, v6, v7, v8, v9, va', vb', vc', vd'⟩ := (can14 hX9.k1).1
  clear hL hN hsm hB7 hX7 hN7 hS7 hQ7 g8 hS8 hB8 hX8 hX9 hA9 hA79 hN9 g9 HX6 HS6 HQ6 hl7
  go_wp2_with (fail)
  go_at_call 25
  refine (sets17_any a0 a1 (Dq w) 8 _ _ (cutSch s) { Q with sets := [L], mode := 4 } _ _ _ _ _ _ _ _ _ _ _ W9 (HV.out.below HX9.out.below) HS9.out (HQ9.out.mod 4 HSE.out) (by omega) hKF).mono ?_
  rintro e W10 ⟨ra, rfl, hA, hB10⟩
  obtain ⟨E, hE⟩ : ∃ E, E = Que.check (cutSch s) { Q with sets := [L], mode := 4 } := ⟨_, rfl⟩
  rw [← hE] at hA ⊢
  have HE := Lib.hid hE
  have HB10 := Lib.hid (Bt HX9.out.below hB10)
  clear hB10 hE x0 x1 x2 v0 v1 v2 v3 v4 v5 v6 v7 v8 v9 va' vb' vc' vd' c83 z83 hW9 hW8
  by_cases h0 : E = 0
  · subst h0
    rw [if_pos rfl] at hA
    obtain ⟨hio, hn6, _, _⟩ := Que.isOf_names (Que.check_ok HE.out.symm)
    have hio : Que.inOrder Q.names Q.names = true := hio
    have hn6 : Q.names.length ≤ 6 := hn6
    have ea : Que.setsOf { Q with sets := [L], mode := 4 } = [st] := by
      show [Que.setOf Q.names L] = [st]
      rw [HLE.out, Que.setOf_namesOf hio (by omega) st (by rw [← HP.out]; exact hst)]
    rw [ea] at hA
    obtain ⟨pa, pc, rfl, hac⟩ := nat_open hA
    obtain ⟨b, off, rfl, hb, hcell⟩ := hac 0 (by show 0 < 1; omega)
    have hcell : W10.cell? ⟨b, off, none⟩ = some (.int .i64 (st : Nat)) := hcell
    have he : ((st : Int) == (st : Int)) = true := by simp
    clear hA hac ea
    go_wp2
    go_ret
    exact ⟨rfl, HB10.out⟩
  · rw [if_neg h0] at hA
    obtain ⟨pa, pc, rfl, _⟩ := nat_open hA
    have hE1 : ((E : Nat) : Int) ≠ 0 := by omega
    have hE2 : (((E : Nat) : Int) != 0) = true := by rw [bne_iff_ne]; exact hE1
    clear h0 hA HE
    go_wp2
    go_ret
    exact ⟨rfl, HB10.out⟩
end Go.Proofs.YtdfnolgcdododaaDoor
