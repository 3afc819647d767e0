/- What the arguments read as, opened: schemas, filters, values, rows. -/
import Derived.Test.YtdfnolgcdododaaDoorF32
import Derived.Lib.SmallJoins
namespace Go
open Go.ChangeShapes Go.WideShapes Go.Deep Go.Joins
theorem array6 {α : Type} {l : List α} (h : l.length = 6) : ∃ c0 c1 c2 c3 c4 c5, l = [c0, c1, c2, c3, c4, c5] := by
  match l, h with
  | [c0, c1, c2, c3, c4, c5], _ => exact ⟨c0, c1, c2, c3, c4, c5, rfl⟩
section
variable {P : Program} {w : World} {H : Type} {enc : TypeId × Value → H} {held : Bool}
/-- A slice's address, where a cell behind it reads: no view. -/
theorem addr_plain {w : World} {a : Addr} {v : Value} (h : w.cell? (a.add 0) = some v) : ∃ b off, a = ⟨b, off, none⟩ ∧ b < w.heap.size ∧ ∀ k, a.add k = ⟨b, off + k, none⟩ := by
  obtain ⟨ab, ao, asp⟩ := a
  cases asp with
  | some x => exfalso; simp [Addr.add, World.cell?] at h; split at h <;> simp at h
  | none =>
    have hk : ∀ k, (⟨ab, ao, none⟩ : Addr).add k = ⟨ab, ao + k, none⟩ := fun k => by unfold Addr.add; split <;> simp_all
    rw [hk] at h
    exact ⟨ab, ao, rfl, World.block_lt_of_cell? w _ h, hk⟩
theorem col_of_trod {α : Type} [Inhabited α] (f : α → Value) (Q : α → Prop) {t e : TypeId} (ht : P.underlying t = some (.slice e)) (hc : P.cellsOf e = 1)
    (hd : ∀ n v y, DataW.trod enc P w 0 (fun _ => true) held n e [v] = some y → ∃ z, v = f z ∧ Q z) {fuel : Nat} {v : Value} {x : DataW H × List MemPlace} (h : DataW.trod enc P w 0 (fun _ => true) held fuel t [v] = some x) :
    ∃ zs : List α, SlP (fun _ => True) w v (zs.map f) ∧ (∀ z ∈ zs, Q z) ∧ ∃ a cap, v = .slice a zs.length cap ∧ zs.length ≤ cap := by
  rcases open_slice1 ht hc h with ⟨hcs, _⟩ | ⟨a, len, cap, m, n, V, D, Pl, hcs, _, hl, hm, hmm, _, hx⟩
  · simp only [List.cons.injEq, and_true] at hcs
    subst hcs
    exact ⟨[], SlP.nil _ _, (fun z hz => by cases hz), none, 0, rfl, Nat.le_refl _⟩
  · simp only [List.cons.injEq, and_true] at hcs
    subst hcs
    simp only [if_true] at hmm
    subst hmm
    obtain ⟨Z, hZ⟩ := choose_lt (α := α) (p := fun i z => V i = f z ∧ Q z) (fun i hi => hd n _ _ (hx i (Nat.lt_of_lt_of_le hi hl)).2)
    have hlen : (((List.range len).map Z).map f).length = len := by simp
    refine ⟨(List.range len).map Z, ⟨⟨by rw [hlen]; omega, some a, m, by rw [hlen], fun hp => ?_⟩, fun _ _ _ => trivial, fun n c e => by cases e⟩, fun z hz => ?_, some a, m, by simp, by simpa using hl⟩
    · rw [hlen] at hp
      obtain ⟨b, off, rfl, hb, hk⟩ := addr_plain (hx 0 (by omega)).1
      refine ⟨b, off, rfl, hb, fun j hj => ?_⟩
      rw [hlen] at hj
      rw [← hk j, (hx j (by omega)).1]
      simp [(hZ j hj).1]
    · obtain ⟨i, hi, rfl⟩ := List.mem_map.1 hz
      exact (hZ i (List.mem_range.1 hi)).2
end
end Go
namespace Go.Proofs.YtdfnolgcdododaaDoor
open Go.RowKit Go.ChangeShapes Go.WideShapes Go.Deep Go.Joins
open Tess (Fil)
instance : Inhabited Fil := ⟨.mk 0 ByteArray.empty [] 0 0 []⟩
instance : Inhabited Tess.Val := ⟨⟨ByteArray.empty, false⟩⟩
section
variable {w : World} {H : Type} {enc : TypeId × Value → H} {held : Bool}
theorem strs_of_trod {fuel : Nat} {v : Value} {x : DataW H × List MemPlace} (h : DataW.trod enc Tryd.prog w 0 (fun _ => true) held fuel 22 [v] = some x) :
    ∃ zs : List ByteArray, SlP (fun _ => True) w v (zs.map .string) ∧ (∀ z ∈ zs, z.size ≤ maxLen) ∧ ∃ a cap, v = .slice a zs.length cap ∧ zs.length ≤ cap :=
  col_of_trod .string (fun z => z.size ≤ maxLen) Tryd.underlying22 (by kernel_rfl) (fun n v y hy => by
    obtain ⟨s, hs, _, hz⟩ := DataW.trod_string Tryd.underlying9 hy
    exact ⟨s, by simpa using hs, hz⟩) h
theorem ints_of_trod {fuel : Nat} {v : Value} {x : DataW H × List MemPlace} (h : DataW.trod enc Tryd.prog w 0 (fun _ => true) held fuel 31 [v] = some x) :
    ∃ zs : List Int, SlP (fun _ => True) w v (zs.map (.int .i64)) ∧ (∀ z ∈ zs, (Lit.int .i64 z).wf = true) ∧ ∃ a cap, v = .slice a zs.length cap ∧ zs.length ≤ cap :=
  col_of_trod (.int .i64) (fun z => (Lit.int .i64 z).wf = true) Tryd.underlying31 (by kernel_rfl) (fun n v y hy => by
    obtain ⟨s, hs, _, hz⟩ := DataW.trod_int Tryd.underlying2 hy
    exact ⟨s, by simpa using hs, hz⟩) h
theorem int_cell {fuel : Nat} {v : Value} {x : DataW H × List MemPlace} (h : DataW.trod enc Tryd.prog w 0 (fun _ => true) held fuel 2 [v] = some x) : ∃ z, v = .int .i64 z ∧ -9223372036854775808 ≤ z ∧ z ≤ 9223372036854775807 := by
  obtain ⟨z, hz, _, hw⟩ := DataW.trod_int Tryd.underlying2 h
  simp only [Lit.wf, Bool.and_eq_true, decide_eq_true_eq] at hw
  exact ⟨z, by simpa using hz, hw.1, hw.2⟩
set_option maxRecDepth 100000 in
/-- A filter's cells, opened. -/
theorem trod_fil {fuel : Nat} {cs : List Value} {x : DataW H × List MemPlace} (h : DataW.trod enc Tryd.prog w 0 (fun _ => true) held fuel 29 cs = some x) :
    ∃ n k nm c2 frm to c5 y2 y5, fuel = n + 1 ∧ cs = [.int .i64 k, .string nm, c2, .int .i64 frm, .int .i64 to, c5] ∧ (-9223372036854775808 ≤ k ∧ k ≤ 9223372036854775807) ∧ nm.size ≤ maxLen ∧
      DataW.trod enc Tryd.prog w 0 (fun _ => true) held n 22 [c2] = some y2 ∧ DataW.trod enc Tryd.prog w 0 (fun _ => true) held n 27 [c5] = some y5 := by
  have hC6 : Tryd.prog.cellsOf 29 = 6 := by kernel_rfl
  have kI : Tryd.prog.cellsOf 3 = 1 := by kernel_rfl
  have kJ : Tryd.prog.cellsOf 2 = 1 := by kernel_rfl
  have kS : Tryd.prog.cellsOf 9 = 1 := by kernel_rfl
  have kW : Tryd.prog.cellsOf 22 = 1 := by kernel_rfl
  have kL : Tryd.prog.cellsOf 27 = 1 := by kernel_rfl
  have kP : Tryd.prog.cellsOf 26 = 2 := by kernel_rfl
  obtain ⟨xs, n, rfl, _, hl, hlen, hf⟩ := DataW.trod_struct Tryd.underlying29 h
  obtain ⟨c0, c1, c2, c3, c4, c5, rfl⟩ := array6 (hl.trans hC6)
  obtain ⟨y0, y1, y2, y3, y4, rfl⟩ : ∃ y0 y1 y2 y3 y4, xs = [y0, y1, y2, y3, y4] := by
    match xs, (show xs.length = 5 from hlen) with
    | [c0, c1, c2, c3, c4], _ => exact ⟨c0, c1, c2, c3, c4, rfl⟩
  obtain ⟨k, hk, _, hw⟩ := DataW.trod_int Tryd.underlying3 (by simpa [kI] using hf 0 _ rfl)
  obtain ⟨nm, hnm, _, hz⟩ := DataW.trod_string Tryd.underlying9 (by simpa [kS] using hf 1 _ rfl)
  have h2 : DataW.trod enc Tryd.prog w 0 (fun _ => true) held n 22 [c2] = some y2 := by simpa [kW] using hf 2 _ rfl
  have h3 : DataW.trod enc Tryd.prog w 0 (fun _ => true) held n 26 [c3, c4] = some y3 := by simpa [kP] using hf 3 _ rfl
  have h4 : DataW.trod enc Tryd.prog w 0 (fun _ => true) held n 27 [c5] = some y4 := by simpa [kL] using hf 4 _ rfl
  obtain ⟨z0, z1, n', _, _, t0, t1⟩ := trod_struct2 Tryd.underlying26 h3
  obtain ⟨fr, hfr, _⟩ := DataW.trod_int Tryd.underlying2 (by simpa [kJ] using t0)
  obtain ⟨to, hto, _⟩ := DataW.trod_int Tryd.underlying2 (by simpa [kJ] using t1)
  obtain rfl : c0 = .int .i64 k := by simpa using hk
  obtain rfl : c1 = .string nm := by simpa using hnm
  obtain rfl : c3 = .int .i64 fr := by simpa using hfr
  obtain rfl : c4 = .int .i64 to := by simpa using hto
  simp only [Lit.wf, Bool.and_eq_true, decide_eq_true_eq] at hw
  exact ⟨n, k, nm, c2, fr, to, c5, y2, y4, rfl, rfl, ⟨hw.1, hw.2⟩, hz, h2, h4⟩
set_option maxRecDepth 100000 in
theorem fil_of_trod : ∀ (fuel : Nat) (cs : List Value) (x : DataW H × List MemPlace), DataW.trod enc Tryd.prog w 0 (fun _ => true) held fuel 29 cs = some x → ∃ f, cs.length = 6 ∧ kindsOk f ∧ FilAt (fun _ => True) fuel w (.agg cs.toArray) f := by
  intro fuel
  induction fuel using Nat.strongRecOn with
  | ind fuel ih =>
    intro cs x h
    obtain ⟨n, k, nm, c2, fr, to, c5, y2, y5, rfl, rfl, ⟨hk1, hk2⟩, hz, h2, h5⟩ := trod_fil h
    obtain ⟨ws, hws, hwz, _⟩ := strs_of_trod h2
    rcases DataW.trod_slice Tryd.underlying27 h5 with ⟨hcs, _⟩ | ⟨a, len, cap, elems, rest, n', rfl, hcs, _, _, hl, hm, hlen, hel, _, _⟩
    · obtain rfl : c5 = .slice none 0 0 := by simpa using hcs
      refine ⟨.mk k nm ws fr to [], rfl, ?_, _, _, _, rfl, hz, hws, hwz, Nat.zero_le _, fun _ => rfl, fun hh => absurd hh (by simp [Fil.l])⟩
      unfold kindsOk
      rw [Fil.allP_eq, Bool.and_eq_true]
      exact ⟨by simp [Fil.kind, hk1, hk2], by simp [Fil.l]⟩
    · obtain rfl : c5 = .slice (some a) len cap := by simpa using hcs
      have hC6 : Tryd.prog.cellsOf 29 = 6 := by kernel_rfl
      obtain ⟨F, hF⟩ := choose_lt (α := Fil) (n := len) (p := fun i f => ∃ cs', w.cells? 0 (a.add (i * 6)) 6 = some cs' ∧ cs'.length = 6 ∧ kindsOk f ∧ FilAt (fun _ => True) n' w (.agg cs'.toArray) f) (fun i hi => by
        have key := hel i hi
        rw [List.getElem?_eq_getElem (by omega), hC6] at key
        obtain ⟨cs', e1, e2⟩ := Option.bind_eq_some_iff.1 key
        obtain ⟨f, q1, q2, q3⟩ := ih n' (by omega) cs' _ e2
        exact ⟨f, cs', e1, q1, q2, q3⟩)
      have hll : ((List.range len).map F).length = len := by simp
      refine ⟨.mk k nm ws fr to ((List.range len).map F), rfl, ?_, _, some a, cap, ?_, hz, hws, hwz, ?_, (fun e => by cases e), fun hp => ?_⟩
      · unfold kindsOk
        rw [Fil.allP_eq, Bool.and_eq_true, List.all_eq_true]
        refine ⟨by simp [Fil.kind, hk1, hk2], fun y hy => ?_⟩
        obtain ⟨i, hi, rfl⟩ := List.mem_map.1 (show y ∈ (List.range len).map F from hy)
        obtain ⟨_, _, _, q, _⟩ := hF i (List.mem_range.1 hi)
        exact q
      · simp [Fil.kind, Fil.name, Fil.frm, Fil.to, Fil.l]
      · simp [Fil.l]; omega
      · replace hp : 0 < len := by simpa [Fil.l] using hp
        obtain ⟨cs0, z0, l0, _⟩ := hF 0 hp
        obtain ⟨_, _, z2⟩ := World.cells?_some z0
        have z3 := z2 0 (by omega)
        rw [List.getElem?_eq_getElem (by omega), Deep.add_add] at z3
        obtain ⟨b, off, rfl, hb, hadd⟩ := addr_plain (by simpa using z3)
        refine ⟨b, off, rfl, hb, trivial, fun j hj => ?_⟩
        replace hj : j < len := by simpa [Fil.l] using hj
        obtain ⟨cs', e1, e2, e3, e4⟩ := hF j hj
        obtain ⟨d0, d1, d2, d3, d4, d5, rfl⟩ := array6 e2
        obtain ⟨_, _, e5⟩ := World.cells?_some e1
        have hcell : ∀ i (hi : i < 6), w.cell? ⟨b, off + j * 6 + i, none⟩ = [d0, d1, d2, d3, d4, d5][i]? := fun i hi => by
          rw [← e5 i hi, Deep.add_add, hadd, Nat.add_assoc]
        refine ⟨d0, d1, d2, d3, d4, d5, ?_, hcell 0 (by omega), hcell 1 (by omega), hcell 2 (by omega), hcell 3 (by omega), hcell 4 (by omega), hcell 5 (by omega)⟩
        have e6 : (Fil.mk k nm ws fr to ((List.range len).map F)).l[j]'(by simpa [Fil.l] using hj) = F j := by simp [Fil.l]
        rw [e6]
        exact FilAt.mono (by omega) e4
set_option maxRecDepth 100000 in
theorem vals_of_trod {fuel : Nat} {v : Value} {x : DataW H × List MemPlace} (h : DataW.trod enc Tryd.prog w 0 (fun _ => true) held fuel 30 [v] = some x) : ∃ l, ValsAt (fun _ => True) w v l := by
  rcases open_slice Tryd.underlying30 h with ⟨hcs, _⟩ | ⟨a, len, cap, m, n, D, Pl, hcs, _, hl, hm, hmm, _, hx⟩
  · obtain rfl : v = .slice none 0 0 := by simpa using hcs
    exact ⟨[], none, 0, rfl, Nat.zero_le _, (fun z hz => by cases hz), fun _ => rfl, fun hh => absurd hh (by simp)⟩
  · obtain rfl : v = .slice (some a) len cap := by simpa using hcs
    simp only [if_true] at hmm
    subst hmm
    have hC2 : Tryd.prog.cellsOf 44 = 2 := by kernel_rfl
    obtain ⟨Z, hZ⟩ := choose_lt (α := Tess.Val) (n := len) (p := fun i z => w.cells? 0 (a.add (i * 2)) 2 = some [.string z.s, .bool z.null] ∧ z.s.size ≤ maxLen) (fun i hi => by
      obtain ⟨cs', e1, e2⟩ := hx i (by omega)
      rw [hC2] at e1
      obtain ⟨y0, y1, n', _, hcl, t0, t1⟩ := trod_struct2 Tryd.underlying44 e2
      rw [hC2] at hcl
      match cs', hcl with
      | [c0, c1], _ =>
        have k0 : Tryd.prog.cellsOf 9 = 1 := by kernel_rfl
        have k1 : Tryd.prog.cellsOf 4 = 1 := by kernel_rfl
        obtain ⟨s, hs, _, hz⟩ := DataW.trod_string Tryd.underlying9 (by simpa [k0] using t0)
        obtain ⟨bb, hb, _⟩ := DataW.trod_bool Tryd.underlying4 (by simpa [k1] using t1)
        obtain rfl : c0 = .string s := by simpa using hs
        obtain rfl : c1 = .bool bb := by simpa using hb
        exact ⟨⟨s, bb⟩, e1, hz⟩)
    refine ⟨(List.range len).map Z, some a, m, by simp, by simp; omega, fun z hz => ?_, (fun e => by cases e), fun hp => ?_⟩
    · obtain ⟨i, hi, rfl⟩ := List.mem_map.1 hz
      exact (hZ i (List.mem_range.1 hi)).2
    · replace hp : 0 < len := by simpa using hp
      obtain ⟨_, _, z2⟩ := World.cells?_some (hZ 0 hp).1
      have z3 := z2 0 (by omega)
      rw [List.getElem?_cons_zero, Deep.add_add] at z3
      obtain ⟨b, off, rfl, hb, hadd⟩ := addr_plain (by simpa using z3)
      refine ⟨b, off, rfl, hb, trivial, fun j hj => ?_⟩
      replace hj : j < len := by simpa using hj
      obtain ⟨_, _, e5⟩ := World.cells?_some (hZ j hj).1
      have hcell : ∀ i (hi : i < 2), w.cell? ⟨b, off + j * 2 + i, none⟩ = [Value.string (Z j).s, .bool (Z j).null][i]? := fun i hi => by
        rw [← e5 i hi, Deep.add_add, hadd, Nat.add_assoc]
      exact ⟨by simpa using hcell 0 (by omega), by simpa using hcell 1 (by omega)⟩
set_option maxRecDepth 100000 in
theorem open_sch {r : Reach} {b0 : Nat} {v : Value} {d : DataW H} {ps : List MemPlace} (hval : Value.okWide Tryd.prog w r b0 24 v) (hd : DataW.Trod enc Tryd.prog w 0 (fun _ => true) held 24 v d ps) : ∃ s, SchAt (fun _ => True) w v s := by
  obtain ⟨v0, v1, v2, y0, y1, y2, n, rfl, _, _, h0, h1, h2⟩ := open_agg3 Tryd.underlying24 (by kernel_rfl) (by kernel_rfl) hval hd
  obtain ⟨zd, s0, q0, _⟩ := strs_of_trod h0
  obtain ⟨zm, s1, q1, _⟩ := strs_of_trod h1
  obtain ⟨g, rfl, _⟩ := int_cell h2
  exact ⟨⟨zd, zm, g⟩, v0, v1, rfl, s0, s1, q0, q1⟩
set_option maxRecDepth 100000 in
theorem open_fil {r : Reach} {b0 : Nat} {v : Value} {d : DataW H} {ps : List MemPlace} (hval : Value.okWide Tryd.prog w r b0 29 v) (hd : DataW.Trod enc Tryd.prog w 0 (fun _ => true) held 29 v d ps) : ∃ n f, FilAt (fun _ => True) n w v f ∧ kindsOk f := by
  obtain ⟨cs, rfl, _⟩ := okWide_struct Tryd.underlying29 hval
  obtain ⟨fuel, hf⟩ := hd
  obtain ⟨f, _, h2, h3⟩ := fil_of_trod fuel _ _ hf
  exact ⟨fuel, f, by simpa [Value.cells] using h3, h2⟩
set_option maxRecDepth 100000 in
theorem open_vals {r : Reach} {b0 : Nat} {v : Value} {d : DataW H} {ps : List MemPlace} (hval : Value.okWide Tryd.prog w r b0 30 v) (hd : DataW.Trod enc Tryd.prog w 0 (fun _ => true) held 30 v d ps) : ∃ l, ValsAt (fun _ => True) w v l := by
  obtain ⟨a0, len0, cap0, rfl⟩ := okWide_slice Tryd.underlying30 hval
  obtain ⟨fuel, hf⟩ := hd
  exact vals_of_trod (by simpa [Value.cells] using hf)
set_option maxRecDepth 100000 in
theorem open_row {r : Reach} {b0 : Nat} {v : Value} {d : DataW H} {ps : List MemPlace} (hval : Value.okWide Tryd.prog w r b0 33 v) (hd : DataW.Trod enc Tryd.prog w 0 (fun _ => true) held 33 v d ps) : ∃ t l ns, RowAt (fun _ => True) w v t l ns := by
  obtain ⟨v0, v1, v2, y0, y1, y2, n, rfl, _, _, h0, h1, h2⟩ := open_agg3 Tryd.underlying33 (by kernel_rfl) (by kernel_rfl) hval hd
  obtain ⟨t, rfl, _⟩ := int_cell h0
  obtain ⟨l, hl⟩ := vals_of_trod h1
  obtain ⟨ns, hs, _, a, c, rfl, hc⟩ := ints_of_trod h2
  exact ⟨t, l, ns, v1, a, c, rfl, hc, hl, hs⟩
end
end Go.Proofs.YtdfnolgcdododaaDoor
