/- Merged by merge.py: H7, H8, H9, H14: the document's functions, walked. -/
import Derived.Test.YtdfnolgcdododaaDoorHA
import Derived.Test.YtdfnolgcdododaaDoorF13
import Derived.Test.YtdfnolgcdododaaDoorFlX
namespace Go.Proofs.YtdfnolgcdododaaDoor
open Go.RowKit Go.Sort
open Tess (Fil Que)

set_option maxRecDepth 100000 in
set_option maxHeartbeats 2000000 in
theorem names15_any (p : Nat → Prop) (v : Value) (l : List ByteArray) (w : World) (hv : SlP p w v (l.map .string)) (hs : ∀ x ∈ l, x.size ≤ maxLen) :
    Calls Tryd.prog 47 #[v] w fun e w' => ∃ v', e = .returned v' ∧ SlP (fun b => w.heap.size ≤ b) w' v' ((namesN 30 10 l).map .string) ∧ CapOk v' (namesN 30 10 l).length ∧ Below w.heap.size w w' := by
  obtain ⟨a, cap, rfl, hl, hc⟩ := sls_open hv.1
  have HC := Lib.hid hc
  have HS := Lib.hid hs
  clear hc hs hv
  obtain ⟨i0, hi, hz0, hz1, hz2⟩ := info_parts infoStr
  go_enter Tryd.func47, Tryd.ntmps47
  go_wp2
  go_loopw [3, 4] (fun v i wr => ∃ k : Nat, k ≤ l.length ∧ k ≤ 10 ∧ i = .int .i64 k ∧ wr.ownsRow w.heap.size 9 1 v k (namesV 30 10 l k) ∧ (k = 0 → v = .slice none 0 0) ∧ Below w.heap.size w wr) (fun _ i _ => 10 - (intOf i).toNat)
  case atStart => exact ⟨0, Nat.zero_le _, Nat.zero_le _, rfl, by simpa [namesV] using World.ownsRow_nil w w.heap.size 9 1, fun _ => rfl, Below.refl _ _⟩
  case round =>
    obtain ⟨k, hk, hkn, rfl, hown, hnil, hB⟩ := hrel
    have HN := Lib.hid hnil
    clear hnil
    by_cases hlt : k < l.length ∧ k < 10
    · obtain ⟨h1, h2⟩ := hlt
      obtain ⟨b, off, rfl, hb, hel⟩ := HC.out k h1
      have hck : wr.cell? ⟨b, off + k, none⟩ = some (.string l[k]) := (hB.cell (p := ⟨b, off + k, none⟩) hb).trans hel
      have hsz : l[k].size ≤ 9223372036854775807 := HS.out _ (List.getElem_mem h1)
      have HO := Lib.hid hown
      have HB := Lib.hid hB
      have hbw : b < wr.heap.size := Nat.lt_of_lt_of_le hb HB.out.size
      obtain ⟨x, hx⟩ : ∃ x, x = cutN 30 l[k] := ⟨_, rfl⟩
      have HE := Lib.hid (names_snoc 30 10 l k h1 x hx.symm)
      have HX := Lib.hid hx
      clear hx hown hB hel hb
      generalize l[k] = xs at *
      go_wp2
      rcases (show ((30 : Int) < (xs.size : Int) ∧ (¬ (xs.size : Int) ≤ 30 ∧ (30 : Int) ≤ (xs.size : Int)) ∧ min (xs.size : Int) 30 = 30) ∨ (¬ (30 : Int) < (xs.size : Int) ∧ (xs.size : Int) ≤ 30 ∧ min (xs.size : Int) 30 = (xs.size : Int)) by omega) with ⟨h3i, h3j, hmin⟩ | ⟨h3i, h3j, hmin⟩
      all_goals
        refine Flow.wp_region_flow_tail 13 (Flow.specs [.inl ?_, .inl ?_, .inl ?_, .inl ?_, .inl ?_, .inl ?_, .inl ?_, .inl ?_, .inl ?_, .inl ?_, .inl ?_, .inl ?_, .inr (newOne (.string x))]) (by kernel_rfl) (by kernel_rfl) ?_ ?_
        rotate_left 12
        · refine Flow.specs_mono ?_
          repeat (first | exact Flow.lmono_nil | refine Flow.lmono_inl ?_ | refine Flow.lmono_inr (newOne_mono _) ?_)
        all_goals try simp only [List.take_succ_cons, List.take_zero, List.drop_succ_cons, List.drop_zero]
        iterate 12 (refine Flow.tree_valK rfl (fun K hK => ⟨fun w hw hG => ?_, ?_⟩); (have hcl := Flow.bcell hw; clear hG hw; unfold Flow.Runs Flow.yields; go_simp; try rfl); go_simp; refine hK _ ?_; clear hK K)
        (refine Flow.tree_varK rfl (fun K hK => ⟨fun w hw hG => ?_, ?_⟩); (clear hG hw; unfold Flow.Runs Flow.yields; go_simp; refine ⟨(Below.refl _ _).alloc (Nat.le_refl _) _, ?_⟩; rw [HX.out]); rotate_left; intro vz; go_simp; refine hK _ _ ?_; clear hK K; rotate_left)
        · first | exact newOne_mk _ _ _ | (rw [cutN_self _ _ (by omega)]; exact newOne_mk _ _ _)
        refine Flow.tree_nil fun w2 hw2 hG => ?_
        obtain ⟨gn, rfl, hgn, hcn⟩ := (show newOne (.string x) vz w2 by simpa [Flow.upd] using hG 12)
        clear hG
        have HO2 := Lib.hid (owns_below HO.out hw2)
        have hB2 := HB.out.trans (hw2.mono HB.out.size)
        go_wp2_with (at_builtin; refine wpList_append_own _ rfl _ _ 22 rfl w.heap.size 9 i0 (.string ByteArray.empty) 1 16 Tryd.underlying22 hi hz0 hz1 hz2 rfl (by decide) _ _ _ rfl HO2.out ⟨gn, 0, none⟩ 1 1 [.string x] rfl rfl ?_ ?_ ?_ ?_ ?_ ?_)
        · intro j u hj; rcases j with _ | j <;> simp at hj; subst hj; simpa [Addr.add] using hcn
        · simp [Value.oneCell']
        · unfold maxLen; omega
        · omega
        · exact hB2.size
        intro v' w3 hown3 hgrow hnil3
        have HB3 := Lib.hid (hB2.grown hgrow hB2.size (fun j e => (HO2.out.lt j e).1))
        have HO3 := Lib.hid (joinl_owned hown3 HE.out)
        clear hown3 hgrow hB2
        go_wp2
        go_roundw
        case rel => exact ⟨k + 1, by omega, by omega, by go_num, HO3.out, fun h => by omega, HB3.out⟩
        case measure => simp [intOf]; omega
    · have HE := names_end 30 10 l k (by omega) hk hkn
      have HP := Lib.hid (SlP.owned (HE ▸ hown))
      have hkl : (namesN 30 10 l).length = k := by unfold namesN; rw [List.length_map, List.length_take]; omega
      have HQ := Lib.hid (owns_cap hown HN.out)
      rw [← hkl] at HQ
      clear hkl
      have HB := Lib.hid hB
      clear hown hB HE
      rcases (show (¬ (k : Int) < (l.length : Int)) ∨ ((k : Int) < (l.length : Int) ∧ ¬ (k : Int) < 10) by omega) with hni | ⟨hkl, hni⟩
      all_goals
        clear hlt
        go_wp2
        go_ret
        exact ⟨_, rfl, HP.out, HQ.out, HB.out⟩
end Go.Proofs.YtdfnolgcdododaaDoor
namespace Tess
open Go
def cutAgg (a : Agg) : Agg := ⟨a.kind, cutN 30 a.met⟩
/-- The law's few: ten of each list, thirty bytes of a name, few filters. -/
def Que.few (q : Que) : Que := ⟨(q.aggs.take 10).map cutAgg, (q.names.take 10).map (cutN 30), q.mode, (q.sets.take 10).map (fun l => (l.take 10).map (cutN 30)), q.every, Fil.few q.fil, q.conds.take 10, q.keys.take 10, q.limit⟩
end Tess
namespace Go.Proofs.YtdfnolgcdododaaDoor
open Go.RowKit Go.Sort
open Tess (Fil Que)

/-- Stores into one block, from a place on. -/
def putAll (g : Nat) : Nat → List Value → World → World
  | _, [], W => W
  | i, y :: r, W => putAll g (i + 1) r (W.setCell ⟨g, i, none⟩ y)
def setArr : Nat → List Value → Array Value → Array Value
  | _, [], cs => cs
  | i, y :: r, cs => setArr (i + 1) r (cs.setIfInBounds i y)
theorem putAll_same {g : Nat} {t : TypeId} (ys : List Value) : ∀ (i : Nat) (W : World) (cs : Array Value), W.heap[g]? = some (.cells cs t (0, 0)) → (putAll g i ys W).heap[g]? = some (.cells (setArr i ys cs) t (0, 0)) := by
  induction ys with
  | nil => intro i W cs h; exact h
  | cons y r ih => intro i W cs h; exact ih (i + 1) _ _ (heap_setCell_same _ _ _ _ _ _ h)
theorem putAll_other {g k : Nat} (hk : k ≠ g) (ys : List Value) : ∀ (i : Nat) (W : World), (putAll g i ys W).heap[k]? = W.heap[k]? := by
  induction ys with
  | nil => intro i W; rfl
  | cons y r ih => intro i W; exact (ih (i + 1) _).trans (heap_setCell_other _ _ _ _ hk)
theorem putAll_size {g : Nat} (ys : List Value) : ∀ (i : Nat) (W : World), (putAll g i ys W).heap.size = W.heap.size := by
  induction ys with
  | nil => intro i W; rfl
  | cons y r ih => intro i W; exact (ih (i + 1) _).trans (by simp [World.setCell])
theorem putAll_below {g B : Nat} {a : World} (hg : B ≤ g) (ys : List Value) : ∀ (i : Nat) (W : World), Below B a W → Below B a (putAll g i ys W) := by
  induction ys with
  | nil => intro i W h; exact h
  | cons y r ih => intro i W h; exact ih (i + 1) _ (h.setCell hg _)
theorem putAll_ag {g : Nat} {q : Nat → Prop} (hq : ¬ q g) (ys : List Value) : ∀ (i : Nat) (W : World), Ag q W (putAll g i ys W) := by
  induction ys with
  | nil => intro i W; exact Ag.refl _ _
  | cons y r ih => intro i W; exact (Ag.set q W y hq).trans (ih (i + 1) _)
/-- Fourteen stores into one block. -/
theorem put14 {W : World} {g : Nat} {t : TypeId} {x0 x1 x2 x3 x4 x5 x6 x7 x8 x9 xa xb xc xd : Value} (y0 y1 y2 y3 y4 y5 y6 y7 y8 y9 ya yb yc yd : Value) (h : W.heap[g]? = some (.cells #[x0, x1, x2, x3, x4, x5, x6, x7, x8, x9, xa, xb, xc, xd] t (0, 0))) :
    ∃ W1, ((((((((((((((W.setCell ⟨g, 0, none⟩ y0).setCell ⟨g, 1, none⟩ y1).setCell ⟨g, 2, none⟩ y2).setCell ⟨g, 3, none⟩ y3).setCell ⟨g, 4, none⟩ y4).setCell ⟨g, 5, none⟩ y5).setCell ⟨g, 6, none⟩ y6).setCell ⟨g, 7, none⟩ y7).setCell ⟨g, 8, none⟩ y8).setCell ⟨g, 9, none⟩ y9).setCell ⟨g, 10, none⟩ ya).setCell ⟨g, 11, none⟩ yb).setCell ⟨g, 12, none⟩ yc).setCell ⟨g, 13, none⟩ yd) = W1 ∧ W1.heap[g]? = some (.cells #[y0, y1, y2, y3, y4, y5, y6, y7, y8, y9, ya, yb, yc, yd] t (0, 0)) ∧ (∀ k, k ≠ g → W1.heap[k]? = W.heap[k]?) ∧ W1.heap.size = W.heap.size ∧ (∀ B a, Below B a W → B ≤ g → Below B a W1) ∧ (∀ q : Nat → Prop, ¬ q g → Ag q W W1) := by
  have e : putAll g 0 [y0, y1, y2, y3, y4, y5, y6, y7, y8, y9, ya, yb, yc, yd] W = ((((((((((((((W.setCell ⟨g, 0, none⟩ y0).setCell ⟨g, 1, none⟩ y1).setCell ⟨g, 2, none⟩ y2).setCell ⟨g, 3, none⟩ y3).setCell ⟨g, 4, none⟩ y4).setCell ⟨g, 5, none⟩ y5).setCell ⟨g, 6, none⟩ y6).setCell ⟨g, 7, none⟩ y7).setCell ⟨g, 8, none⟩ y8).setCell ⟨g, 9, none⟩ y9).setCell ⟨g, 10, none⟩ ya).setCell ⟨g, 11, none⟩ yb).setCell ⟨g, 12, none⟩ yc).setCell ⟨g, 13, none⟩ yd) := by simp only [putAll, Nat.reduceAdd]
  have e2 : setArr 0 [y0, y1, y2, y3, y4, y5, y6, y7, y8, y9, ya, yb, yc, yd] #[x0, x1, x2, x3, x4, x5, x6, x7, x8, x9, xa, xb, xc, xd] = #[y0, y1, y2, y3, y4, y5, y6, y7, y8, y9, ya, yb, yc, yd] := by simp [setArr]
  have h1 := putAll_same [y0, y1, y2, y3, y4, y5, y6, y7, y8, y9, ya, yb, yc, yd] 0 W _ h
  have h2 := fun k (hk : k ≠ g) => putAll_other hk [y0, y1, y2, y3, y4, y5, y6, y7, y8, y9, ya, yb, yc, yd] 0 W
  have h3 := putAll_size (g := g) [y0, y1, y2, y3, y4, y5, y6, y7, y8, y9, ya, yb, yc, yd] 0 W
  have h4 := fun B a (hb : Below B a W) (hg : B ≤ g) => putAll_below hg [y0, y1, y2, y3, y4, y5, y6, y7, y8, y9, ya, yb, yc, yd] 0 W hb
  have h5 := fun (q : Nat → Prop) (hq : ¬ q g) => putAll_ag hq [y0, y1, y2, y3, y4, y5, y6, y7, y8, y9, ya, yb, yc, yd] 0 W
  rw [e] at h1 h2 h3 h4 h5
  rw [e2] at h1
  exact ⟨_, rfl, h1, h2, h3, h4, h5⟩
abbrev zeroQue : Array Value := #[.slice none 0 0, .slice none 0 0, .int .i64 0, .slice none 0 0, .int .i64 0, .int .i64 0, .string ⟨#[]⟩, .slice none 0 0, .int .i64 0, .int .i64 0, .slice none 0 0, .slice none 0 0, .slice none 0 0, .int .i64 0]
/-- What the law's few has made, between its rounds: its own query's block g, its result's. -/
structure Cq (w : World) (g : Nat) (bx : Array Value) (cs : Array Value) (W : World) : Prop where
  k1 : W.heap[w.heap.size]? = some (.cells bx 63 (0, 0))
  k2 : W.heap[w.heap.size + 1]? = some (.cells zeroQue 63 (0, 0))
  k3 : W.heap[g]? = some (.cells cs 63 (0, 0))
  below : Below w.heap.size w W
  hg : w.heap.size + 2 ≤ g
section
variable {w W W' : World} {g : Nat} {bx cs : Array Value}
theorem Cq.lt (h : Cq w g bx cs W) : g < W.heap.size := (Array.getElem?_eq_some_iff.1 h.k3).1
theorem Cq.later (h : Cq w g bx cs W) (hb : Below W.heap.size W W') : Cq w g bx cs W' :=
  have := h.lt; have := h.hg
  ⟨(hb.block _ (by omega)).trans h.k1, (hb.block _ (by omega)).trans h.k2, (hb.block _ (by omega)).trans h.k3, Bt h.below hb, h.hg⟩
theorem Cq.grown (h : Cq w g bx cs W) {o : Option Nat} (hg : W.grownBy W' o) (ho : ∀ k, o = some k → g < k) : Cq w g bx cs W' :=
  have h1 := h.lt; have h2 := h.hg
  ⟨(hg.block _ (by omega) (fun e => by have := ho _ e.symm; omega)).trans h.k1, (hg.block _ (by omega) (fun e => by have := ho _ e.symm; omega)).trans h.k2, (hg.block _ (by omega) (fun e => by have := ho _ e.symm; omega)).trans h.k3,
    h.below.grown hg h.below.size (fun k e => by have := ho k e; omega), h.hg⟩
theorem Cq.set (h : Cq w g bx cs W) (i : Nat) (u : Value) (cs' : Array Value) (hcs : cs.setIfInBounds i u = cs') : Cq w g bx cs' (W.setCell ⟨g, i, none⟩ u) := by
  have h2 := h.hg
  subst hcs
  refine ⟨(heap_setCell_other _ _ _ _ (by show _ ≠ g; omega)).trans h.k1, (heap_setCell_other _ _ _ _ (by show _ ≠ g; omega)).trans h.k2, ?_, h.below.setCell (by show _ ≤ g; omega) _, h.hg⟩
  have := heap_setCell_same W g i cs 63 u h.k3
  exact this
end
theorem flatK {α : Type} {k : Nat} {f : α → List Value} (l : List α) (h : ∀ x ∈ l, (f x).length = k) : ∀ (j i : Nat) (hj : j < l.length), i < k → (l.flatMap f)[j * k + i]? = (f l[j])[i]? := by
  induction l with
  | nil => intro j i hj; simp at hj
  | cons u r ih =>
    intro j i hj hi
    rw [List.flatMap_cons]
    cases j with
    | zero =>
      rw [List.getElem?_append_left (by rw [h u (List.mem_cons_self)]; omega)]
      simp
    | succ j =>
      have e : (j + 1) * k + i = k + (j * k + i) := by rw [Nat.succ_mul]; omega
      rw [e, List.getElem?_append_right (by rw [h u (List.mem_cons_self)]; omega), h u (List.mem_cons_self), Nat.add_sub_cancel_left]
      exact ih (fun x hx => h x (List.mem_cons_of_mem _ hx)) j i (by simpa using hj) hi
theorem rows_owned {α : Type} {k : Nat} {f : α → List Value} {w : World} {base : Nat} {t : TypeId} {v : Value} {l : List α} (hf : ∀ x ∈ l, (f x).length = k) (h : w.ownsRow base t k v l.length (l.flatMap f)) (hl : l.length ≤ maxLen) (hn : l = [] → v = .slice none 0 0) : RowsAt k f (fun b => base ≤ b) w v l := by
  rcases Nat.eq_zero_or_pos l.length with h0 | h0
  · have : l = [] := List.length_eq_zero_iff.1 h0
    subst this
    rw [hn rfl]
    exact RowsAt.nil _ _ _ _
  · obtain ⟨g, cap, hv, hb, hg, hcap, _, hc⟩ := owns_cell_any h h0
    refine ⟨_, _, hv, hl, hcap, (fun e => by cases e), fun _ => ⟨g, 0, rfl, hg, hb, fun j hj i hi => ?_⟩⟩
    have hjk : j * k + i < l.length * k := by
      have := Nat.mul_le_mul_right k (show j + 1 ≤ l.length from hj)
      rw [Nat.succ_mul] at this; omega
    rw [Nat.zero_add, hc _ hjk]
    exact flatK l hf j i hj hi
/-- Lists of texts in a row of the call's own. -/
structure Setl (N : Nat) (p : Nat → Prop) (W : World) (lv : Value) (us : List Value) (ls : List (List ByteArray)) : Prop where
  own : W.ownsRow N 22 1 lv us.length us
  len : us.length = ls.length
  at_ : ∀ j (h : j < ls.length) (h' : j < us.length), SlP p W us[j] (ls[j].map .string)
theorem Setl.below {N : Nat} {q : Nat → Prop} {W W' : World} {lv : Value} {us : List Value} {ls : List (List ByteArray)} (h : Setl N q W lv us ls) (hb : Below W.heap.size W W') : Setl N q W' lv us ls :=
  ⟨owns_below h.own hb, h.len, fun j hj hj' => (h.at_ j hj hj').ag (Ag.new _ hb)⟩
theorem Setl.set {N : Nat} {q : Nat → Prop} {W : World} {lv : Value} {us : List Value} {ls : List (List ByteArray)} (h : Setl N q W lv us ls) {g i : Nat} (hg : g < N) (hq : ∀ b, q b → N ≤ b) (u : Value) : Setl N q (W.setCell ⟨g, i, none⟩ u) lv us ls :=
  ⟨ownsRow_setCell_below h.own (by show g < N; exact hg) _, h.len, fun j hj hj' => (h.at_ j hj hj').ag (Ag.set q W u (fun e => by have := hq _ e; simp only at this; omega))⟩
theorem SlP.blockLt {p : Nat → Prop} {w : World} {v : Value} {cs : List Value} (h : SlP p w v cs) : SlP (fun b => p b ∧ b < w.heap.size) w v cs := h.lt
/-- One list more in the row. -/
theorem Setl.more {N : Nat} {W W' : World} {lv lv' : Value} {us : List Value} {ls : List (List ByteArray)} {x : Value} {l : List ByteArray} {L : Nat}
    (h : Setl N (fun b => N ≤ b ∧ lv.ownBlock ≠ some b) W lv us ls) (hx : SlP (fun b => L ≤ b) W x (l.map .string)) (hL : ∀ g, lv.ownBlock = some g → g < L) (hNL : N ≤ L)
    (hown : W'.ownsRow N 22 1 lv' (us.length + 1) (us ++ [x])) (hg : W.grownBy W' lv.ownBlock) (hloc : lv'.ownBlock = lv.ownBlock ∨ lv'.ownBlock = some W.heap.size) :
    Setl N (fun b => N ≤ b ∧ lv'.ownBlock ≠ some b) W' lv' (us ++ [x]) (ls ++ [l]) := by
  have hag : Ag (fun b => lv.ownBlock ≠ some b) W W' := Ag.grown hg fun g e => by rw [e]; simp
  have key : ∀ {v cs}, SlP (fun b => N ≤ b ∧ lv.ownBlock ≠ some b) W v cs → SlP (fun b => N ≤ b ∧ lv'.ownBlock ≠ some b) W' v cs := fun h =>
    ((h.lt).ag (hag.weak fun b hb => hb.1.2)).weak fun b hb => ⟨hb.1.1, by
      rcases hloc with e | e
      · rw [e]; exact hb.1.2
      · rw [e]; intro e2; have := Option.some.inj e2; have := hb.2; omega⟩
  refine ⟨by simpa using hown, by simp [h.len], fun j hj hj' => ?_⟩
  by_cases hjl : j < us.length
  · have hjl' : j < ls.length := by have := h.len; omega
    rw [List.getElem_append_left hjl, List.getElem_append_left hjl']
    exact key (h.at_ j hjl' hjl)
  · have e1 : j = us.length := by simp at hj'; omega
    have e2 : j = ls.length := by have := h.len; omega
    rw [List.getElem_append_right (by omega), List.getElem_append_right (by omega)]
    simp only [e1, h.len, Nat.sub_self, List.getElem_cons_zero]
    exact key (hx.weak fun b hb => ⟨by have : L ≤ b := hb; omega, fun e => by have := hL b e; have : L ≤ b := hb; omega⟩)
/-- A list of lists in a row, as a query's sets. -/
theorem Setl.listed {N : Nat} {p q : Nat → Prop} {W : World} {lv : Value} {us : List Value} {ls : List (List ByteArray)} (h : Setl N p W lv us ls) (hpq : ∀ b, p b → q b) (hN : ∀ b, N ≤ b → q b) (hs : ∀ l ∈ ls, ∀ x ∈ l, x.size ≤ maxLen) (hl : ls.length ≤ maxLen) (hn : ls = [] → lv = .slice none 0 0) : SetsAt q W lv ls := by
  have hlen := h.len
  rcases Nat.eq_zero_or_pos us.length with h0 | h0
  · have hf0 : ls = [] := List.eq_nil_of_length_eq_zero (by omega)
    rw [hn hf0, hf0]
    exact SetsAt.nil _ _
  · obtain ⟨g, cap, hv, hb, hlt, hcap, hm, hc⟩ := owns_cell_any h.own h0
    refine ⟨_, cap, by rw [hv, hlen], by omega, by omega, (fun e => by cases e), fun _ => ⟨g, 0, rfl, hlt, hN g hb, fun j hj => ?_⟩⟩
    have hj' : j < us.length := by omega
    exact ⟨us[j], by rw [Nat.zero_add, hc j (by omega)]; simp [hj'], (h.at_ j hj hj').weak hpq, fun x hx => hs _ (List.getElem_mem hj) x hx⟩
theorem infoAgg : (Tryd.prog.info? 93).map (fun i => (i.zero, i.size, i.bytes)) = some (some (.agg #[.int .i64 0, .string ⟨#[]⟩]), 2, 24) := by kernel_rfl
theorem infoSet : (Tryd.prog.info? 22).map (fun i => (i.zero, i.size, i.bytes)) = some (some (.slice none 0 0), 1, 24) := by kernel_rfl
theorem aggs_snoc (l : List Tess.Agg) (k : Nat) (h : k < l.length) : ((l.take k).map Tess.cutAgg).flatMap aggF ++ [.int .i64 l[k].kind, .string (cutN 30 l[k].met)] = ((l.take (k + 1)).map Tess.cutAgg).flatMap aggF := by
  rw [List.take_succ_eq_append_getElem h, List.map_append, List.flatMap_append]; rfl
def isNames (l : List ByteArray) (v : Value) (s e : Nat) (W : World) : Prop := e ≤ W.heap.size ∧ SlP (fun b => s ≤ b ∧ b < e) W v ((namesN 30 10 l).map .string) ∧ CapOk v (namesN 30 10 l).length
theorem isNames_mono (l : List ByteArray) : FlX.Spec.mono (some (.inr (isNames l))) := fun _ _ _ _ _ ⟨h0, h, h1⟩ hb => ⟨Nat.le_trans h0 hb.size, SlP.ag h (Ag.new _ hb), h1⟩
def isFilX (n : Nat) (f : Fil) (v : Value) (s e : Nat) (W : World) : Prop := e ≤ W.heap.size ∧ FilAt (fun b => s ≤ b ∧ b < e) n W v f
theorem isFilX_mono (n : Nat) (f : Fil) : FlX.Spec.mono (some (.inr (isFilX n f))) := fun _ _ _ _ _ ⟨h0, h⟩ hb => ⟨Nat.le_trans h0 hb.size, FilAt.ag h (Ag.new _ hb)⟩
def newAtX (cs : Array Value) (t : TypeId) (v : Value) (s e : Nat) (w : World) : Prop := ∃ g, v = .pointer (some ⟨g, 0, none⟩) ∧ s ≤ g ∧ g < e ∧ w.heap[g]? = some (.cells cs t (0, 0))
theorem newAtX_mono (cs : Array Value) (t : TypeId) : FlX.Spec.mono (some (.inr (newAtX cs t))) := fun _ _ _ _ _ ⟨g, h1, h2, h3, h4⟩ hb => ⟨g, h1, h2, h3, (hb.block g (Array.getElem?_eq_some_iff.1 h4).1).trans h4⟩
def isNamesF (N : Nat) (l : List ByteArray) (v : Value) (W : World) : Prop := SlP (fun b => N ≤ b) W v ((namesN 30 10 l).map .string)
theorem isNamesF_mono (N : Nat) (l : List ByteArray) : Flow.Spec.mono (.inr (isNamesF N l)) := fun _ _ _ h hb => SlP.ag h (Ag.new _ hb)
/-- A new row of one list. -/
def newNames (N : Nat) (l : List ByteArray) (v : Value) (W : World) : Prop := ∃ gn x, v = .slice (some ⟨gn, 0, none⟩) 1 1 ∧ gn < W.heap.size ∧ SlP (fun b => N ≤ b) W x ((namesN 30 10 l).map .string) ∧ W.cell? ⟨gn, 0, none⟩ = some x
theorem newNames_mono (N : Nat) (l : List ByteArray) : Flow.Spec.mono (.inr (newNames N l)) := fun _ _ _ ⟨gn, x, h1, h2, h3, h4⟩ hb => ⟨gn, x, h1, Nat.lt_of_lt_of_le h2 hb.size, h3.ag (Ag.new _ hb), (hb.cell (p := ⟨gn, 0, none⟩) h2).trans h4⟩
end Go.Proofs.YtdfnolgcdododaaDoor
namespace Go.Proofs.YtdfnolgcdododaaDoor
open Go.RowKit Go.Sort
open Tess (Fil Que)

/-- What the rounds leave alone. -/
structure Kept (q : Nat → Prop) (W : World) (vn : Value) (ls : List ByteArray) (fv : Value) (f : Fil) : Prop where
  names : SlP q W vn (ls.map .string)
  fil : FilAt q 8 W fv f
theorem Kept.ag {q : Nat → Prop} {W W' : World} {vn fv : Value} {ls : List ByteArray} {f : Fil} (h : Kept q W vn ls fv f) (hg : Ag q W W') : Kept q W' vn ls fv f := ⟨h.names.ag hg, h.fil.ag hg⟩
theorem Kept.weak {p q : Nat → Prop} {W : World} {vn fv : Value} {ls : List ByteArray} {f : Fil} (h : Kept p W vn ls fv f) (hpq : ∀ b, p b → q b) : Kept q W vn ls fv f := ⟨h.names.weak hpq, h.fil.weak hpq⟩
theorem Kept.lt {q : Nat → Prop} {W : World} {vn fv : Value} {ls : List ByteArray} {f : Fil} (h : Kept q W vn ls fv f) : Kept (fun b => q b ∧ b < W.heap.size) W vn ls fv f := ⟨h.names.lt, h.fil.lt⟩

/-- What the law's few queries are. -/
def FewPost (p : Nat → Prop) (q : Que) (w : World) (e : Ending) (w' : World) : Prop :=
  ∃ v' va vb vS f0 f1 f2 f3 f4 f5 vh vo, e = .returned v' ∧ QueAt (fun b => p b ∨ w.heap.size ≤ b) 8 w' v' (Que.few q) va vb vS f0 f1 f2 f3 f4 f5 vh vo ∧ CapOk vb (Que.few q).names.length ∧ Below w.heap.size w w'
theorem few_post {p : Nat → Prop} {q : Que} {w w' : World} {va vb vS f0 f1 f2 f3 f4 f5 vh vo : Value} (h1 : RowsAt 2 aggF (fun b => w.heap.size + 2 ≤ b) w' va ((q.aggs.take 10).map Tess.cutAgg)) (h2 : SlP (fun b => w.heap.size + 2 ≤ b) w' vb ((namesN 30 10 q.names).map .string))
    (h3 : SetsAt (fun b => w.heap.size + 2 ≤ b) w' vS ((q.sets.take 10).map (namesN 30 10))) (h4 : FilAt (fun b => w.heap.size + 2 ≤ b) 8 w' (.agg #[f0, f1, f2, f3, f4, f5]) (Fil.few q.fil)) (h5 : RowsAt 3 condF (fun b => p b ∧ b < w.heap.size) w' vh (q.conds.take 10)) (h6 : RowsAt 3 keyF (fun b => p b ∧ b < w.heap.size) w' vo (q.keys.take 10))
    (hc : CapOk vb (namesN 30 10 q.names).length) (hB : Below w.heap.size w w') : FewPost p q w (.returned (.agg #[va, vb, .int .i64 q.mode, vS, .int .i64 q.every, f0, f1, f2, f3, f4, f5, vh, vo, .int .i64 q.limit])) w' := by
  have key : ∀ b, w.heap.size + 2 ≤ b → p b ∨ w.heap.size ≤ b := fun b h => .inr (by omega)
  refine ⟨_, va, vb, vS, f0, f1, f2, f3, f4, f5, vh, vo, rfl, ⟨rfl, h1.weak key, fun x hx => ?_, h2.weak key, names_small 30 10 q.names (by omega), h3.weak key, h4.weak key, h5.weak fun b h => .inl h.1, h6.weak fun b h => .inl h.1⟩, hc, hB⟩
  obtain ⟨y, _, rfl⟩ := List.mem_map.1 hx
  have := cutN_size 30 y.met
  show (cutN 30 y.met).size ≤ maxLen
  unfold maxLen; omega
theorem min_cast (n m : Nat) (h : m = min 10 n) : min (n : Int) 10 = (m : Int) := by subst h; omega
set_option maxRecDepth 100000 in
set_option maxHeartbeats 8000000 in
theorem few15_any (p : Nat → Prop) (n : Nat) (v : Value) (q : Que) (va vb vS f0 f1 f2 f3 f4 f5 vh vo : Value) (w : World) (hq : QueAt p n w v q va vb vS f0 f1 f2 f3 f4 f5 vh vo) :
    Calls Tryd.prog 24 #[v] w (FewPost p q w) := by
  have HNM := Lib.hid (fun W (hB : Below w.heap.size w W) => names15_any p vb q.names W (hq.names.ag (Ag.new p hB)) hq.small)
  have HFE := Lib.hid (fun W (hB : Below w.heap.size w W) => few_any p n (.agg #[f0, f1, f2, f3, f4, f5]) q.fil W (hq.fil.ag (Ag.new p hB)))
  have hnm := hq.names
  have HSM := Lib.hid (fun (W : World) (hB : Below w.heap.size w W) (l : List ByteArray) c (h : SlP p w c (l.map .string)) (hs : ∀ x ∈ l, x.size ≤ maxLen) => names15_any p c l W (h.ag (Ag.new p hB)) hs)
  obtain ⟨ab, cb, rfl, hnb, _⟩ := sls_open hq.names.1
  have hv := hq.e
  have HAG := Lib.hid hq.aggs
  have HMT := Lib.hid hq.mets
  have HST := Lib.hid hq.sets
  have HCD := Lib.hid hq.conds
  have HKY := Lib.hid hq.keys
  obtain ⟨aa, ca, rfl⟩ := hq.aggs.shape
  obtain ⟨aS, cS, rfl⟩ := hq.sets.shape
  have hna := hq.aggs.len
  have hnS := hq.sets.len
  have hnh := hq.conds.len
  have hno := hq.keys.len
  obtain ⟨mh, hmh⟩ : ∃ m, m = min 10 q.conds.length := ⟨_, rfl⟩
  obtain ⟨mo, hmo⟩ : ∃ m, m = min 10 q.keys.length := ⟨_, rfl⟩
  have HHT := Lib.hid (hq.conds.take mh (by omega))
  have HOT := Lib.hid (hq.keys.take mo (by omega))
  obtain ⟨ah, ch, rfl, _, hch, _⟩ := hq.conds
  obtain ⟨ao, co, rfl, _, hco, _⟩ := hq.keys
  obtain ⟨ah', ch', eh, hT⟩ := HHT.out
  simp only [Value.slice.injEq] at eh
  obtain ⟨rfl, _, rfl⟩ := eh
  obtain ⟨ao', co', eo, oT⟩ := HOT.out
  simp only [Value.slice.injEq] at eo
  obtain ⟨rfl, _, rfl⟩ := eo
  have HHT := Lib.hid hT
  have HOT := Lib.hid oT
  clear hT oT
  have hmhi := min_cast _ _ hmh
  have hmoi := min_cast _ _ hmo
  have hmhc : (mh : Int) ≤ (ch : Int) := Int.ofNat_le.2 (Nat.le_trans (hmh ▸ Nat.min_le_right _ _) hch)
  have hmoc : (mo : Int) ≤ (co : Int) := Int.ofNat_le.2 (Nat.le_trans (hmo ▸ Nat.min_le_right _ _) hco)
  have HMH := Lib.hid hmh
  have HMO := Lib.hid hmo
  obtain ⟨xf0, xf1, xf2, xf3, xf4, xf5⟩ : True ∧ True ∧ True ∧ True ∧ True ∧ True := ⟨trivial, trivial, trivial, trivial, trivial, trivial⟩
  clear xf0 xf1 xf2 xf3 xf4 xf5
  have hf6 := FilAt.shape6 hq.fil
  obtain ⟨z0, z1, z2, z3, z4, ez⟩ := hf6
  simp only [Value.agg.injEq, Array.mk.injEq, List.cons.injEq, and_true] at ez
  obtain ⟨rfl, rfl, rfl, rfl, rfl, rfl⟩ := ez
  subst hv
  clear hq hnm hmh hmo hch hco
  obtain ⟨i0, hi, hz0, hz1, hz2⟩ := info_parts infoAgg
  obtain ⟨j0, ji, jz0, jz1, jz2⟩ := info_parts infoSet
  obtain ⟨bx, hbx⟩ : ∃ bx : Array Value, bx = #[.slice aa q.aggs.length ca, .slice ab q.names.length cb, .int .i64 q.mode, .slice aS q.sets.length cS, .int .i64 q.every, .int .i64 q.fil.kind, .string q.fil.name, .slice z0 z1 z2, .int .i64 q.fil.frm, .int .i64 q.fil.to, .slice z3 q.fil.l.length z4, .slice ah q.conds.length ch, .slice ao q.keys.length co, .int .i64 q.limit] := ⟨_, rfl⟩
  obtain ⟨W0, hW0⟩ : ∃ W0, (w.alloc (.cells #[.slice aa q.aggs.length ca, .slice ab q.names.length cb, .int .i64 q.mode, .slice aS q.sets.length cS, .int .i64 q.every, .int .i64 q.fil.kind, .string q.fil.name, .slice z0 z1 z2, .int .i64 q.fil.frm, .int .i64 q.fil.to, .slice z3 q.fil.l.length z4, .slice ah q.conds.length ch, .slice ao q.keys.length co, .int .i64 q.limit] 63)).alloc (.cells zeroQue 63) = W0 := ⟨_, rfl⟩
  obtain ⟨h0, h1, hS0, hB0⟩ := laid2 w (.cells #[.slice aa q.aggs.length ca, .slice ab q.names.length cb, .int .i64 q.mode, .slice aS q.sets.length cS, .int .i64 q.every, .int .i64 q.fil.kind, .string q.fil.name, .slice z0 z1 z2, .int .i64 q.fil.frm, .int .i64 q.fil.to, .slice z3 q.fil.l.length z4, .slice ah q.conds.length ch, .slice ao q.keys.length co, .int .i64 q.limit] 63) (.cells zeroQue 63)
  rw [hW0] at h0 h1 hS0 hB0
  go_enter Tryd.func24, Tryd.ntmps24
  go_wp2_with fail
  clear hW0
  obtain ⟨c0, c1, c2, c3, c4, c5, c6, c7, c8, c9, ca', cb', cc', cd'⟩ := (can14 h0).1
  have s0 : w.heap.size < W0.heap.size := by omega
  have HB := Lib.hid hB0
  have HS := Lib.hid hS0
  have H0 := Lib.hid h0
  have H1 := Lib.hid h1
  have HBX := Lib.hid hbx
  clear h0 h1 hS0 hB0 hbx
  refine FlX.wp_region_flow_tail 28 (FlX.specs [some (.inl ?_), some (.inl ?_), some (.inr (isNames q.names)), some (.inl ?_), some (.inl ?_), some (.inl ?_), some (.inl ?_), some (.inl ?_), some (.inl ?_), some (.inr (isFilX 8 (Fil.few q.fil))), some (.inl ?_), some (.inl ?_), some (.inl ?_), some (.inl ?_), some (.inl ?_), some (.inl ?_), some (.inl ?_), some (.inl ?_), some (.inl ?_), some (.inl ?_), some (.inl ?_), some (.inl ?_), some (.inl ?_), some (.inl ?_), some (.inl ?_), some (.inl ?_), none, some (.inr (newAtX zeroQue 63))]) (by kernel_rfl) (by kernel_rfl) ?_ ?_
  rotate_left 24
  · refine FlX.specs_mono ?_
    repeat (first | exact FlX.lmono_nil | refine FlX.lmono_inl ?_ | refine FlX.lmono_none ?_ | refine FlX.lmono_inr (isNames_mono _) ?_ | refine FlX.lmono_inr (isFilX_mono _ _) ?_ | refine FlX.lmono_inr (newAtX_mono _ _) ?_)
  all_goals try simp only [List.take_succ_cons, List.take_zero, List.drop_succ_cons, List.drop_zero]
  iterate 2 (refine FlX.tree_valK rfl (fun K hK => ⟨fun w hw hG => ?_, ?_⟩); (have hcl := Flow.bcell hw; clear hG hw; unfold FlX.RunsV Flow.yields; go_simp; try rfl); go_simp; refine hK _ ?_; clear hK K)
  (refine FlX.tree_varK rfl (fun K hK => ⟨fun w hw hG => ?_, ?_⟩); (have HW := Lib.hid hw; clear hG hw; unfold FlX.RunsR Flow.yields; go_simp; refine (HNM.out _ (Bt HB.out HW.out)).mono ?_; rintro e w3 ⟨v3, rfl, hf3, hcp, hb3⟩; exact ⟨v3, rfl, hb3, Nat.le_refl _, hf3.lt, hcp⟩); intro vz; go_simp; refine hK _ _ ?_; clear hK K)
  iterate 6 (refine FlX.tree_valK rfl (fun K hK => ⟨fun w hw hG => ?_, ?_⟩); (have hcl := Flow.bcell hw; clear hG hw; unfold FlX.RunsV Flow.yields; go_simp; try rfl); go_simp; refine hK _ ?_; clear hK K)
  (refine FlX.tree_varK rfl (fun K hK => ⟨fun w hw hG => ?_, ?_⟩); (have HW := Lib.hid hw; clear hG hw; unfold FlX.RunsR Flow.yields; go_simp; refine (HFE.out _ (Bt HB.out HW.out)).mono ?_; rintro e w3 ⟨v3, rfl, hf3, hb3⟩; exact ⟨v3, rfl, hb3, Nat.le_refl _, hf3.lt⟩); intro vf; go_simp; refine hK _ _ ?_; clear hK K)
  iterate 16 (refine FlX.tree_valK rfl (fun K hK => ⟨fun w hw hG => ?_, ?_⟩); (have hcl := Flow.bcell hw; clear hG hw; unfold FlX.RunsV Flow.yields; go_simp; try rfl); go_simp; refine hK _ ?_; clear hK K)
  (refine FlX.tree_pureK rfl (fun K hK => ⟨fun w hw hG => ?_, ?_⟩); (obtain ⟨sz, ez, hvz⟩ := (show ∃ b e, isNames q.names vz b e w by simpa [FlX.upd] using hG 2 (by kernel_rfl)); obtain ⟨sf, ef, hvf⟩ := (show ∃ b e, isFilX 8 (Fil.few q.fil) vf b e w by simpa [FlX.upd] using hG 9 (by kernel_rfl)); obtain ⟨y0, y1, y2, y3, y4, rfl⟩ := FilAt.shape6 hvf.2; obtain ⟨n0, n1, n2, rfl⟩ := SlP.shape hvz.2.1; clear hvz hvf hG; refine ⟨by simp [Region.wanted], _, by (go_simp; rfl), by go_simp⟩); intro vy hvy; go_simp; refine hK _ ?_; clear hK K)
  (refine FlX.tree_varK rfl (fun K hK => ⟨fun w hw hG => ?_, ?_⟩); (clear hG; unfold FlX.RunsR Flow.yields; go_simp; refine ⟨(Below.refl _ _).alloc (Nat.le_refl _) _, ?_⟩); rotate_left; intro vp; go_simp; refine hK _ _ ?_; clear hK K; rotate_left)
  · exact ⟨_, rfl, Nat.le_refl _, by simp, heap_alloc_new _ _⟩
  refine FlX.tree_nil fun w2 hw2 hG => ?_
  obtain ⟨I, hI⟩ := hG
  obtain ⟨hz0, hvz, hcap⟩ := (show isNames q.names vz _ _ w2 by simpa [FlX.upd] using hI.holds 2)
  have HCAP := Lib.hid hcap
  clear hcap
  obtain ⟨hf0, hvf⟩ := (show isFilX 8 (Fil.few q.fil) vf _ _ w2 by simpa [FlX.upd] using hI.holds 9)
  obtain ⟨g, rfl, hg1, hg2, hk3⟩ := (show newAtX zeroQue 63 vp _ _ w2 by simpa [FlX.upd] using hI.holds 27)
  have hap := hI.apart 2 27 (by decide)
  have haq := hI.apart 9 27 (by decide)
  have hl2 := hI.le 2
  have hl9 := hI.le 9
  have hl27 := hI.le 27
  have hS := HS.out
  have hK0 : Kept (fun b => w.heap.size + 2 ≤ b ∧ b ≠ g ∧ b < w2.heap.size) w2 vz (namesN 30 10 q.names) vf (Fil.few q.fil) :=
    ⟨hvz.weak fun b hb => ⟨by have := hb.1; omega, by have := hb.1; have := hb.2; omega, by have := hb.2; omega⟩, hvf.weak fun b hb => ⟨by have := hb.1; omega, by have := hb.1; have := hb.2; omega, by have := hb.2; omega⟩⟩
  have hgb : w.heap.size + 2 ≤ g := by omega
  obtain ⟨u0, u1, u2, u3, u4, rfl⟩ := FilAt.shape6 hvf
  obtain ⟨n0, n1, n2, rfl⟩ := SlP.shape hvz
  obtain rfl := hvy _ (by go_simp; rfl)
  clear hvy hvf hvz hz0 hf0 hI hap haq hl2 hl9 hl27 hg1 hg2
  have HK0 := Lib.hid hK0
  have HBW := Lib.hid hw2
  have h0 := (hw2.block _ (by omega)).trans H0.out
  have h1 := (hw2.block _ (by omega)).trans H1.out
  have HH0 := Lib.hid h0
  have HH1 := Lib.hid h1
  clear hK0 hw2 h0 h1 hS c0 c1 c2 c3 c4 c5 c6 c7 c8 c9 ca' cb' cc' cd'
  obtain ⟨⟨d0, d1, d2, d3, d4, d5, d6, d7, d8, d9, da, db, dc, dd⟩, zf⟩ := can14 hk3
  have zz0 := zf 0 (by omega)
  have zz1 := zf 1 (by omega)
  have zz2 := zf 2 (by omega)
  have zz3 := zf 3 (by omega)
  have zz4 := zf 4 (by omega)
  have zz5 := zf 5 (by omega)
  have zz6 := zf 6 (by omega)
  have zz7 := zf 7 (by omega)
  have zz8 := zf 8 (by omega)
  have zz9 := zf 9 (by omega)
  have zza := zf 10 (by omega)
  have zzb := zf 11 (by omega)
  have zzc := zf 12 (by omega)
  have zzd := zf 13 (by omega)
  clear zf
  go_wp2
  obtain ⟨W1, hW1, hk3', hko, hsz, hbl, hag⟩ := put14 (.slice none 0 0) (.slice n0 n1 n2) (.int .i64 q.mode) (.slice none 0 0) (.int .i64 q.every) (.int .i64 (Fil.few q.fil).kind) (.string (Fil.few q.fil).name) (.slice u0 u1 u2) (.int .i64 (Fil.few q.fil).frm) (.int .i64 (Fil.few q.fil).to) (.slice u3 (Fil.few q.fil).l.length u4) (.slice ah mh ch) (.slice ao mo co) (.int .i64 q.limit) hk3
  rw [hW1]
  have hgl : g < w2.heap.size := (Array.getElem?_eq_some_iff.1 hk3).1
  have HC1 := Lib.hid (show Cq w g bx #[.slice none 0 0, .slice n0 n1 n2, .int .i64 q.mode, .slice none 0 0, .int .i64 q.every, .int .i64 (Fil.few q.fil).kind, .string (Fil.few q.fil).name, .slice u0 u1 u2, .int .i64 (Fil.few q.fil).frm, .int .i64 (Fil.few q.fil).to, .slice u3 (Fil.few q.fil).l.length u4, .slice ah mh ch, .slice ao mo co, .int .i64 q.limit] W1 from ⟨(hko _ (by omega)).trans (by rw [HBX.out]; exact HH0.out), (hko _ (by omega)).trans HH1.out, hk3', hbl _ _ (Bt HB.out HBW.out) (by omega), hgb⟩)
  obtain ⟨N1, hN1⟩ : ∃ N, N = W1.heap.size := ⟨_, rfl⟩
  have HK1 : RowKit.Hid (Kept (fun b => w.heap.size + 2 ≤ b ∧ b ≠ g ∧ b < N1) W1 (.slice n0 n1 n2) (namesN 30 10 q.names) (.agg #[.int .i64 (Fil.few q.fil).kind, .string (Fil.few q.fil).name, .slice u0 u1 u2, .int .i64 (Fil.few q.fil).frm, .int .i64 (Fil.few q.fil).to, .slice u3 (Fil.few q.fil).l.length u4]) (Fil.few q.fil)) := Lib.hid (by rw [hN1, hsz]; exact HK0.out.ag (hag _ (fun h => h.2.1 rfl)))
  have hgN : g < N1 := by omega
  have hN1' : N1 ≤ W1.heap.size := by omega
  clear hW1 hk3' hko hsz hbl hag hN1 hgl zz0 zz1 zz2 zz3 zz4 zz5 zz6 zz7 zz8 zz9 zza zzb zzc zzd d0 d1 d2 d3 d4 d5 d6 d7 d8 d9 da db dc dd hk3 HK0 HH0 HH1 HBW
  have hna' : q.aggs.length ≤ 9223372036854775807 := hna
  go_loopw [4] (fun i wr => ∃ (k : Nat) (oa : Value), k ≤ q.aggs.length ∧ k ≤ 10 ∧ i = .int .i64 k ∧ Cq w g bx #[oa, .slice n0 n1 n2, .int .i64 q.mode, .slice none 0 0, .int .i64 q.every, .int .i64 (Fil.few q.fil).kind, .string (Fil.few q.fil).name, .slice u0 u1 u2, .int .i64 (Fil.few q.fil).frm, .int .i64 (Fil.few q.fil).to, .slice u3 (Fil.few q.fil).l.length u4, .slice ah mh ch, .slice ao mo co, .int .i64 q.limit] wr ∧ wr.ownsRow N1 93 2 oa k (((q.aggs.take k).map Tess.cutAgg).flatMap aggF) ∧ (k = 0 → oa = .slice none 0 0) ∧ Kept (fun b => w.heap.size + 2 ≤ b ∧ b ≠ g ∧ b < N1) wr (.slice n0 n1 n2) (namesN 30 10 q.names) (.agg #[.int .i64 (Fil.few q.fil).kind, .string (Fil.few q.fil).name, .slice u0 u1 u2, .int .i64 (Fil.few q.fil).frm, .int .i64 (Fil.few q.fil).to, .slice u3 (Fil.few q.fil).l.length u4]) (Fil.few q.fil) ∧ N1 ≤ wr.heap.size) (fun i _ => 10 - (intOf i).toNat)
  case atStart => exact ⟨0, _, Nat.zero_le _, Nat.zero_le _, rfl, HC1.out, by simpa using World.ownsRow_nil W1 N1 93 2, fun _ => rfl, HK1.out, hN1'⟩
  case round =>
    clear HC1 HK1 hN1'
    obtain ⟨k, oa, hk, hk10, rfl, hC, hown, hnil, hK, hszr⟩ := hrel
    have HC := Lib.hid hC
    have HO := Lib.hid hown
    have HN := Lib.hid hnil
    have HK := Lib.hid hK
    clear hC hown hnil hK
    have hgw := HC.out.lt
    have hsw : w.heap.size < wr.heap.size := by omega
    have bx1 := HC.out.k1
    rw [HBX.out] at bx1
    obtain ⟨c0, _, _, c3, _⟩ := (can14 bx1).1
    obtain ⟨⟨e0, _⟩, zf⟩ := can14 HC.out.k3
    have ez := zf 0 (by omega)
    clear zf bx1
    by_cases hlt : k < q.aggs.length ∧ k < 10
    · obtain ⟨h1, h2⟩ := hlt
      obtain ⟨_, _, eqa, _, _, _, hc⟩ := HAG.out
      simp only [Value.slice.injEq] at eqa
      obtain ⟨rfl, _, rfl⟩ := eqa
      obtain ⟨b, off, rfl, hb, _, hcell⟩ := hc (by omega)
      have hck : wr.cell? ⟨b, off + k * 2, none⟩ = some (.int .i64 q.aggs[k].kind) := (HC.out.below.cell (p := ⟨b, off + k * 2, none⟩) hb).trans (hcell k h1 0 (by omega))
      have hcm : wr.cell? ⟨b, off + k * 2 + 1, none⟩ = some (.string q.aggs[k].met) := (HC.out.below.cell (p := ⟨b, off + k * 2 + 1, none⟩) hb).trans (hcell k h1 1 (by omega))
      have hmk : q.aggs[k].met.size ≤ 9223372036854775807 := HMT.out _ (List.getElem_mem h1)
      have hbw : b < wr.heap.size := Nat.lt_of_lt_of_le hb HC.out.below.size
      clear hcell hb hc
      obtain ⟨x, hx⟩ : ∃ x, x = cutN 30 q.aggs[k].met := ⟨_, rfl⟩
      have HE := Lib.hid (aggs_snoc q.aggs k h1)
      rw [← hx] at HE
      have HX := Lib.hid hx
      clear hx
      generalize q.aggs[k].met = xs at *
      generalize q.aggs[k].kind = xk at *
      go_wp2
      rcases (show ((30 : Int) < (xs.size : Int) ∧ (¬ (xs.size : Int) ≤ 30 ∧ (30 : Int) ≤ (xs.size : Int)) ∧ min (xs.size : Int) 30 = 30) ∨ (¬ (30 : Int) < (xs.size : Int) ∧ (xs.size : Int) ≤ 30 ∧ min (xs.size : Int) 30 = (xs.size : Int)) by omega) with ⟨h3i, h3j, hmin⟩ | ⟨h3i, h3j, hmin⟩
      all_goals
        refine Flow.wp_region_flow_tail 25 (Flow.specs [.inl ?_, .inl ?_, .inl ?_, .inl ?_, .inl ?_, .inl ?_, .inl ?_, .inl ?_, .inl ?_, .inl ?_, .inl ?_, .inl ?_, .inl ?_, .inl ?_, .inl ?_, .inl ?_, .inl ?_, .inl ?_, .inl ?_, .inl ?_, .inl ?_, .inl ?_, .inl ?_, .inl ?_, .inr (newTwo (.int .i64 xk) (.string x))]) (by kernel_rfl) (by kernel_rfl) ?_ ?_
        rotate_left 24
        · refine Flow.specs_mono ?_
          repeat (first | exact Flow.lmono_nil | refine Flow.lmono_inl ?_ | refine Flow.lmono_inr (newTwo_mono _ _) ?_)
        all_goals try simp only [List.take_succ_cons, List.take_zero, List.drop_succ_cons, List.drop_zero]
        iterate 24 (refine Flow.tree_valK rfl (fun K hK => ⟨fun w hw hG => ?_, ?_⟩); (have hcl := Flow.bcell hw; clear hG hw; unfold Flow.Runs Flow.yields; go_simp; try rfl); go_simp; refine hK _ ?_; clear hK K)
        (refine Flow.tree_varK rfl (fun K hK => ⟨fun w hw hG => ?_, ?_⟩); (clear hG hw; unfold Flow.Runs Flow.yields; go_simp; refine ⟨(Below.refl _ _).alloc (Nat.le_refl _) _, ?_⟩; rw [HX.out]); rotate_left; intro vz; go_simp; refine hK _ _ ?_; clear hK K; rotate_left)
        · first | exact newTwo_mk _ _ _ _ | (rw [cutN_self _ _ (by omega)]; exact newTwo_mk _ _ _ _)
        refine Flow.tree_nil fun w2 hw2 hG => ?_
        obtain ⟨gn, rfl, hgn, hcn, hcp⟩ := (show newTwo (.int .i64 xk) (.string x) vz w2 by simpa [Flow.upd] using hG 24)
        clear hG
        have HO2 := Lib.hid (owns_below HO.out hw2)
        have HC2 := Lib.hid (HC.out.later hw2)
        have HK2 := Lib.hid (HK.out.ag (Ag.new _ hw2))
        have hsz2 := hw2.size
        go_wp2_with (at_builtin; refine wpList_append_own _ rfl _ _ 58 rfl N1 93 i0 (.agg #[.int .i64 0, .string ⟨#[]⟩]) 2 24 Tryd.underlying58 hi hz0 hz1 hz2 rfl (by decide) _ _ _ rfl HO2.out ⟨gn, 0, none⟩ 1 1 [.int .i64 xk, .string x] rfl rfl ?_ ?_ ?_ ?_ ?_ ?_)
        · intro j u hj; rcases j with _ | _ | j <;> simp at hj <;> subst hj; simpa [Addr.add] using hcn; simpa [Addr.add] using hcp
        · simp [Value.oneCell']
        · unfold maxLen; omega
        · omega
        · omega
        intro v' w3 hown3 hgrow _
        obtain ⟨gg, cp, rfl, _⟩ := owns_cell_any hown3 (by omega)
        have HC3 := Lib.hid (HC2.out.grown hgrow (fun j e => by have := (HO2.out.lt j e).1; omega))
        have hown3 : w3.ownsRow N1 93 2 (.slice (some ⟨gg, 0, none⟩) (k + 1) cp) (k + 1) (((q.aggs.take (k + 1)).map Tess.cutAgg).flatMap aggF) := by rw [← HE.out, List.map_take]; exact hown3
        have HO3 := Lib.hid hown3
        have hsz3 := hgrow.size
        have HK3 := Lib.hid (HK2.out.ag (Ag.grown hgrow (fun j e => by have := (HO2.out.lt j e).1; rintro ⟨_, _, h⟩; omega)))
        clear hown3 hgrow
        obtain ⟨⟨f0, _⟩, zf⟩ := can14 HC3.out.k3
        have fz := zf 0 (by omega)
        clear zf
        go_wp2
        go_roundw
        case rel => exact ⟨k + 1, _, by omega, by omega, by go_num, HC3.out.set 0 _ _ rfl, ownsRow_setCell_below HO3.out (by show g < _; omega) _, fun h => by omega, HK3.out.ag (Ag.set _ _ _ (fun h => h.2.1 rfl)), by simp [World.setCell]; omega⟩
        case measure => simp [intOf]; omega
    · have hak : q.aggs.take k = q.aggs.take 10 := by
        by_cases e : k = 10
        · rw [e]
        · rw [List.take_of_length_le (by omega), List.take_of_length_le (by omega)]
      have hal : ((q.aggs.take k).map Tess.cutAgg).length = k := by simp; omega
      have hrA := (rows_owned (k := 2) (f := aggF) (l := (q.aggs.take k).map Tess.cutAgg) (fun _ _ => rfl) (by rw [hal]; exact HO.out) (by rw [hal]; unfold maxLen; omega) (fun e => HN.out (by rw [← hal, e]; rfl))).lt
      rw [hak] at hrA
      obtain ⟨N2, hN2⟩ : ∃ N2, N2 = wr.heap.size := ⟨_, rfl⟩
      rw [← hN2] at hrA
      have HRA0 := Lib.hid hrA
      have hNN : N1 ≤ N2 := by omega
      have hN2' : N2 ≤ wr.heap.size := by omega
      obtain ⟨wo, rfl⟩ : ∃ wo : World, wo = wr := ⟨_, rfl⟩
      have HCo := Lib.hid HC.out
      have HKo := Lib.hid HK.out
      have hnS' : q.sets.length ≤ 9223372036854775807 := hnS
      clear HO HN HC HK hak hal hrA hN2 hszr hgw
      rcases (show (¬ (k : Int) < (q.aggs.length : Int)) ∨ ((k : Int) < (q.aggs.length : Int) ∧ ¬ (k : Int) < 10) by omega) with hni | ⟨hkl, hni⟩
      all_goals
        clear hlt
        go_wp2
        go_loopw [5] (fun i wq => ∃ (k : Nat) (os : Value) (us : List Value), k ≤ q.sets.length ∧ k ≤ 10 ∧ i = .int .i64 k ∧ Cq w g bx #[oa, .slice n0 n1 n2, .int .i64 q.mode, os, .int .i64 q.every, .int .i64 (Fil.few q.fil).kind, .string (Fil.few q.fil).name, .slice u0 u1 u2, .int .i64 (Fil.few q.fil).frm, .int .i64 (Fil.few q.fil).to, .slice u3 (Fil.few q.fil).l.length u4, .slice ah mh ch, .slice ao mo co, .int .i64 q.limit] wq ∧ Setl N2 (fun b => N2 ≤ b ∧ os.ownBlock ≠ some b) wq os us ((q.sets.take k).map (namesN 30 10)) ∧ (k = 0 → os = .slice none 0 0) ∧ Kept (fun b => w.heap.size + 2 ≤ b ∧ b ≠ g ∧ b < N1) wq (.slice n0 n1 n2) (namesN 30 10 q.names) (.agg #[.int .i64 (Fil.few q.fil).kind, .string (Fil.few q.fil).name, .slice u0 u1 u2, .int .i64 (Fil.few q.fil).frm, .int .i64 (Fil.few q.fil).to, .slice u3 (Fil.few q.fil).l.length u4]) (Fil.few q.fil) ∧ RowsAt 2 aggF (fun b => N1 ≤ b ∧ b < N2) wq oa ((q.aggs.take 10).map Tess.cutAgg) ∧ N2 ≤ wq.heap.size) (fun i _ => 10 - (intOf i).toNat)
        case atStart => exact ⟨0, _, [], Nat.zero_le _, Nat.zero_le _, rfl, HCo.out, ⟨World.ownsRow_nil wo N2 22 1, rfl, fun j h => absurd h (by simp)⟩, fun _ => rfl, HKo.out, HRA0.out, hN2'⟩
        case round =>
          clear HCo HKo HRA0 hN2' hni c0 c3 e0 ez hsw
          obtain ⟨k, os, us, hk, hk10, rfl, hC, hF, hnil, hK, hRA, hszr⟩ := hrel
          have HC := Lib.hid hC
          have HF := Lib.hid hF
          have HN := Lib.hid hnil
          have HK := Lib.hid hK
          have HRA := Lib.hid hRA
          clear hC hF hnil hK hRA
          have hgw := HC.out.lt
          have hsw : w.heap.size < wr.heap.size := by omega
          have bx1 := HC.out.k1
          rw [HBX.out] at bx1
          obtain ⟨_, _, _, c3, _⟩ := (can14 bx1).1
          obtain ⟨⟨d0, d1, d2, d3, d4, d5, d6, d7, d8, d9, da, db, dc, dd⟩, zf⟩ := can14 HC.out.k3
          have ez := zf 3 (by omega)
          clear zf bx1
          by_cases hlt : k < q.sets.length ∧ k < 10
          · clear d0 d1 d2 d4 d5 d6 d7 d8 d9 da db dc dd
            obtain ⟨h1, h2⟩ := hlt
            obtain ⟨_, _, eqa, _, _, _, hc⟩ := HST.out
            simp only [Value.slice.injEq] at eqa
            obtain ⟨rfl, _, rfl⟩ := eqa
            obtain ⟨b, off, rfl, hb, _, hcell⟩ := hc (by omega)
            obtain ⟨cv, hcv, hcs, hcz⟩ := hcell k h1
            have hck : wr.cell? ⟨b, off + k, none⟩ = some cv := (HC.out.below.cell (p := ⟨b, off + k, none⟩) hb).trans hcv
            have HCALL := Lib.hid (fun W (hB : Below w.heap.size w W) => HSM.out W hB q.sets[k] cv hcs hcz)
            have hbw : b < wr.heap.size := Nat.lt_of_lt_of_le hb HC.out.below.size
            have HBW := Lib.hid HC.out.below
            have HE := Lib.hid (show (q.sets.take (k + 1)).map (namesN 30 10) = (q.sets.take k).map (namesN 30 10) ++ [namesN 30 10 q.sets[k]] by rw [List.take_succ_eq_append_getElem h1, List.map_append, List.map_singleton])
            clear hcell hb hc hcv hcs hcz
            generalize q.sets[k] = ls at *
            go_wp2
            refine Flow.wp_region_flow_tail 9 (Flow.specs [.inl ?_, .inl ?_, .inl ?_, .inl ?_, .inl ?_, .inl ?_, .inl ?_, .inr (isNamesF wr.heap.size ls), .inr (newNames wr.heap.size ls)]) (by kernel_rfl) (by kernel_rfl) ?_ ?_
            rotate_left 7
            · refine Flow.specs_mono ?_
              repeat (first | exact Flow.lmono_nil | refine Flow.lmono_inl ?_ | refine Flow.lmono_inr (isNamesF_mono _ _) ?_ | refine Flow.lmono_inr (newNames_mono _ _) ?_)
            all_goals try simp only [List.take_succ_cons, List.take_zero, List.drop_succ_cons, List.drop_zero]
            iterate 7 (refine Flow.tree_valK rfl (fun K hK => ⟨fun w hw hG => ?_, ?_⟩); (have hcl := Flow.bcell hw; clear hG hw; unfold Flow.Runs Flow.yields; go_simp; try rfl); go_simp; refine hK _ ?_; clear hK K)
            (refine Flow.tree_varK rfl (fun K hK => ⟨fun w hw hG => ?_, ?_⟩); (have HW := Lib.hid hw; clear hG hw; unfold Flow.Runs Flow.yields; go_simp; refine (HCALL.out _ (HBW.out.trans (HW.out.mono HBW.out.size))).mono ?_; rintro e w3 ⟨v3, rfl, hf3, _, hb3⟩; exact ⟨v3, rfl, hb3, hf3.weak fun b hb => Nat.le_trans HW.out.size hb⟩); intro vz; go_simp; refine hK _ _ ?_; clear hK K)
            (refine Flow.tree_varK rfl (fun K hK => ⟨fun w hw hG => ?_, ?_⟩); (have hvz := (show isNamesF wr.heap.size ls vz w by simpa [Flow.upd] using hG 7 (by kernel_rfl)); clear hG; obtain ⟨y0, y1, y2, rfl⟩ := SlP.shape hvz; unfold Flow.Runs Flow.yields; go_simp; refine ⟨(Below.refl _ _).alloc (Nat.le_refl _) _, ?_⟩); rotate_left; intro vy; go_simp; refine hK _ _ ?_; clear hK K; rotate_left)
            · exact ⟨w.heap.size, _, rfl, by simp, SlP.ag hvz (Ag.new _ ((Below.refl _ _).alloc (Nat.le_refl _) _)), cell_of_row _ _ 0 _ _ _ (heap_alloc_new _ _)⟩
            refine Flow.tree_nil fun w2 hw2 hG => ?_
            obtain ⟨gn, x, rfl, hgn, hx, hxc⟩ := (show newNames wr.heap.size ls vy w2 by simpa [Flow.upd] using hG 8)
            clear hG
            have HO2 := Lib.hid (owns_below HF.out.own hw2)
            have HC2 := Lib.hid (HC.out.later hw2)
            have HX := Lib.hid hx
            obtain ⟨sx0, sx1, sx2, rfl⟩ := hx.shape
            have HXC := Lib.hid hxc
            have HW2 := Lib.hid hw2
            have hsz2 := hw2.size
            have husl : us.length ≤ 10 := by have := HF.out.len; simp at this; omega
            clear hx hxc hw2
            go_wp2_with (at_builtin; refine wpList_append_own_at _ rfl _ _ 59 rfl N2 22 j0 _ 1 24 Tryd.underlying59 ji jz0 jz1 jz2 rfl (by decide) _ us.length _ rfl HO2.out ⟨gn, 0, none⟩ 1 1 [.slice sx0 sx1 sx2] rfl rfl ?_ ?_ ?_ ?_ ?_ ?_)
            · intro j u hj; rcases j with _ | j <;> simp at hj; subst hj; simpa [Addr.add] using HXC.out
            · simp [Value.oneCell']
            · unfold maxLen; omega
            · omega
            · omega
            intro v' w3 hown3 hgrow _ hloc
            have HF3 := Lib.hid (Setl.more (HF.out.below HW2.out) HX.out (fun g' e => (HF.out.own.lt g' e).2) hszr hown3 hgrow hloc)
            have HK3 := Lib.hid ((HK.out.ag (Ag.new _ HW2.out)).ag (Ag.grown hgrow (fun j e => by have := (HO2.out.lt j e).1; rintro ⟨_, _, h⟩; omega)))
            have HRA3 := Lib.hid ((HRA.out.ag (Ag.new _ HW2.out)).ag (Ag.grown hgrow (fun j e => by have := (HO2.out.lt j e).1; rintro ⟨_, h⟩; omega)))
            obtain ⟨gg, cp, rfl, _⟩ := owns_cell_any hown3 (by omega)
            have HC3 := Lib.hid (HC2.out.grown hgrow (fun j e => by have := (HO2.out.lt j e).1; omega))
            have hsz3 := hgrow.size
            clear hown3 hgrow hloc
            obtain ⟨⟨_, _, _, f3, _⟩, zf⟩ := can14 HC3.out.k3
            have fz := zf 3 (by omega)
            clear zf
            go_wp2
            go_roundw
            case rel =>
              refine ⟨k + 1, _, us ++ [.slice sx0 sx1 sx2], by omega, by omega, by go_num, HC3.out.set 3 _ _ rfl, ?_, fun h => by omega, HK3.out.ag (Ag.set _ _ _ (fun h => h.2.1 rfl)), HRA3.out.ag (Ag.set _ _ _ (by rintro ⟨h, _⟩; have : N1 ≤ g := h; omega)), by simp [World.setCell]; omega⟩
              rw [HE.out]
              exact HF3.out.set (by omega) (fun b hb => hb.1) _
            case measure => simp [intOf]; omega
          · have hsk : q.sets.take k = q.sets.take 10 := by
              by_cases e : k = 10
              · rw [e]
              · rw [List.take_of_length_le (by omega), List.take_of_length_le (by omega)]
            have hFl := HF.out.listed (q := fun b => N2 ≤ b) (fun b hb => hb.1) (fun b hb => hb) (fun l hl => by
              obtain ⟨l', _, rfl⟩ := List.mem_map.1 hl
              exact names_small 30 10 l' (by omega)) (by simp; unfold maxLen; omega) (fun e => HN.out (by
                have e2 := congrArg List.length e
                rw [List.length_map, List.length_take, List.length_nil] at e2; omega))
            rw [hsk] at hFl
            have HFL := Lib.hid hFl
            obtain ⟨ns0, ns2, es⟩ := hFl.shape
            obtain ⟨na0, na2, ea⟩ := HRA.out.shape
            generalize ((q.sets.take 10).map (namesN 30 10)).length = ns1 at es
            generalize ((q.aggs.take 10).map Tess.cutAgg).length = na1 at ea
            subst es ea
            obtain ⟨⟨r0, r1, r2, r3, r4, r5, r6, r7, r8, r9, ra, rb, rc, rd⟩, zf⟩ := can14 HC.out.k2
            have zz0 := zf 0 (by omega)
            have zz1 := zf 1 (by omega)
            have zz2 := zf 2 (by omega)
            have zz3 := zf 3 (by omega)
            have zz4 := zf 4 (by omega)
            have zz5 := zf 5 (by omega)
            have zz6 := zf 6 (by omega)
            have zz7 := zf 7 (by omega)
            have zz8 := zf 8 (by omega)
            have zz9 := zf 9 (by omega)
            have zza := zf 10 (by omega)
            have zzb := zf 11 (by omega)
            have zzc := zf 12 (by omega)
            have zzd := zf 13 (by omega)
            clear zf hFl HN hsk HF
            obtain ⟨W5, hW5, k5, ko5, ks5, kb5, ka5⟩ := put14 (.slice na0 na1 na2) (.slice n0 n1 n2) (.int .i64 q.mode) (.slice ns0 ns1 ns2) (.int .i64 q.every) (.int .i64 (Fil.few q.fil).kind) (.string (Fil.few q.fil).name) (.slice u0 u1 u2) (.int .i64 (Fil.few q.fil).frm) (.int .i64 (Fil.few q.fil).to) (.slice u3 (Fil.few q.fil).l.length u4) (.slice ah mh ch) (.slice ao mo co) (.int .i64 q.limit) HC.out.k2
            obtain ⟨v0, v1, v2, v3, v4, v5, v6, v7, v8, v9, v10, v11, v12, v13⟩ := (can14 k5).1
            have hgb := HC.out.hg
            have HB5 := Lib.hid (kb5 _ _ HC.out.below (by omega))
            have HA5 := Lib.hid ka5
            clear k5 ko5 ks5 kb5 ka5
            rcases (show (¬ (k : Int) < (q.sets.length : Int)) ∨ ((k : Int) < (q.sets.length : Int) ∧ ¬ (k : Int) < 10) by omega) with hni | ⟨hkl, hni⟩
            all_goals
              clear hlt
              go_wp2
              refine bodyPost_ret (v := .agg #[.slice na0 na1 na2, .slice n0 n1 n2, .int .i64 q.mode, .slice ns0 ns1 ns2, .int .i64 q.every, .int .i64 (Fil.few q.fil).kind, .string (Fil.few q.fil).name, .slice u0 u1 u2, .int .i64 (Fil.few q.fil).frm, .int .i64 (Fil.few q.fil).to, .slice u3 (Fil.few q.fil).l.length u4, .slice ah mh ch, .slice ao mo co, .int .i64 q.limit]) (by first | (rw [hW5]; simp [results, Tryd.results24, go_sem, v0, v1, v2, v3, v4, v5, v6, v7, v8, v9, v10, v11, v12, v13]) | simp [results, Tryd.results24, go_sem, v0, v1, v2, v3, v4, v5, v6, v7, v8, v9, v10, v11, v12, v13]) rfl ?_
              have hag := HA5.out (fun b => w.heap.size + 2 ≤ b) (by omega)
              have hk5 := (HK.out.weak (q := fun b => w.heap.size + 2 ≤ b) fun b hb => hb.1).ag hag
              have hr5 := (HRA.out.weak (q := fun b => w.heap.size + 2 ≤ b) fun b hb => by have := hb.1; omega).ag hag
              have hf5 := (HFL.out.weak (q := fun b => w.heap.size + 2 ≤ b) fun b hb => by have : N2 ≤ b := hb; omega).ag hag
              have hmh := HMH.out
              have hmo := HMO.out
              have e1 : q.conds.take mh = q.conds.take 10 := by rw [hmh]; simp [List.take_eq_take_iff]
              have e2 : q.keys.take mo = q.keys.take 10 := by rw [hmo]; simp [List.take_eq_take_iff]
              exact few_post hr5 hk5.names hf5 hk5.fil (e1 ▸ (HHT.out.lt.ag (Ag.below _ HB5.out fun b _ hb => hb.2))) (e2 ▸ (HOT.out.lt.ag (Ag.below _ HB5.out fun b _ hb => hb.2))) HCAP.out HB5.out
end Go.Proofs.YtdfnolgcdododaaDoor
namespace Tess
open Go
namespace Que
theorem namesFrom_append (set : Nat) (a b : List ByteArray) : ∀ i, namesFrom set i (a ++ b) = namesFrom set i a ++ namesFrom set (i + a.length) b := by
  induction a with
  | nil => intro i; simp [namesFrom]
  | cons x r ih =>
    intro i
    show (if set / 2 ^ i % 2 = 0 then x :: namesFrom set (i + 1) (r ++ b) else namesFrom set (i + 1) (r ++ b)) = (if set / 2 ^ i % 2 = 0 then x :: namesFrom set (i + 1) r else namesFrom set (i + 1) r) ++ namesFrom set (i + (r.length + 1)) b
    rw [ih, show i + 1 + r.length = i + (r.length + 1) by omega]
    split <;> rfl
theorem namesTo_succ (set : Nat) (names : List ByteArray) (k : Nat) (h : k < names.length) : namesFrom set 0 (names.take (k + 1)) = if set / 2 ^ k % 2 = 0 then namesFrom set 0 (names.take k) ++ [names[k]] else namesFrom set 0 (names.take k) := by
  rw [List.take_succ_eq_append_getElem h, namesFrom_append]
  have : (names.take k).length = k := by simp; omega
  rw [this]
  simp only [namesFrom, Nat.zero_add]
  split <;> simp
theorem namesFrom_le (set : Nat) (r : List ByteArray) : ∀ i, (namesFrom set i r).length ≤ r.length := by
  induction r with
  | nil => intro i; simp [namesFrom]
  | cons x r ih =>
    intro i
    have := ih (i + 1)
    show (if set / 2 ^ i % 2 = 0 then x :: namesFrom set (i + 1) r else namesFrom set (i + 1) r).length ≤ _
    split <;> simp <;> omega
end Que
end Tess
namespace Go.Proofs.YtdfnolgcdododaaDoor
open Go.RowKit Go.Sort
open Tess (Fil Que)

theorem and_one : ∀ x : Nat, x < 1024 → bits .and .u64 ((x : Nat) : Int) 1 = ((x % 2 : Nat) : Int) := by decide +kernel
set_option maxRecDepth 100000 in
set_option maxHeartbeats 2000000 in
theorem namesOf_any (x0 x2 x3 x4 x5 x6 x7 x8 x9 xa xb xc xd vb : Value) (names : List ByteArray) (set : Nat) (hset : set < 1024) (hn : names.length ≤ 10) (w : World) (hb : SlOf w vb (names.map .string)) (hcap : CapOk vb names.length) :
    Calls Tryd.prog 26 #[.agg #[x0, vb, x2, x3, x4, x5, x6, x7, x8, x9, xa, xb, xc, xd], .int .i64 (set : Nat)] w fun e w' => ∃ v', e = .returned v' ∧ SlP (fun b => w.heap.size ≤ b) w' v' ((Que.namesOf names set).map .string) ∧ Below w.heap.size w w' := by
  obtain ⟨ab, cb, rfl, _, hc⟩ := sls_open hb
  have hcap' := hcap.2
  have HC := Lib.hid hc
  clear hc hb
  obtain ⟨W0, hW0⟩ : ∃ W0, w.alloc (.cells #[x0, .slice ab names.length cb, x2, x3, x4, x5, x6, x7, x8, x9, xa, xb, xc, xd] 63) = W0 := ⟨_, rfl⟩
  obtain ⟨h0, hS, hB⟩ := laid1 w (.cells #[x0, .slice ab names.length cb, x2, x3, x4, x5, x6, x7, x8, x9, xa, xb, xc, xd] 63)
  rw [hW0] at h0 hS hB
  have y1 := (can14 h0).1.2.1
  have HB0 := Lib.hid hB
  clear h0 hS hB
  obtain ⟨i0, hi, hz0, hz1, hz2⟩ := info_parts infoStr
  have hmin : min (names.length : Int) 63 = (names.length : Int) := by omega
  go_enter Tryd.func26, Tryd.ntmps26
  go_wp2
  go_loopw [5, 16] (fun v i wr => ∃ k : Nat, k ≤ names.length ∧ i = .int .i64 k ∧ wr.ownsRow w.heap.size 9 1 v (Que.namesFrom set 0 (names.take k)).length ((Que.namesFrom set 0 (names.take k)).map .string) ∧ Below w.heap.size w wr) (fun _ i _ => names.length - (intOf i).toNat)
  case atStart => exact ⟨0, Nat.zero_le _, rfl, by simpa [Que.namesFrom] using World.ownsRow_nil W0 w.heap.size 9 1, HB0.out⟩
  case round =>
    obtain ⟨k, hk, rfl, hown, hB⟩ := hrel
    have HO := Lib.hid hown
    have HB := Lib.hid hB
    clear hown hB
    by_cases hlt : k < names.length
    · obtain ⟨b, off, rfl, hb, hck⟩ := HC.out k hlt
      have hki : (k : Int) < (names.length : Int) := by omega
      have hck' := (HB.out.cell (p := ⟨b, off + k, none⟩) hb).trans hck
      have HST := Lib.hid (Que.namesTo_succ set names k hlt)
      have hlen := Que.namesFrom_le set (names.take k) 0
      have hlen' : (Que.namesFrom set 0 (names.take k)).length ≤ 10 := by simp at hlen; omega
      obtain ⟨p1, p2, p3⟩ := pow_small k (by omega)
      have hqs : set / 2 ^ k < 1024 := Nat.lt_of_le_of_lt (Nat.div_le_self _ _) hset
      have hband := and_one (set / 2 ^ k) hqs
      clear hck hlen hqs
      generalize names[k] = y at *
      generalize Que.namesFrom set 0 (names.take k) = ns at *
      obtain ⟨P, hP⟩ : ∃ P, P = 2 ^ k := ⟨_, rfl⟩
      rw [← hP] at p1 p2 p3 hband HST
      have hdiv : (set : Int) / (P : Int) = ((set / P : Nat) : Int) := by simp
      rw [← hdiv] at hband
      have hm2 : set / P % 2 = 0 ∨ set / P % 2 = 1 := by omega
      generalize set / P % 2 = m at *
      clear hP hdiv
      rcases hm2 with rfl | rfl
      · go_wp2_with (at_builtin; refine wpList_append_own _ rfl _ _ 22 rfl w.heap.size 9 i0 (.string ByteArray.empty) 1 16 Tryd.underlying22 hi hz0 hz1 hz2 rfl (by decide) _ _ _ rfl (HO.out.alloc _) ⟨wr.heap.size, 0, none⟩ 1 1 [.string y] rfl rfl (cell_one_new _ _ _) (by simp [Value.oneCell']) (by unfold maxLen; omega) (by omega) (by simp; have := HB.out.size; omega) ?_; intro v' w3 hown3 hgrow _)
        go_roundw
        case rel =>
          refine ⟨k + 1, by omega, by go_num, ?_, ((HB.out.alloc HB.out.size _).grown hgrow (by simp; have := HB.out.size; omega) (fun j e => (HO.out.lt j e).1))⟩
          rw [HST.out]; simpa using hown3
        case measure => simp [intOf]; omega
      · go_wp2
        go_roundw
        case rel => exact ⟨k + 1, by omega, by go_num, by rw [HST.out]; simpa using HO.out, HB.out⟩
        case measure => simp [intOf]; omega
    · have hki : ¬ (k : Int) < (names.length : Int) := by omega
      have HE := Lib.hid (show Que.namesFrom set 0 (names.take k) = Que.namesOf names set by rw [List.take_of_length_le (by omega)]; unfold Que.namesOf; rw [List.take_of_length_le (by omega)])
      go_wp2
      go_ret
      refine ⟨_, rfl, ?_, HB.out⟩
      rw [← HE.out]
      exact SlP.owned HO.out
end Go.Proofs.YtdfnolgcdododaaDoor
