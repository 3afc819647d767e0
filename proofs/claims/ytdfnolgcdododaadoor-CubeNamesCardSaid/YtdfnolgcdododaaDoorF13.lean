/- The law's few filters. -/
import Derived.Test.YtdfnolgcdododaaDoorF12
namespace Tess
namespace Fil
def few (f : Fil) : Fil := if 100 < (cut 7 f).count then mk (cut 7 f).kind (cut 7 f).name (cut 7 f).words (cut 7 f).frm (cut 7 f).to [] else cut 7 f
end Fil
end Tess
namespace Go.Proofs.YtdfnolgcdododaaDoor
open Go.RowKit Go.Sort
open Tess (Fil)

theorem cut_any (d : Nat) (hd : d ≤ 100) : CutC d := by
  induction d with
  | zero => exact cut_step 0 hd (.inl rfl)
  | succ d ih => exact cut_step (d + 1) hd (.inr ⟨d, rfl, ih (by omega)⟩)

set_option maxRecDepth 100000 in
set_option maxHeartbeats 2000000 in
theorem few_any (p : Nat → Prop) (n : Nat) (v : Value) (f : Fil) (w : World) (hv : FilAt p n w v f) :
    Calls Tryd.prog 12 #[v] w fun e w' => ∃ v', e = .returned v' ∧ FilAt (fun b => w.heap.size ≤ b) 8 w' v' (Fil.few f) ∧ Below w.heap.size w w' := by
  have HV := Lib.hid hv
  obtain ⟨xw, a, cap, rfl⟩ := hv.shape
  cases n with
  | zero => exact hv.elim
  | succ n =>
  obtain ⟨vw, a', cap', heq, _, hvw, _⟩ := hv
  obtain ⟨wa, wn, wc, rfl⟩ := hvw.shape
  obtain ⟨rfl, rfl, rfl⟩ : xw = .slice wa wn wc ∧ a = a' ∧ cap = cap' := by simpa using heq
  clear heq hvw
  obtain ⟨c, hc⟩ : ∃ c, c = Fil.cut 7 f := ⟨_, rfl⟩
  have hcc : c.count ≤ 1000000000 := by rw [hc]; exact Nat.le_trans (Fil.cut_count 7 f) (by decide)
  have HCUT := Lib.hid (fun W (hB : Below w.heap.size w W) => hc ▸ cut_any 7 (by omega) p (n + 1) _ f W (HV.out.ag (Ag.new p hB)))
  have HCC := Lib.hid hcc
  have HFEW : RowKit.Hid (Fil.few f = if 100 < c.count then Fil.mk c.kind c.name c.words c.frm c.to [] else c) := Lib.hid (by rw [hc]; rfl)
  clear hc hcc HV
  go_enter Tryd.func12, Tryd.ntmps12
  go_wp2_with fail
  obtain ⟨W0, hW0⟩ : ∃ W0, (w.alloc (.cells #[.int .i64 f.kind, .string f.name, .slice wa wn wc, .int .i64 f.frm, .int .i64 f.to, .slice a f.l.length cap] 29)).alloc (.cells zeroFil 29) = W0 := ⟨_, rfl⟩
  obtain ⟨hk1, hk2, hS0, hB0⟩ : W0.heap[w.heap.size]? = some (.cells #[.int .i64 f.kind, .string f.name, .slice wa wn wc, .int .i64 f.frm, .int .i64 f.to, .slice a f.l.length cap] 29 (0, 0)) ∧ W0.heap[w.heap.size + 1]? = some (.cells zeroFil 29 (0, 0)) ∧ W0.heap.size = w.heap.size + 2 ∧ Below w.heap.size w W0 := by rw [← hW0]; exact laid2 w _ _
  rw [hW0]
  clear hW0
  have HS0 := Lib.hid hS0
  have HB0 := Lib.hid hB0
  have HK1 := Lib.hid hk1
  have HK2 := Lib.hid hk2
  clear hS0 hB0 hk1 hk2
  refine (HCUT.out W0 HB0.out).mono ?_
  rintro e1 w1 ⟨v1, rfl, hf1, hB1⟩
  obtain ⟨u2, ua, uc, rfl⟩ := hf1.shape
  obtain ⟨vw1, a1, cap1, heq, _, hvw1, _⟩ := (show FilAt _ (7 + 1) _ _ _ from hf1)
  obtain ⟨va, vn, vc, rfl⟩ := hvw1.shape
  obtain ⟨rfl, rfl, rfl⟩ : u2 = .slice va vn vc ∧ ua = a1 ∧ uc = cap1 := by simpa using heq
  have HF1 := Lib.hid hf1
  have HB1 := Lib.hid hB1
  have hk1 := (hB1.block _ (by have := HS0.out; omega)).trans HK1.out
  have hk2 := (hB1.block _ (by have := HS0.out; omega)).trans HK2.out
  have z0 := frozen_of_row w1 w.heap.size 0 _ _ hk1
  have z1 := frozen_of_row w1 w.heap.size 1 _ _ hk1
  have z2 := frozen_of_row w1 w.heap.size 2 _ _ hk1
  have z3 := frozen_of_row w1 w.heap.size 3 _ _ hk1
  have z4 := frozen_of_row w1 w.heap.size 4 _ _ hk1
  have z5 := frozen_of_row w1 w.heap.size 5 _ _ hk1
  have e0 := cell_of_row w1 w.heap.size 0 _ _ _ hk1
  have e1 := cell_of_row w1 w.heap.size 1 _ _ _ hk1
  have e2 := cell_of_row w1 w.heap.size 2 _ _ _ hk1
  have e3 := cell_of_row w1 w.heap.size 3 _ _ _ hk1
  have e4 := cell_of_row w1 w.heap.size 4 _ _ _ hk1
  have e5 := cell_of_row w1 w.heap.size 5 _ _ _ hk1
  simp only [List.getElem?_toArray, List.getElem?_cons_succ, List.getElem?_cons_zero] at e0 e1 e2 e3 e4 e5
  have HK1' := Lib.hid hk1
  have HK2' := Lib.hid hk2
  clear heq hvw1 hf1 hB1 HCUT hk1 hk2 HK1 HK2
  go_wp2_with fail
  clear z0 z1 z2 z3 z4 z5 e0 e1 e2 e3 e4 e5
  obtain ⟨W2, hW2, hk1, hk2, hf2, hB2⟩ : ∃ W2, ((((((w1.setCell ⟨w.heap.size, 0, none⟩ (.int .i64 c.kind)).setCell ⟨w.heap.size, 1, none⟩ (.string c.name)).setCell ⟨w.heap.size, 2, none⟩ (.slice va vn vc)).setCell ⟨w.heap.size, 3, none⟩ (.int .i64 c.frm)).setCell ⟨w.heap.size, 4, none⟩ (.int .i64 c.to)).setCell ⟨w.heap.size, 5, none⟩ (.slice ua c.l.length uc)) = W2 ∧
      W2.heap[w.heap.size]? = some (.cells #[.int .i64 c.kind, .string c.name, .slice va vn vc, .int .i64 c.frm, .int .i64 c.to, .slice ua c.l.length uc] 29 (0, 0)) ∧ W2.heap[w.heap.size + 1]? = some (.cells zeroFil 29 (0, 0)) ∧
      FilAt (fun b => w.heap.size + 2 ≤ b) 8 W2 (.agg #[.int .i64 c.kind, .string c.name, .slice va vn vc, .int .i64 c.frm, .int .i64 c.to, .slice ua c.l.length uc]) c ∧ Below w.heap.size w W2 := by
    have := HS0.out
    refine ⟨_, rfl, set6 _ _ _ _ _ _ HK1'.out, ?_, ?_, set6_below _ _ _ _ _ _ (HB0.out.trans (HB1.out.mono (by omega))) (Nat.le_refl _)⟩
    · rw [set6_other _ _ _ _ _ _ (by omega)]; exact HK2'.out
    · rw [← this]
      exact HF1.out.ag (set6_ag _ _ _ _ _ _ _ (by omega))
  rw [hW2]
  clear hW2 HK1' HK2' HB0 HB1 HF1
  have HF2 := Lib.hid hf2
  have HCNT := Lib.hid (count_any _ 8 _ c W2 hf2 HCC.out)
  have HB2 := Lib.hid hB2
  have HK1 := Lib.hid hk1
  have HK2 := Lib.hid hk2
  clear hf2 hB2 hk1 hk2
  refine HCNT.out.mono ?_
  rintro e3 w3 ⟨rfl, hB3⟩
  have hs1 : w.heap.size + 1 < W2.heap.size := (Array.getElem?_eq_some_iff.1 HK2.out).1
  have hk1 := (hB3.block _ (by omega)).trans HK1.out
  have hk2 := (hB3.block _ (by omega)).trans HK2.out
  have z5 := frozen_of_row w3 w.heap.size 5 _ _ hk1
  have e0 := cell_of_row w3 w.heap.size 0 _ _ _ hk1
  have e1 := cell_of_row w3 w.heap.size 1 _ _ _ hk1
  have e2 := cell_of_row w3 w.heap.size 2 _ _ _ hk1
  have e3 := cell_of_row w3 w.heap.size 3 _ _ _ hk1
  have e4 := cell_of_row w3 w.heap.size 4 _ _ _ hk1
  have e5 := cell_of_row w3 w.heap.size 5 _ _ _ hk1
  have d0 := cell_of_row w3 (w.heap.size + 1) 0 _ _ _ hk2
  have d1 := cell_of_row w3 (w.heap.size + 1) 1 _ _ _ hk2
  have d2 := cell_of_row w3 (w.heap.size + 1) 2 _ _ _ hk2
  have d3 := cell_of_row w3 (w.heap.size + 1) 3 _ _ _ hk2
  have d4 := cell_of_row w3 (w.heap.size + 1) 4 _ _ _ hk2
  have d5 := cell_of_row w3 (w.heap.size + 1) 5 _ _ _ hk2
  have y0 := frozen_of_row w3 (w.heap.size + 1) 0 _ _ hk2
  have y1 := frozen_of_row w3 (w.heap.size + 1) 1 _ _ hk2
  have y2 := frozen_of_row w3 (w.heap.size + 1) 2 _ _ hk2
  have y3 := frozen_of_row w3 (w.heap.size + 1) 3 _ _ hk2
  have y4 := frozen_of_row w3 (w.heap.size + 1) 4 _ _ hk2
  have y5 := frozen_of_row w3 (w.heap.size + 1) 5 _ _ hk2
  simp only [List.getElem?_toArray, List.getElem?_cons_succ, List.getElem?_cons_zero] at e0 e1 e2 e3 e4 e5 d0 d1 d2 d3 d4 d5
  have HB3 := Lib.hid hB3
  have HF3 := Lib.hid (HF2.out.ag (Ag.new _ hB3))
  have hsz := hB3.size
  clear hB3 hk1 hk2
  by_cases hc : 100 < c.count
  · have hci : (100 : Int) < (c.count : Int) := by omega
    go_wp2
    refine bodyPost_ret (v := .agg #[.int .i64 c.kind, .string c.name, .slice va vn vc, .int .i64 c.frm, .int .i64 c.to, .slice none 0 0]) (by simp [results, Tryd.results12, go_sem, d0, d1, d2, d3, d4, d5]) rfl ⟨_, rfl, ?_, set6_below _ _ _ _ _ _ ((Bt HB2.out HB3.out).setCell (Nat.le_refl _) _) (by omega)⟩
    rw [HFEW.out, if_pos hc]
    refine FilAt.weak (p := fun b => w.heap.size + 2 ≤ b) (fun b hb => by omega) ?_
    refine FilAt.ag ?_ ((Ag.set _ _ _ (by show ¬ w.heap.size + 2 ≤ w.heap.size; omega)).trans (set6_ag _ _ _ _ _ _ _ (by omega)))
    obtain ⟨vw, a2, cap2, heq, h1, h2, h3, _⟩ := (show FilAt _ (7 + 1) _ _ _ from HF3.out)
    obtain ⟨rfl, _⟩ : .slice va vn vc = vw ∧ ua = a2 := by simp at heq; exact ⟨heq.1, heq.2.1⟩
    exact cut_fil rfl h1 h2 h3 (Nat.zero_le _) (fun _ => rfl) (fun h => absurd h (by simp))
  · have hci : ¬ (100 : Int) < (c.count : Int) := by omega
    go_wp2
    refine bodyPost_ret (v := .agg #[.int .i64 c.kind, .string c.name, .slice va vn vc, .int .i64 c.frm, .int .i64 c.to, .slice ua c.l.length uc]) (by simp [results, Tryd.results12, go_sem, d0, d1, d2, d3, d4, d5]) rfl ⟨_, rfl, ?_, set6_below _ _ _ _ _ _ (Bt HB2.out HB3.out) (by omega)⟩
    rw [HFEW.out, if_neg hc]
    refine FilAt.weak (p := fun b => w.heap.size + 2 ≤ b) (fun b hb => by omega) ?_
    exact FilAt.ag HF3.out (set6_ag _ _ _ _ _ _ _ (by omega))
end Go.Proofs.YtdfnolgcdododaaDoor
