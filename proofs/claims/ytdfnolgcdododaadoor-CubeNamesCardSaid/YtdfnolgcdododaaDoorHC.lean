/- Merged by merge.py: H13, H15, H16, H17: the document's functions, walked. -/
import Derived.Test.YtdfnolgcdododaaDoorHA
import Derived.Test.YtdfnolgcdododaaDoorFlI
import Derived.Test.YtdfnolgcdododaaDoorF14
import Derived.Maps.OwnIn
namespace Go.Proofs.YtdfnolgcdododaaDoor
open Go.RowKit Go.Sort Go.Shelf
open Tess (Fil Que)
attribute [local go_sem] Oper.semAt_some

/-- What an iterator of numbers does, whatever is done with each of them. -/
def Counts (gf : FuncId) (lb : Array Value) (ns : List Nat) (q : Nat → Prop) (W0 : World) : Prop :=
  ∀ (l : Nat) (fn0 : FuncId) (T : Value → Array Value) (A B : Code) (Inv : Nat → World → Prop),
    (∀ k W W', Inv k W → Below W.heap.size W W' → Inv k W') → (∀ k W, Inv k W → Ag q W0 W) →
    (∀ k W, Inv k W → ∀ z : Int, (Instr.yield l #[.int .i64 z]).run Tryd.prog W = .ok (.round l fn0 (T (.int .i64 z)) A B) W) →
    (∀ k W (hk : k < ns.length), Inv k W → RoundIn Fence.wide 5 Tryd.prog l fn0 (T (.int .i64 ((ns[k] : Nat) : Int))) A B W (fun e W' => e = .returned (.bool true) ∧ Inv (k + 1) W')) →
    ∀ W, Inv 0 W → Calls Tryd.prog gf (#[.func (.yield l) #[] #[]] ++ lb) W fun e W' => (∃ v, e = .returned v) ∧ Inv ns.length W'

set_option maxRecDepth 100000 in
set_option maxHeartbeats 2000000 in
theorem counted_iter (m : Nat) (hm : m ≤ 1000000) (b1 b2 : Nat) (q : Nat → Prop) (W0 : World) (h1 : W0.cell? ⟨b1, 0, none⟩ = some (.int .i64 0)) (h2 : W0.cell? ⟨b2, 0, none⟩ = some (.int .i64 (m : Nat))) (q1 : q b1) (q2 : q b2) (l1 : b1 < W0.heap.size) (l2 : b2 < W0.heap.size) :
    Counts 133 #[.pointer (some ⟨b1, 0, none⟩), .pointer (some ⟨b2, 0, none⟩)] (List.range (m + 1)) q W0 := by
  intro l fn0 T A B Inv hIB hIA hy hr W hI
  have HI := Lib.hid hI
  have HIB := Lib.hid hIB
  have HIA := Lib.hid hIA
  have HY := Lib.hid hy
  have HR := Lib.hid hr
  have c1 := ((hIA 0 W hI).cell l1 q1).trans h1
  clear hI hIB hIA hy hr
  refine (callsIn_wide (n := 5)).1 ?_
  refine callsIn_of_wp Tryd.func133 rfl trivial ?_ rfl
  simp only [Tryd.ntmps133, List.size_toArray, List.length_cons, List.length_nil, Nat.reduceAdd, Nat.reduceSub, Array.replicate_succ, Array.replicate_zero, List.push_toArray, List.append_toArray, List.nil_append, List.cons_append]
  gi_wp2
  gi_loopw [4] (fun i wr => ∃ k : Nat, k ≤ m + 1 ∧ i = .int .i64 k ∧ Inv k wr) (fun i _ => m + 1 - (intOf i).toNat)
  case atStart => exact ⟨0, Nat.zero_le _, rfl, HI.out⟩
  case round =>
    clear c1
    obtain ⟨k, hk, rfl, hI⟩ := hrel
    have HJ := Lib.hid hI
    clear hI
    have c2 := ((HIA.out k wr HJ.out).cell l2 q2).trans h2
    by_cases hlt : k ≤ m
    · have hki : (k : Int) ≤ (m : Int) := by omega
      have hyl := HY.out k wr HJ.out k
      gi_wp2
      have hRR := HR.out k wr (by simp; omega) HJ.out
      simp only [List.getElem_range] at hRR
      refine roundIn_any (hRR.mono ?_)
      clear hyl c2 hRR
      rintro e w1 ⟨rfl, hinv⟩
      have HV := Lib.hid hinv
      clear hinv
      gi_wp2
      go_roundw
      case rel => exact ⟨k + 1, by omega, by go_num, HV.out⟩
      case measure => simp [intOf]; omega
    · have hki : ¬ (k : Int) ≤ (m : Int) := by omega
      have hkm : k = m + 1 := by omega
      gi_wp2
      go_end0
      refine ⟨⟨_, rfl⟩, ?_⟩
      exact hkm ▸ HJ.out

set_option maxRecDepth 100000 in
set_option maxHeartbeats 2000000 in
theorem sets_iter (names : List ByteArray) (ls : List (List ByteArray)) (hn : names.length ≤ 6) (b : Nat) (x0 x2 x4 x5 x6 x7 x8 x9 xa xb xc xd vb vS : Value) (t : TypeId) (q p : Nat → Prop) (hpq : ∀ c, p c → q c) (W0 : World)
    (h1 : W0.heap[b]? = some (.cells #[x0, vb, x2, vS, x4, x5, x6, x7, x8, x9, xa, xb, xc, xd] t (0, 0))) (q1 : q b) (hb : SlP p W0 vb (names.map .string)) (hS : SetsAt p W0 vS ls) :
    Counts 118 #[.pointer (some ⟨b, 0, none⟩)] (ls.map (Que.setOf names)) q W0 := by
  intro l fn0 T A B Inv hIB hIA hy hr W hI
  have HI := Lib.hid hI
  have HIB := Lib.hid hIB
  have HIA := Lib.hid hIA
  have HY := Lib.hid hy
  have HR := Lib.hid hr
  have hlt := (Array.getElem?_eq_some_iff.1 h1).1
  have HCELL := Lib.hid (fun k X (h : Inv k X) => (can14 (((HIA.out k X h).2 b hlt q1).trans h1)).1)
  have HNM := Lib.hid (fun k X (h : Inv k X) => (hb.ag ((HIA.out k X h).weak hpq)).1)
  have HST := Lib.hid (fun k X (h : Inv k X) => hS.ag ((HIA.out k X h).weak hpq))
  have hlS := hS.len
  obtain ⟨aS, cS, rfl⟩ := hS.shape
  obtain ⟨ab, cb, rfl, _, _⟩ := sls_open hb.1
  clear hI hIB hIA hy hr h1 hb hS
  refine (callsIn_wide (n := 5)).1 ?_
  refine callsIn_of_wp Tryd.func118 rfl trivial ?_ rfl
  simp only [Tryd.ntmps118, List.size_toArray, List.length_cons, List.length_nil, Nat.reduceAdd, Nat.reduceSub, Array.replicate_succ, Array.replicate_zero, List.push_toArray, List.append_toArray, List.nil_append, List.cons_append]
  obtain ⟨c0, c1, c2, c3, c4, c5, c6, c7, c8, c9, ca, cb', cc, cd⟩ := HCELL.out 0 W HI.out
  gi_wp2
  gi_loopw [9] (fun i wr => ∃ k : Nat, k ≤ ls.length ∧ i = .int .i64 k ∧ Inv k wr) (fun i _ => ls.length - (intOf i).toNat)
  case atStart => exact ⟨0, Nat.zero_le _, rfl, HI.out⟩
  case round =>
    clear c0 c1 c2 c3 c4 c5 c6 c7 c8 c9 ca cb' cc cd
    obtain ⟨k, hk, rfl, hI⟩ := hrel
    have HJ := Lib.hid hI
    clear hI
    by_cases hlk : k < ls.length
    · have hki : (k : Int) < (ls.length : Int) := by omega
      obtain ⟨_, _, eS, _, _, _, hc⟩ := HST.out k wr HJ.out
      simp only [Value.slice.injEq] at eS
      obtain ⟨rfl, _, rfl⟩ := eS
      obtain ⟨bs, off, rfl, hbs, _, hcell⟩ := hc (by omega)
      obtain ⟨cv, hcv, hcs, _⟩ := hcell k hlk
      obtain ⟨s0, s1, s2, rfl⟩ := hcs.shape
      have HSET := Lib.hid (fun (X : World) (hX : Below wr.heap.size wr X) => set_any x0 x2 (.slice (some ⟨bs, off, none⟩) ls.length cS) x4 x5 x6 x7 x8 x9 xa xb xc xd (.slice ab names.length cb) _ names ls[k] hn X ((HNM.out k wr HJ.out).below hX) (hcs.1.below hX))
      have HRR := Lib.hid (fun X (hX : Below wr.heap.size wr X) => HR.out k X (by simp; omega) (HIB.out k wr X HJ.out hX))
      have HYY := Lib.hid (fun X (hX : Below wr.heap.size wr X) => HY.out k X (HIB.out k wr X HJ.out hX))
      obtain ⟨c0, c1, c2, c3, c4, c5, c6, c7, c8, c9, ca, cb', cc, cd⟩ := HCELL.out k wr HJ.out
      clear hc hcell hcs
      simp only [List.getElem_map] at HRR
      generalize Que.setOf names ls[k] = z at *
      gi_wp2_with (refine ⟨trivial, ?_⟩; gi_at_call 119; refine (callsIn_wide.2 (HSET.out _ (Below.refl _ _))).mono ?_; rintro e w2 ⟨rfl, hB2⟩; have hyl := HYY.out w2 hB2 (z : Nat))
      refine roundIn_any ((HRR.out _ hB2).mono ?_)
      clear hyl
      rintro e w3 ⟨rfl, hinv⟩
      have HV := Lib.hid hinv
      clear hinv hB2 c0 c1 c2 c3 c4 c5 c6 c7 c8 c9 ca cb' cc cd hcv
      gi_wp2
      go_roundw
      case rel => exact ⟨k + 1, by omega, by go_num, HV.out⟩
      case measure => simp [intOf]; omega
    · have hki : ¬ (k : Int) < (ls.length : Int) := by omega
      gi_wp2
      go_end0
      refine ⟨⟨_, rfl⟩, ?_⟩
      have e : k = ls.length := by omega
      exact e ▸ HJ.out

set_option maxRecDepth 100000 in
set_option maxHeartbeats 2000000 in
theorem rollup_iter (nb : Nat) (hn : nb ≤ 6) (b : Nat) (ab : Option Addr) (cb : Nat) (x0 x2 x3 x4 x5 x6 x7 x8 x9 xa xb xc xd : Value) (t : TypeId) (q : Nat → Prop) (W0 : World)
    (h1 : W0.heap[b]? = some (.cells #[x0, .slice ab nb cb, x2, x3, x4, x5, x6, x7, x8, x9, xa, xb, xc, xd] t (0, 0))) (q1 : q b) :
    Counts 117 #[.pointer (some ⟨b, 0, none⟩)] ((List.range (nb + 1)).map fun k => 2 ^ nb - 2 ^ (nb - k)) q W0 := by
  intro l fn0 T A B Inv hIB hIA hy hr W hI
  have HI := Lib.hid hI
  have HIB := Lib.hid hIB
  have HIA := Lib.hid hIA
  have HY := Lib.hid hy
  have HR := Lib.hid hr
  have hlt := (Array.getElem?_eq_some_iff.1 h1).1
  have HCELL := Lib.hid (fun k X (h : Inv k X) => (can14 (((HIA.out k X h).2 b hlt q1).trans h1)).1)
  clear hI hIB hIA hy hr h1
  refine (callsIn_wide (n := 5)).1 ?_
  refine callsIn_of_wp Tryd.func117 rfl trivial ?_ rfl
  simp only [Tryd.ntmps117, List.size_toArray, List.length_cons, List.length_nil, Nat.reduceAdd, Nat.reduceSub, Array.replicate_succ, Array.replicate_zero, List.push_toArray, List.append_toArray, List.nil_append, List.cons_append]
  obtain ⟨c0, c1, c2, c3, c4, c5, c6, c7, c8, c9, ca, cb', cc, cd⟩ := HCELL.out 0 W HI.out
  gi_wp2
  refine Rf.wpIn_scope_straight ?_
  gi_wp2
  refine wpIn_label ?_
  gi_wp2
  gi_loopw [9] (fun i wr => ∃ k : Nat, k ≤ nb + 1 ∧ i = .int .i64 k ∧ Inv k wr) (fun i _ => nb + 1 - (intOf i).toNat)
  case atStart => exact ⟨0, Nat.zero_le _, rfl, HI.out⟩
  case round =>
    clear c0 c1 c2 c3 c4 c5 c6 c7 c8 c9 ca cb' cc cd
    obtain ⟨k, hk, rfl, hI⟩ := hrel
    have HJ := Lib.hid hI
    clear hI
    by_cases hlk : k < nb + 1
    · have hki : (k : Int) < (nb : Int) + 1 := by omega
      obtain ⟨c0, c1, c2, c3, c4, c5, c6, c7, c8, c9, ca, cb', cc, cd⟩ := HCELL.out k wr HJ.out
      have hbw : b < wr.heap.size := World.block_lt_of_cell? wr _ c0
      have HRR := Lib.hid (fun X (hX : Below wr.heap.size wr X) => HR.out k X (by simp; omega) (HIB.out k wr X HJ.out hX))
      have HYY := Lib.hid (fun X (hX : Below wr.heap.size wr X) => HY.out k X (HIB.out k wr X HJ.out hX))
      have HALL := Lib.hid (fun X => all_any x0 x2 x3 x4 x5 x6 x7 x8 x9 xa xb xc xd ab nb cb (by omega) X)
      simp only [List.getElem_map, List.getElem_range] at HRR
      have hban := andNot_all nb hn k (by omega)
      obtain ⟨p1, p2, p3⟩ := pow_small k (by omega)
      obtain ⟨_, q2, q3⟩ := pow_small nb (by omega)
      have hA : 2 ^ nb - 1 ≤ 1024 := by omega
      generalize 2 ^ nb - 2 ^ (nb - k) = z at *
      generalize 2 ^ nb - 1 = A at *
      obtain ⟨P, hP⟩ : ∃ P, P = 2 ^ k := ⟨_, rfl⟩
      rw [← hP] at p1 p2 p3 hban
      have hdiv : ((A / P : Nat) : Int) = (A : Int) / (P : Int) := by simp
      rw [hdiv] at hban
      clear hP hdiv q2 q3
      gi_wp2
      refine Flow.wpIn_region_flow_tail 8 (Flow.specs [.inl ?_, .inl ?_, .inl ?_, .inl ?_, .inl ?_, .inl ?_, .inl ?_, .inl ?_]) (by kernel_rfl) (by kernel_rfl) ?_ ?_
      rotate_left 8
      · refine Flow.specs_mono ?_
        repeat (first | exact Flow.lmono_nil | refine Flow.lmono_inl ?_)
      all_goals try simp only [List.take_succ_cons, List.take_zero, List.drop_succ_cons, List.drop_zero]
      iterate 2 (refine Flow.tree_valK rfl (fun K hK => ⟨fun w hw hG => ?_, ?_⟩); (have hcl := Flow.bcell hw; clear hG hw; unfold Flow.Runs Flow.yields; go_simp; try rfl); go_simp; refine hK _ ?_; clear hK K)
      (refine Flow.tree_valK rfl (fun K hK => ⟨fun w hw hG => ?_, ?_⟩); (clear hG hw; unfold Flow.Runs Flow.yields; go_simp; refine (HALL.out _).mono ?_; rintro e w3 ⟨rfl, hb3⟩; first | exact ⟨_, rfl, hb3, rfl⟩ | (refine ⟨?_, hb3⟩; rfl)); go_simp; refine hK _ ?_; clear hK K)
      iterate 1 (refine Flow.tree_valK rfl (fun K hK => ⟨fun w hw hG => ?_, ?_⟩); (have hcl := Flow.bcell hw; clear hG hw; unfold Flow.Runs Flow.yields; go_simp; try rfl); go_simp; refine hK _ ?_; clear hK K)
      (refine Flow.tree_valK rfl (fun K hK => ⟨fun w hw hG => ?_, ?_⟩); (clear hG hw; unfold Flow.Runs Flow.yields; go_simp; refine (HALL.out _).mono ?_; rintro e w3 ⟨rfl, hb3⟩; first | exact ⟨_, rfl, hb3, rfl⟩ | (refine ⟨?_, hb3⟩; rfl)); go_simp; refine hK _ ?_; clear hK K)
      iterate 3 (refine Flow.tree_valK rfl (fun K hK => ⟨fun w hw hG => ?_, ?_⟩); (have hcl := Flow.bcell hw; clear hG hw; unfold Flow.Runs Flow.yields; go_simp; try rfl); go_simp; refine hK _ ?_; clear hK K)
      refine Flow.tree_nil fun w2 hw2 hG => ?_
      clear hG
      have hyl := HYY.out w2 hw2 (z : Nat)
      gi_wp2
      refine roundIn_any ((HRR.out _ hw2).mono ?_)
      clear hyl
      rintro e w3 ⟨rfl, hinv⟩
      have HV := Lib.hid hinv
      clear hinv hw2 c0 c1 c2 c3 c4 c5 c6 c7 c8 c9 ca cb' cc cd
      gi_wp2
      go_roundw
      case rel => exact ⟨k + 1, by omega, by go_num, HV.out⟩
      case measure => simp [intOf]; omega
    · have hki : ¬ (k : Int) < (nb : Int) + 1 := by omega
      have e : k = nb + 1 := by omega
      gi_wp2
      go_end0
      refine ⟨⟨_, rfl⟩, ?_⟩
      simpa using e ▸ HJ.out
end Go.Proofs.YtdfnolgcdododaaDoor
namespace Go.Proofs.YtdfnolgcdododaaDoor
open Go.RowKit Go.Sort Go.Maps
open Tess (Fil Que)

/-- An iterator of numbers, entered. -/
structure IterAt (gf : FuncId) (lb : Array Value) (ns : List Nat) (q : Nat → Prop) (W : World) : Prop where
  ent : ∀ args w, (callFunc gf args).run Tryd.prog w = .ok (.enter gf args) w
  counts : Counts gf lb ns q W
/-- What a method of the map gives. -/
def Gives (F : FuncId) (L : Array Value) (ns : List Nat) (p : Nat → Prop) (W : World) : Prop :=
  Calls Tryd.prog F #[.agg L] W fun e W' => ∃ gf lb, e = .returned (.func (.func gf) #[] lb) ∧ Below W.heap.size W W' ∧ IterAt gf lb ns (fun b => p b ∨ (W.heap.size ≤ b ∧ b < W'.heap.size)) W'
theorem counted_any (a b : Int) (w : World) :
    Calls Tryd.prog 115 #[.int .i64 a, .int .i64 b] w fun e w' => e = .returned (.func (.func 133) #[] #[.pointer (some ⟨w.heap.size, 0, none⟩), .pointer (some ⟨w.heap.size + 1, 0, none⟩)]) ∧ (w.alloc (.cells #[.int .i64 a] 3)).alloc (.cells #[.int .i64 b] 3) = w' := by
  go_enter Tryd.func115, Tryd.ntmps115
  go_wp2
  go_ret
  exact ⟨rfl, rfl⟩
theorem counted_at (m : Nat) (hm : m ≤ 1000000) (p : Nat → Prop) (W X : World) (hWX : W.heap.size ≤ X.heap.size) : IterAt 133 #[.pointer (some ⟨X.heap.size, 0, none⟩), .pointer (some ⟨X.heap.size + 1, 0, none⟩)] (List.range (m + 1))
    (fun b => p b ∨ (W.heap.size ≤ b ∧ b < ((X.alloc (.cells #[.int .i64 0] 3)).alloc (.cells #[.int .i64 (m : Nat)] 3)).heap.size)) ((X.alloc (.cells #[.int .i64 0] 3)).alloc (.cells #[.int .i64 (m : Nat)] 3)) := by
  obtain ⟨h1, h2, hS, _⟩ := laid2 X (.cells #[.int .i64 0] 3) (.cells #[.int .i64 (m : Nat)] 3)
  exact ⟨enters_of Tryd.func133 (by kernel_rfl) rfl, counted_iter m hm _ _ _ _ (cell_of_row _ _ 0 _ _ _ h1) (cell_of_row _ _ 0 _ _ _ h2) (.inr ⟨by omega, by omega⟩) (.inr ⟨by omega, by omega⟩) (by omega) (by omega)⟩

section
variable (x0 x2 x3 x4 x5 x6 x7 x8 x9 xa xb xc xd vb : Value)
set_option maxRecDepth 100000 in
theorem plain_any (p : Nat → Prop) (W : World) : Gives 77 #[x0, vb, x2, x3, x4, x5, x6, x7, x8, x9, xa, xb, xc, xd] [0] p W := by
  unfold Gives
  obtain ⟨h0, hS, hB⟩ := laid1 W (.cells #[x0, vb, x2, x3, x4, x5, x6, x7, x8, x9, xa, xb, xc, xd] 98)
  have hI := counted_at 0 (by omega) p W (W.alloc (.cells #[x0, vb, x2, x3, x4, x5, x6, x7, x8, x9, xa, xb, xc, xd] 98)) hB.size
  rw [hS] at hI
  have HI := Lib.hid hI
  have HB := Lib.hid hB
  clear h0 hS hB hI
  go_enter Tryd.func77, Tryd.ntmps77
  go_wp2_with (go_at_call 115; refine (counted_any _ _ _).mono ?_; rintro e w2 ⟨rfl, rfl⟩)
  go_ret
  exact ⟨_, _, rfl, (HB.out.alloc HB.out.size _).alloc (HB.out.alloc HB.out.size _).size _, HI.out⟩
set_option maxRecDepth 100000 in
theorem cube_any (p : Nat → Prop) (W : World) (ab : Option Addr) (nb cb : Nat) (hn : nb ≤ 6) : Gives 78 #[x0, .slice ab nb cb, x2, x3, x4, x5, x6, x7, x8, x9, xa, xb, xc, xd] (List.range (2 ^ nb)) p W := by
  unfold Gives
  obtain ⟨h0, hS, hB⟩ := laid1 W (.cells #[x0, .slice ab nb cb, x2, x3, x4, x5, x6, x7, x8, x9, xa, xb, xc, xd] 98)
  obtain ⟨p1, p2, p3⟩ := pow_small nb (by omega)
  have HALL := Lib.hid (fun X => all_any x0 x2 x3 x4 x5 x6 x7 x8 x9 xa xb xc xd ab nb cb (by omega) X)
  have HI := Lib.hid (fun X (hX : W.heap.size ≤ X.heap.size) => counted_at (2 ^ nb - 1) (by omega) p W X hX)
  rw [show 2 ^ nb - 1 + 1 = 2 ^ nb by omega] at HI
  obtain ⟨⟨c0, c1, c2, c3, c4, c5, c6, c7, c8, c9, ca, cb', cc, cd⟩, _⟩ := can14 h0
  have HB := Lib.hid hB
  generalize 2 ^ nb - 1 = A at *
  clear h0 hS hB p1 p2 p3
  go_enter Tryd.func78, Tryd.ntmps78
  go_wp2_with (first | (go_at_call 116; refine (HALL.out _).mono ?_; rintro e w2 ⟨rfl, hB2⟩; have HB2 := Lib.hid (Bt HB.out hB2); clear hB2) | (go_at_call 115; refine (counted_any _ _ _).mono ?_; rintro e w3 ⟨rfl, rfl⟩))
  go_ret
  exact ⟨_, _, rfl, (HB2.out.alloc HB2.out.size _).alloc (HB2.out.alloc HB2.out.size _).size _, HI.out _ HB2.out.size⟩
set_option maxRecDepth 100000 in
theorem rollup_any (p : Nat → Prop) (W : World) (ab : Option Addr) (nb cb : Nat) (hn : nb ≤ 6) : Gives 79 #[x0, .slice ab nb cb, x2, x3, x4, x5, x6, x7, x8, x9, xa, xb, xc, xd] ((List.range (nb + 1)).map fun k => 2 ^ nb - 2 ^ (nb - k)) p W := by
  unfold Gives
  obtain ⟨h0, hS, hB⟩ := laid1 W (.cells #[x0, .slice ab nb cb, x2, x3, x4, x5, x6, x7, x8, x9, xa, xb, xc, xd] 98)
  have HI := Lib.hid (rollup_iter nb hn W.heap.size ab cb x0 x2 x3 x4 x5 x6 x7 x8 x9 xa xb xc xd _ (fun b => p b ∨ (W.heap.size ≤ b ∧ b < (W.alloc (.cells #[x0, .slice ab nb cb, x2, x3, x4, x5, x6, x7, x8, x9, xa, xb, xc, xd] 98)).heap.size)) _ h0 (.inr ⟨Nat.le_refl _, by omega⟩))
  have HB := Lib.hid hB
  clear h0 hS hB
  go_enter Tryd.func79, Tryd.ntmps79
  go_wp2
  go_ret
  exact ⟨_, _, rfl, HB.out, enters_of Tryd.func117 (by kernel_rfl) rfl, HI.out⟩
set_option maxRecDepth 100000 in
theorem sets_any (p : Nat → Prop) (W : World) (vS : Value) (names : List ByteArray) (ls : List (List ByteArray)) (hn : names.length ≤ 6) (hb : SlP p W vb (names.map .string)) (hs : SetsAt p W vS ls) : Gives 80 #[x0, vb, x2, vS, x4, x5, x6, x7, x8, x9, xa, xb, xc, xd] (ls.map (Que.setOf names)) p W := by
  unfold Gives
  obtain ⟨h0, hS, hB⟩ := laid1 W (.cells #[x0, vb, x2, vS, x4, x5, x6, x7, x8, x9, xa, xb, xc, xd] 98)
  have HI := Lib.hid (sets_iter names ls hn W.heap.size x0 x2 x4 x5 x6 x7 x8 x9 xa xb xc xd vb vS _ (fun b => p b ∨ (W.heap.size ≤ b ∧ b < (W.alloc (.cells #[x0, vb, x2, vS, x4, x5, x6, x7, x8, x9, xa, xb, xc, xd] 98)).heap.size)) p (fun _ h => .inl h) _ h0 (.inr ⟨Nat.le_refl _, by omega⟩) (hb.ag (Ag.new _ hB)) (hs.ag (Ag.new _ hB)))
  have HB := Lib.hid hB
  clear h0 hS hB hb hs
  go_enter Tryd.func80, Tryd.ntmps80
  go_wp2
  go_ret
  exact ⟨_, _, rfl, HB.out, enters_of Tryd.func118 (by kernel_rfl) rfl, HI.out⟩
end
def modeF (k : Nat) : FuncId := if k = 1 then 77 else if k = 2 then 78 else if k = 3 then 79 else 80
def modesD (L : Array Value) : DataW Value :=
  ((((DataW.map []).put (.int .i64 1) (.held (.func (.func 77) #[.agg L] #[]))).put (.int .i64 2) (.held (.func (.func 78) #[.agg L] #[]))).put (.int .i64 3) (.held (.func (.func 79) #[.agg L] #[]))).put (.int .i64 4) (.held (.func (.func 80) #[.agg L] #[]))
theorem zeroModeV (w : World) : (zeroValue 101).run Tryd.prog w = .ok .nilFunc w := by kernel_rfl
def ModesAt (L : Array Value) (w : World) (b : Nat) : Prop := w.ownsMap Tryd.prog 3 asIs b 4 (modesD L)
theorem ModesAt.look {L : Array Value} {w : World} {b : Nat} (h : ModesAt L w b) (k : Nat) (h1 : 1 ≤ k) (h4 : k ≤ 4) :
    (Instr.lookup 102 (.map (some b)) (.int .i64 (k : Nat)) false).run Tryd.prog w = .ok (.func (.func (modeF k)) #[.agg L] #[]) w := by
  obtain ⟨v, ps, hrun, hv⟩ := World.ownsMap.lookup h lawInt Tryd.underlying102 (zeroModeV w) (zd := .held .nilFunc) (zp := []) rfl (keyOf_int_mk Tryd.underlying3 (WalkArith.wf_i64 (n := ((k : Nat) : Int)) ⟨by omega, by omega⟩))
  unfold asIs at hv
  have h2 : DataW.held v = (modesD L).atKey (.int .i64 (k : Nat)) (.held .nilFunc) := (Prod.ext_iff.1 (Option.some.inj hv)).1
  rw [hrun]
  have : v = .func (.func (modeF k)) #[.agg L] #[] := by
    rcases (show k = 1 ∨ k = 2 ∨ k = 3 ∨ k = 4 by omega) with rfl | rfl | rfl | rfl <;> exact DataW.held.inj h2
  rw [this]
set_option maxRecDepth 100000 in
set_option maxHeartbeats 4000000 in
theorem modes_any (x0 x1 x2 x3 x4 x5 x6 x7 x8 x9 xa xb xc xd : Value) (w : World) :
    Calls Tryd.prog 49 #[.agg #[x0, x1, x2, x3, x4, x5, x6, x7, x8, x9, xa, xb, xc, xd]] w fun e w' => ∃ b, e = .returned (.map (some b)) ∧ ModesAt #[x0, x1, x2, x3, x4, x5, x6, x7, x8, x9, xa, xb, xc, xd] w' b ∧ Below w.heap.size w w' := by
  have hmm := @run_makeMap Tryd.prog
  have HO0 := Lib.hid (World.ownsMap_made (H := Value) (w.alloc (.cells #[x0, x1, x2, x3, x4, x5, x6, x7, x8, x9, xa, xb, xc, xd] 98)) Tryd.prog 3 asIs)
  have HB0 := Lib.hid (((Below.refl w.heap.size w).alloc (Nat.le_refl _) (.cells #[x0, x1, x2, x3, x4, x5, x6, x7, x8, x9, xa, xb, xc, xd] 98)).alloc (by simp) (.map #[] 0))
  have hC0 := (laid2 w (.cells #[x0, x1, x2, x3, x4, x5, x6, x7, x8, x9, xa, xb, xc, xd] 98) (.map #[] 0)).1
  have HC0 := Lib.hid hC0
  rw [show (w.alloc (.cells #[x0, x1, x2, x3, x4, x5, x6, x7, x8, x9, xa, xb, xc, xd] 98)).heap.size = w.heap.size + 1 by simp] at HO0
  clear hC0
  go_enter Tryd.func49, Tryd.ntmps49
  have HO := HO0
  have HB := HB0
  have HC := HC0
  clear HO0 HB0 HC0
  go_wp2_with (refine wpList_insert_own _ rfl _ _ _ 102 rfl 3 101 lawInt Tryd.underlying102 asIs (w.heap.size + 1) _ _ rfl HO.out (by decide) _ _ _ rfl rfl (keyOf_int_mk Tryd.underlying3 (by decide)) _ _ rfl ?_; intro w1 hown1 hg1; have hc1 := (hg1.block w.heap.size (by have := HB.out; have := (Array.getElem?_eq_some_iff.1 HC.out).1; exact this) (by simp)).trans HC.out; have HB' := Lib.hid (HB.out.grown hg1 HB.out.size (fun j e => by cases e; omega)); have HO' := Lib.hid hown1; have HC' := Lib.hid hc1; obtain ⟨⟨q0, q1, q2, q3, q4, q5, q6, q7, q8, q9, qa, qb, qc, qd⟩, _⟩ := can14 hc1; clear hown1 hg1 hc1 HO HB HC; have HO := HO'; have HB := HB'; have HC := HC'; clear HO' HB' HC')
  go_ret
  exact ⟨_, rfl, HO.out, HB.out⟩
end Go.Proofs.YtdfnolgcdododaaDoor
namespace Go.Proofs.YtdfnolgcdododaaDoor
open Go.RowKit Go.Sort Go.Shelf
open Tess (Fil Que)
attribute [local go_sem] Oper.semAt_some

def natV (l : List Nat) : List Value := l.map fun k => .int .i64 ((k : Nat) : Int)
theorem infoInt : (Tryd.prog.info? 3).map (fun i => (i.zero, i.size, i.bytes)) = some (some (.int .i64 0), 1, 8) := by kernel_rfl
/-- What sets come to. -/
def SetsPost (w : World) (ck : Nat) (l : List Nat) (e : Ending) (w' : World) : Prop := ∃ v', e = .returned (.tuple #[v', .int .i64 (ck : Nat)]) ∧ SlP (fun b => w.heap.size ≤ b) w' v' (natV (if ck = 0 then l else [])) ∧ Below w.heap.size w w'
/-- What lies there while sets are listed. -/
structure St (w : World) (L : Nat) (qc lc : Array Value) (ov : Value) (ns : List Nat) (W : World) : Prop where
  kQ : W.heap[w.heap.size + 1]? = some (.cells qc 63 (0, 0))
  kL : W.heap[L]? = some (.cells lc 98 (0, 0))
  kO : W.heap[L + 1]? = some (.cells #[ov] 65 (0, 0))
  own : W.ownsRow (L + 2) 3 1 ov ns.length (natV ns)
  below : Below w.heap.size w W
  hL : w.heap.size + 2 ≤ L
  size : L + 2 ≤ W.heap.size
section
variable {w W W' : World} {L : Nat} {qc lc : Array Value} {ov ov' : Value} {ns ns' : List Nat}
theorem St.later (h : St w L qc lc ov ns W) (hb : Below W.heap.size W W') : St w L qc lc ov ns W' :=
  have h1 := h.size; have h2 := h.hL
  ⟨(hb.block _ (by omega)).trans h.kQ, (hb.block _ (by omega)).trans h.kL, (hb.block _ (by omega)).trans h.kO, owns_below h.own hb, Bt h.below hb, h.hL, Nat.le_trans h.size hb.size⟩
theorem St.but {l : Nat} (h : St w L qc lc ov ns W) (hs : Rf.SameBut l W W') (hl : L + 2 ≤ l) {o : Obj} (ho : W.heap[l]? = some o) (hc : o.isCells = false) : St w L qc lc ov ns W' :=
  have h2 := h.hL
  ⟨(hs.block _ (by omega)).trans h.kQ, (hs.block _ (by omega)).trans h.kL, (hs.block _ (by omega)).trans h.kO, hs.owns h.own ho hc, h.below.trans (hs.below (by omega)), h.hL, by rw [hs.size]; exact h.size⟩
theorem St.block (h : St w L qc lc ov ns W) {o : Obj} (hg : (W.alloc o).grownBy W' ov.ownBlock) {k : Nat} (hk : k < L + 2) : W'.heap[k]? = W.heap[k]? := by
  have hs := h.size
  exact (hg.block k (by simp; omega) (fun e => by have := (h.own.lt k e.symm).1; omega)).trans (Below.heap_alloc _ _ _ (by omega))
theorem St.append (h : St w L qc lc ov ns W) {o : Obj} (hg : (W.alloc o).grownBy W' ov.ownBlock) (hown : W'.ownsRow (L + 2) 3 1 ov' ns'.length (natV ns')) : St w L qc lc ov' ns' (W'.setCell ⟨L + 1, 0, none⟩ ov') := by
  have hs := h.size
  have h2 := h.hL
  have hb : Below w.heap.size w W' := (h.below.alloc h.below.size _).grown hg (by simp; omega) (fun k e => by have := (h.own.lt k e).1; omega)
  exact ⟨(heap_setCell_other _ _ _ _ (by show _ ≠ L + 1; omega)).trans ((h.block hg (by omega)).trans h.kQ), (heap_setCell_other _ _ _ _ (by show _ ≠ L + 1; omega)).trans ((h.block hg (by omega)).trans h.kL), heap_setCell_same _ _ _ _ _ _ ((h.block hg (by omega)).trans h.kO),
    ownsRow_setCell_below hown (by show L + 1 < _; omega) _, hb.setCell (by show _ ≤ L + 1; omega) _, h.hL, by have := hg.size; simp [World.setCell] at *; omega⟩
end
theorem ownsRow_ne_a {W : World} {base : Nat} {e : TypeId} {size : Nat} {v : Value} {k : Nat} {xs : List Value} (h : W.ownsRow base e size v k xs) {j : Nat} {o : Obj} (hj : W.heap[j]? = some o) (hno : ∀ cur, o ≠ .cells cur e (0, 0)) :
    v.ownBlock = none ∨ v.ownBlock ≠ some j := by
  rcases h.2 with ⟨rfl, _⟩ | ⟨g, cap, cur, rfl, _, hgb, _⟩
  · exact .inl rfl
  · refine .inr fun e' => ?_
    have : g = j := by simpa [Value.ownBlock] using e'
    subst this; rw [hgb] at hj; cases hj; exact hno cur rfl
theorem hs_ne {W : World} {B k : Nat} {u : Value} (h : k ≠ B) : (W.setCell ⟨B, 0, none⟩ u).heap[k]? = W.heap[k]? := Below.heap_setCell _ _ _ _ h
theorem SetsAt.lt {p : Nat → Prop} {w : World} {v : Value} {l : List (List ByteArray)} (h : SetsAt p w v l) : SetsAt (fun b => p b ∧ b < w.heap.size) w v l := by
  obtain ⟨a, cap, hv, h1, h2, h3, h4⟩ := h
  refine ⟨a, cap, hv, h1, h2, h3, fun hl => ?_⟩
  obtain ⟨b, off, ha, hb, hp, hc⟩ := h4 hl
  refine ⟨b, off, ha, hb, ⟨hp, hb⟩, fun j hj => ?_⟩
  obtain ⟨c, e1, e2, e3⟩ := hc j hj
  exact ⟨c, e1, e2.lt, e3⟩
/-- What lies there between two rounds of the range. -/
def Rn (w : World) (L : Nat) (qc lc : Array Value) (so : List Nat) (M : Nat) (rec : Loop) (qq : Nat → Prop) (N5 : Nat) (W6 : World) (k : Nat) (W : World) : Prop :=
  ∃ ov, St w L qc lc ov (so.take k) W ∧ W.heap[M]? = some (.deferred (some [])) ∧ W.heap[M + 1]? = some (.loop rec) ∧ Ag qq W6 W ∧ ∀ g, ov.ownBlock = some g → g < N5 ∨ M < g
theorem ag_but {l : Nat} {W W' : World} (q : Nat → Prop) (h : Rf.SameBut l W W') (hl : ¬ q l) : Ag q W W' := ⟨by rw [h.size]; exact Nat.le_refl _, fun b _ hb => h.block b (fun e => hl (e ▸ hb))⟩
theorem St.putO {w W : World} {L : Nat} {qc lc : Array Value} {ov ov' : Value} {ns ns' : List Nat} (h : St w L qc lc ov ns W) (hown : W.ownsRow (L + 2) 3 1 ov' ns'.length (natV ns')) : St w L qc lc ov' ns' (W.setCell ⟨L + 1, 0, none⟩ ov') := by
  have h2 := h.hL
  exact ⟨(heap_setCell_other _ _ _ _ (by show _ ≠ L + 1; omega)).trans h.kQ, (heap_setCell_other _ _ _ _ (by show _ ≠ L + 1; omega)).trans h.kL, heap_setCell_same _ _ _ _ _ _ h.kO, ownsRow_setCell_below hown (by show L + 1 < _; omega) _, h.below.setCell (by show _ ≤ L + 1; omega) _, h.hL, by simp [World.setCell]; exact h.size⟩
def isModes (L : Array Value) (v : Value) (W : World) : Prop := ∃ b, v = .map (some b) ∧ ModesAt L W b
theorem isModes_mono (L : Array Value) : Flow.Spec.mono (.inr (isModes L)) := fun _ _ _ ⟨b, h1, h2⟩ hb => ⟨b, h1, World.ownsMap.kept h2 (Below.grownNone hb) (by simp)⟩
theorem natV_snoc (ns : List Nat) (k : Nat) (h : k < ns.length) : natV (ns.take k) ++ [.int .i64 ((ns[k] : Nat) : Int)] = natV (ns.take (k + 1)) := by
  unfold natV; rw [List.take_succ_eq_append_getElem h, List.map_append, List.map_singleton]

set_option maxRecDepth 100000 in
set_option maxHeartbeats 8000000 in
theorem sets17_any (a0 a1 : Addr) (p : Nat → Prop) (n : Nat) (vs v : Value) (s : Tess.Sch) (q : Que) (va vb vS f0 f1 f2 f3 f4 f5 vh vo : Value) (w : World) (hV : Vars a0 a1 w) (hs : SchAt p w vs s) (hq : QueAt p n w v q va vb vS f0 f1 f2 f3 f4 f5 vh vo) (hn : n ≤ 100) (hK : kindsOk q.fil) :
    Calls Tryd.prog 25 #[vs, v] w (SetsPost w (Que.check s q) (Que.setsOf q)) := by
  have HCK := Lib.hid (fun W (hB : Below w.heap.size w W) => qcheck_any a0 a1 p n vs v s q va vb vS f0 f1 f2 f3 f4 f5 vh vo W (hV.below hB) (hs.ag (Ag.new p hB)) (hq.ag (Ag.new p hB)) hn hK)
  obtain ⟨vd, vm, rfl, _, _, _, _⟩ := hs
  have hv := hq.e
  subst hv
  obtain ⟨ab, cb, rfl, _, hdum⟩ := sls_open hq.names.1
  obtain ⟨aa, ca, rfl⟩ := hq.aggs.shape
  obtain ⟨aS, cS, rfl⟩ := hq.sets.shape
  obtain ⟨ah, ch, rfl⟩ := hq.conds.shape
  obtain ⟨ao, co, rfl⟩ := hq.keys.shape
  obtain ⟨z0, z1, z2, z3, z4, ez⟩ := FilAt.shape6 hq.fil
  simp only [Value.agg.injEq, Array.mk.injEq, List.cons.injEq, and_true] at ez
  obtain ⟨rfl, rfl, rfl, rfl, rfl, rfl⟩ := ez
  have HQ := Lib.hid hq
  clear hq hV hdum
  obtain ⟨i0, hi, hz0, hz1, hz2⟩ := info_parts infoInt
  obtain ⟨W0, hW0⟩ : ∃ W0, (w.alloc (.cells #[vd, vm, .int .i64 s.grain] 24)).alloc (.cells #[.slice aa q.aggs.length ca, .slice ab q.names.length cb, .int .i64 q.mode, .slice aS q.sets.length cS, .int .i64 q.every, .int .i64 q.fil.kind, .string q.fil.name, .slice z0 z1 z2, .int .i64 q.fil.frm, .int .i64 q.fil.to, .slice z3 q.fil.l.length z4, .slice ah q.conds.length ch, .slice ao q.keys.length co, .int .i64 q.limit] 63) = W0 := ⟨_, rfl⟩
  obtain ⟨h1, h2, hS0, hB0⟩ := laid2 w (.cells #[vd, vm, .int .i64 s.grain] 24) (.cells #[.slice aa q.aggs.length ca, .slice ab q.names.length cb, .int .i64 q.mode, .slice aS q.sets.length cS, .int .i64 q.every, .int .i64 q.fil.kind, .string q.fil.name, .slice z0 z1 z2, .int .i64 q.fil.frm, .int .i64 q.fil.to, .slice z3 q.fil.l.length z4, .slice ah q.conds.length ch, .slice ao q.keys.length co, .int .i64 q.limit] 63)
  rw [hW0] at h1 h2 hS0 hB0
  have HB0 := Lib.hid hB0
  have H2 := Lib.hid h2
  have HS0 := Lib.hid hS0
  obtain ⟨x0, x1, x2⟩ := (can3 h1).1
  obtain ⟨y0, y1, y2, y3, y4, y5, y6, y7, y8, y9, ya, yb, yc, yd⟩ := (can14 h2).1
  clear h1 h2 hS0 hB0
  refine (callsIn_wide (n := 5)).1 ?_
  refine callsIn_of_wp_marks Tryd.func25 rfl trivial ?_ rfl
  simp only [Tryd.ntmps25, List.size_toArray, List.length_cons, List.length_nil, Nat.reduceAdd, Nat.reduceSub, Array.replicate_succ, Array.replicate_zero, List.push_toArray, List.append_toArray, List.nil_append, List.cons_append]
  gi_wp2_with (refine ⟨trivial, ?_⟩; gi_at_call 48; fail)
  refine ⟨trivial, ?_⟩
  gi_at_call 48
  refine (callsIn_wide.2 (HCK.out _ HB0.out)).mono ?_
  rintro e W1 ⟨rfl, hB1⟩
  have hQ1 := (hB1.block _ (Array.getElem?_eq_some_iff.1 H2.out).1).trans H2.out
  have HB1 := Lib.hid (Bt HB0.out hB1)
  have hsz1 : w.heap.size + 2 ≤ W1.heap.size := by have := HS0.out; have := hB1.size; omega
  clear x0 x1 x2 y0 y1 y2 y3 y4 y5 y6 y7 y8 y9 ya yb yc yd hB1
  obtain ⟨y0, y1, y2, y3, y4, y5, y6, y7, y8, y9, ya, yb, yc, yd⟩ := (can14 hQ1).1
  have HQ1 := Lib.hid hQ1
  clear hQ1
  by_cases hck : Que.check s q = 0
  · obtain ⟨_, hn6, ⟨hm1, hm4⟩, hs8⟩ := Que.isOf_names (Que.check_ok hck)
    rw [hck]
    obtain ⟨pw1, pw2, pw3⟩ := pow_small q.names.length (by omega)
    obtain ⟨P, hP⟩ : ∃ P, P = 2 ^ q.names.length := ⟨_, rfl⟩
    rw [← hP] at pw1 pw2 pw3
    have HP0 := Lib.hid hP
    clear hP
    have hmode : q.mode = 1 ∨ q.mode = 2 ∨ q.mode = 3 ∨ q.mode = 4 := by omega
    have HSO : RowKit.Hid (Que.setsOf q = if q.mode = 1 then [0] else if q.mode = 2 then List.range (2 ^ q.names.length) else if q.mode = 3 then (List.range (q.names.length + 1)).map (fun k => 2 ^ q.names.length - 2 ^ (q.names.length - k)) else q.sets.map (Que.setOf q.names)) := Lib.hid rfl
    obtain ⟨p1, hp1⟩ : ∃ p1 : Nat → Prop, p1 = fun b => p b ∧ b < w.heap.size := ⟨_, rfl⟩
    have HNM := Lib.hid (fun X (hX : Below w.heap.size w X) => (HQ.out.names.lt.ag (Ag.below _ hX fun b _ hb => hb.2)))
    have HST := Lib.hid (fun X (hX : Below w.heap.size w X) => (HQ.out.sets.lt.ag (Ag.below _ hX fun b _ hb => hb.2)))
    have HCK0 := Lib.hid hck
    generalize Que.setsOf q = so at *
    rw [← hp1] at HNM HST
    generalize q.mode = md at *
    generalize Que.check s q = ck at *
    clear hck hm1 hm4 HCK
    rcases hmode with rfl | rfl | rfl | rfl
    · have hso : so = [0] := HSO.out.trans (if_pos rfl)
      have HG := Lib.hid (fun X (hX : Below w.heap.size w X) => plain_any (.slice aa q.aggs.length ca) (.int .i64 1) (.slice aS q.sets.length cS) (.int .i64 q.every) (.int .i64 q.fil.kind) (.string q.fil.name) (.slice z0 z1 z2) (.int .i64 q.fil.frm) (.int .i64 q.fil.to) (.slice z3 q.fil.l.length z4) (.slice ah q.conds.length ch) (.slice ao q.keys.length co) (.int .i64 q.limit) (.slice ab q.names.length cb) p1 X)
      have hsl : so.length ≤ 1999 := by rw [hso]; decide
      rw [← hso] at HG
      clear hso HSO
      obtain ⟨lc, hlc⟩ : ∃ lc : Array Value, lc = #[.slice aa q.aggs.length ca, .slice ab q.names.length cb, .int .i64 1, .slice aS q.sets.length cS, .int .i64 q.every, .int .i64 q.fil.kind, .string q.fil.name, .slice z0 z1 z2, .int .i64 q.fil.frm, .int .i64 q.fil.to, .slice z3 q.fil.l.length z4, .slice ah q.conds.length ch, .slice ao q.keys.length co, .int .i64 q.limit] := ⟨_, rfl⟩
      obtain ⟨W2, hW2⟩ : ∃ W2, (W1.alloc (.cells #[.slice aa q.aggs.length ca, .slice ab q.names.length cb, .int .i64 1, .slice aS q.sets.length cS, .int .i64 q.every, .int .i64 q.fil.kind, .string q.fil.name, .slice z0 z1 z2, .int .i64 q.fil.frm, .int .i64 q.fil.to, .slice z3 q.fil.l.length z4, .slice ah q.conds.length ch, .slice ao q.keys.length co, .int .i64 q.limit] 98)).alloc (.cells #[.slice none 0 0] 65) = W2 := ⟨_, rfl⟩
      obtain ⟨hL2, hO2, hS2, hB2⟩ := laid2 W1 (.cells #[.slice aa q.aggs.length ca, .slice ab q.names.length cb, .int .i64 1, .slice aS q.sets.length cS, .int .i64 q.every, .int .i64 q.fil.kind, .string q.fil.name, .slice z0 z1 z2, .int .i64 q.fil.frm, .int .i64 q.fil.to, .slice z3 q.fil.l.length z4, .slice ah q.conds.length ch, .slice ao q.keys.length co, .int .i64 q.limit] 98) (.cells #[.slice none 0 0] 65)
      rw [hW2] at hL2 hO2 hS2 hB2
      have hQ2 := (hB2.block _ (by omega)).trans HQ1.out
      have hSt2 : St w W1.heap.size #[.slice aa q.aggs.length ca, .slice ab q.names.length cb, .int .i64 1, .slice aS q.sets.length cS, .int .i64 q.every, .int .i64 q.fil.kind, .string q.fil.name, .slice z0 z1 z2, .int .i64 q.fil.frm, .int .i64 q.fil.to, .slice z3 q.fil.l.length z4, .slice ah q.conds.length ch, .slice ao q.keys.length co, .int .i64 q.limit] #[.slice aa q.aggs.length ca, .slice ab q.names.length cb, .int .i64 1, .slice aS q.sets.length cS, .int .i64 q.every, .int .i64 q.fil.kind, .string q.fil.name, .slice z0 z1 z2, .int .i64 q.fil.frm, .int .i64 q.fil.to, .slice z3 q.fil.l.length z4, .slice ah q.conds.length ch, .slice ao q.keys.length co, .int .i64 q.limit] (.slice none 0 0) [] W2 := ⟨hQ2, hL2, hO2, World.ownsRow_nil _ _ _ _, Bt HB1.out hB2, hsz1, by omega⟩
      have HS2 := Lib.hid hSt2
      have hS2' := hS2
      clear hL2 hO2 hS2 hB2 hSt2
      obtain ⟨q0, q1, q2, q3, q4, q5, q6, q7, q8, q9, qa, qb, qc, qd⟩ := (can14 hQ2).1
      obtain ⟨oc, oz⟩ := cell_of_box HS2.out.kO
      clear hQ2
      gi_wp2
      obtain ⟨W4, rfl⟩ : ∃ W4, W4 = W2 := ⟨_, rfl⟩
      have HS4 := Lib.hid HS2.out
      clear q0 q1 q2 q3 q4 q5 q6 q7 q8 q9 qa qb qc qd oc oz
      clear HS2 hW2 hS2'
      obtain ⟨ov0, hov⟩ : ∃ ov0, ov0 = Value.slice none 0 0 := ⟨_, rfl⟩
      rw [← hov] at HS4
      clear hov
      obtain ⟨l0, l1, l2, l3, l4, l5, l6, l7, l8, l9, la, lb, lc', ld⟩ := (can14 HS4.out.kL).1
      have q2 := (can14 HS4.out.kQ).1.2.2.1
      have hls := HS4.out.size
      have hlw : w.heap.size + 1 < W4.heap.size := by omega
      have hl0 : W1.heap.size < W4.heap.size := by omega
      refine Flow.wpIn_region_flow_tail 5 (Flow.specs [.inl ?_, .inr (isModes #[.slice aa q.aggs.length ca, .slice ab q.names.length cb, .int .i64 1, .slice aS q.sets.length cS, .int .i64 q.every, .int .i64 q.fil.kind, .string q.fil.name, .slice z0 z1 z2, .int .i64 q.fil.frm, .int .i64 q.fil.to, .slice z3 q.fil.l.length z4, .slice ah q.conds.length ch, .slice ao q.keys.length co, .int .i64 q.limit]), .inl ?_, .inl ?_, .inl (.func (.func 77) #[.agg #[.slice aa q.aggs.length ca, .slice ab q.names.length cb, .int .i64 1, .slice aS q.sets.length cS, .int .i64 q.every, .int .i64 q.fil.kind, .string q.fil.name, .slice z0 z1 z2, .int .i64 q.fil.frm, .int .i64 q.fil.to, .slice z3 q.fil.l.length z4, .slice ah q.conds.length ch, .slice ao q.keys.length co, .int .i64 q.limit]] #[])]) (by kernel_rfl) (by kernel_rfl) ?_ ?_
      rotate_left 3
      · refine Flow.specs_mono ?_
        repeat (first | exact Flow.lmono_nil | refine Flow.lmono_inl ?_ | refine Flow.lmono_inr (isModes_mono _) ?_)
      all_goals try simp only [List.take_succ_cons, List.take_zero, List.drop_succ_cons, List.drop_zero]
      (refine Flow.tree_valK rfl (fun K hK => ⟨fun w hw hG => ?_, ?_⟩); (have hcl := Flow.bcell hw; clear hG hw; unfold Flow.Runs Flow.yields; go_simp; try rfl); go_simp; refine hK _ ?_; clear hK K)
      (refine Flow.tree_varK rfl (fun K hK => ⟨fun w hw hG => ?_, ?_⟩); (clear hG hw; unfold Flow.Runs Flow.yields; go_simp; refine (modes_any _ _ _ _ _ _ _ _ _ _ _ _ _ _ _).mono ?_; rintro e w3 ⟨b, rfl, hm, hb3⟩; exact ⟨_, rfl, hb3, b, rfl, hm⟩); intro vm'; go_simp; refine hK _ _ ?_; clear hK K)
      iterate 2 (refine Flow.tree_valK rfl (fun K hK => ⟨fun w hw hG => ?_, ?_⟩); (have hcl := Flow.bcell hw; clear hG hw; unfold Flow.Runs Flow.yields; go_simp; try rfl); go_simp; refine hK _ ?_; clear hK K)
      (refine Flow.tree_valK rfl (fun K hK => ⟨fun w hw hG => ?_, ?_⟩); (have hvm := (show isModes #[.slice aa q.aggs.length ca, .slice ab q.names.length cb, .int .i64 1, .slice aS q.sets.length cS, .int .i64 q.every, .int .i64 q.fil.kind, .string q.fil.name, .slice z0 z1 z2, .int .i64 q.fil.frm, .int .i64 q.fil.to, .slice z3 q.fil.l.length z4, .slice ah q.conds.length ch, .slice ao q.keys.length co, .int .i64 q.limit] vm' w by simpa [Flow.upd] using hG 1 (by kernel_rfl)); clear hG; obtain ⟨bm, rfl, hm⟩ := hvm; have hlk : (Instr.lookup 102 (.map (some bm)) (.int .i64 1) false).run Tryd.prog w = .ok (.func (.func 77) #[.agg #[.slice aa q.aggs.length ca, .slice ab q.names.length cb, .int .i64 1, .slice aS q.sets.length cS, .int .i64 q.every, .int .i64 q.fil.kind, .string q.fil.name, .slice z0 z1 z2, .int .i64 q.fil.frm, .int .i64 q.fil.to, .slice z3 q.fil.l.length z4, .slice ah q.conds.length ch, .slice ao q.keys.length co, .int .i64 q.limit]] #[]) w := hm.look 1 (by omega) (by omega); clear hm; unfold Flow.Runs Flow.yields; go_simp; try rfl); go_simp; refine hK _ ?_; clear hK K)
      refine Flow.tree_nil fun W5 hW5 hG => ?_
      clear hG l0 l1 l2 l3 l4 l5 l6 l7 l8 l9 la lb lc' ld q2
      have HS5 := Lib.hid (HS4.out.later hW5)
      have hg5 := HG.out W5 HS5.out.below
      unfold Gives at hg5
      have HG5 := Lib.hid hg5
      clear hg5 hW5
      gi_wp2_with (refine ⟨trivial, ?_⟩; gi_at_call 77; refine (callsIn_wide.2 HG5.out).mono ?_; rintro e W6 ⟨gf, lb, rfl, hB6, hit⟩)
      have HS6 := Lib.hid (HS5.out.later hB6)
      have HIT := Lib.hid hit
      have hB6' := hB6.size
      have hs5 := HS5.out.size
      clear hit hB6 HG5 HG HS4 hls hlw hl0
      refine Rf.range_wide (gf := gf) (lb := lb) rfl HIT.out.ent ?_
      intro fn W7 hL hD hB7 hS7
      obtain ⟨M, hM⟩ : ∃ M, M = W6.heap.size := ⟨_, rfl⟩
      rw [← hM] at hL hD hS7 ⊢
      obtain ⟨rec, hrec, hL⟩ : ∃ rec : Loop, rec = _ ∧ W7.heap[M + 1]? = some (.loop rec) := ⟨_, rfl, hL⟩
      have HREC := Lib.hid hrec
      have hst : rec.state = .ready ∧ rec.params.size = 1 ∧ rec.pending = none := by rw [hrec]; exact ⟨rfl, rfl, rfl⟩
      clear hrec
      obtain ⟨hst, hps, hpe⟩ := hst
      have hMs : W1.heap.size + 2 ≤ M := by omega
      obtain ⟨qq, hqq⟩ : ∃ qq : Nat → Prop, qq = fun b => p1 b ∨ (W5.heap.size ≤ b ∧ b < W6.heap.size) := ⟨_, rfl⟩
      have hqw : ∀ b, qq b → b ≠ W1.heap.size + 1 ∧ b < M ∧ (W1.heap.size + 2 ≤ b → W5.heap.size ≤ b) := fun b hb => by
        rw [hqq] at hb
        rcases hb with hb | hb
        · rw [hp1] at hb; have := hb.2; exact ⟨by omega, by omega, fun h => by omega⟩
        · exact ⟨by omega, by omega, fun _ => hb.1⟩
      have HCT := Lib.hid (hqq ▸ HIT.out.counts)
      have hI0 : Rn w W1.heap.size #[.slice aa q.aggs.length ca, .slice ab q.names.length cb, .int .i64 1, .slice aS q.sets.length cS, .int .i64 q.every, .int .i64 q.fil.kind, .string q.fil.name, .slice z0 z1 z2, .int .i64 q.fil.frm, .int .i64 q.fil.to, .slice z3 q.fil.l.length z4, .slice ah q.conds.length ch, .slice ao q.keys.length co, .int .i64 q.limit] #[.slice aa q.aggs.length ca, .slice ab q.names.length cb, .int .i64 1, .slice aS q.sets.length cS, .int .i64 q.every, .int .i64 q.fil.kind, .string q.fil.name, .slice z0 z1 z2, .int .i64 q.fil.frm, .int .i64 q.fil.to, .slice z3 q.fil.l.length z4, .slice ah q.conds.length ch, .slice ao q.keys.length co, .int .i64 q.limit] so M rec qq W5.heap.size W6 0 W7 := ⟨ov0, by simpa using HS6.out.later (hM ▸ hB7), hD, hL, Ag.new _ (hM ▸ hB7), fun g hg => .inl (HS5.out.own.lt g hg).2⟩
      clear hB7 hS7 HIT HS6 HS5 hqq hM
      refine callsIn_wide.2 ((HCT.out (M + 1) rec.fn (fun v => (rec.params.zip #[v]).foldl (fun tmps (t, a) => tmps.setIfInBounds t a) rec.tmps) rec.assign rec.body (Rn w W1.heap.size #[.slice aa q.aggs.length ca, .slice ab q.names.length cb, .int .i64 1, .slice aS q.sets.length cS, .int .i64 q.every, .int .i64 q.fil.kind, .string q.fil.name, .slice z0 z1 z2, .int .i64 q.fil.frm, .int .i64 q.fil.to, .slice z3 q.fil.l.length z4, .slice ah q.conds.length ch, .slice ao q.keys.length co, .int .i64 q.limit] #[.slice aa q.aggs.length ca, .slice ab q.names.length cb, .int .i64 1, .slice aS q.sets.length cS, .int .i64 q.every, .int .i64 q.fil.kind, .string q.fil.name, .slice z0 z1 z2, .int .i64 q.fil.frm, .int .i64 q.fil.to, .slice z3 q.fil.l.length z4, .slice ah q.conds.length ch, .slice ao q.keys.length co, .int .i64 q.limit] so M rec qq W5.heap.size W6) ?_ ?_ ?_ ?_ W7 hI0).mono ?_)
      · rintro k W W' ⟨ov, h1, h2, h3, h4, h5⟩ hb
        exact ⟨ov, h1.later hb, (hb.block _ (by have := (Array.getElem?_eq_some_iff.1 h2).1; exact this)).trans h2, (hb.block _ (by have := (Array.getElem?_eq_some_iff.1 h3).1; exact this)).trans h3, h4.trans (Ag.new _ hb), h5⟩
      · rintro k W ⟨ov, h1, h2, h3, h4, h5⟩; exact h4
      · rintro k W ⟨ov, h1, h2, h3, h4, h5⟩ z; exact run_yield h3 (by rw [hps]; rfl)
      · rintro k W hk ⟨ov, h1, h2, h3, h4, h5⟩
        have HS := Lib.hid h1
        have HD := Lib.hid h2
        have HL := Lib.hid h3
        have HA := Lib.hid h4
        have HOB := Lib.hid h5
        clear h1 h2 h3 h4 h5
        have HSN := Lib.hid (natV_snoc so k hk)
        have hlen : (so.take k).length = k := by simp; omega
        have hlen1 : (so.take (k + 1)).length = k + 1 := by simp; omega
        have hk2 : k ≤ 2000 := by omega
        have hRn : RowKit.Hid (∀ W', Rn w W1.heap.size #[.slice aa q.aggs.length ca, .slice ab q.names.length cb, .int .i64 1, .slice aS q.sets.length cS, .int .i64 q.every, .int .i64 q.fil.kind, .string q.fil.name, .slice z0 z1 z2, .int .i64 q.fil.frm, .int .i64 q.fil.to, .slice z3 q.fil.l.length z4, .slice ah q.conds.length ch, .slice ao q.keys.length co, .int .i64 q.limit] #[.slice aa q.aggs.length ca, .slice ab q.names.length cb, .int .i64 1, .slice aS q.sets.length cS, .int .i64 q.every, .int .i64 q.fil.kind, .string q.fil.name, .slice z0 z1 z2, .int .i64 q.fil.frm, .int .i64 q.fil.to, .slice z3 q.fil.l.length z4, .slice ah q.conds.length ch, .slice ao q.keys.length co, .int .i64 q.limit] so M rec qq W5.heap.size W6 (k + 1) W' ↔ ∃ ov, St w W1.heap.size #[.slice aa q.aggs.length ca, .slice ab q.names.length cb, .int .i64 1, .slice aS q.sets.length cS, .int .i64 q.every, .int .i64 q.fil.kind, .string q.fil.name, .slice z0 z1 z2, .int .i64 q.fil.frm, .int .i64 q.fil.to, .slice z3 q.fil.l.length z4, .slice ah q.conds.length ch, .slice ao q.keys.length co, .int .i64 q.limit] #[.slice aa q.aggs.length ca, .slice ab q.names.length cb, .int .i64 1, .slice aS q.sets.length cS, .int .i64 q.every, .int .i64 q.fil.kind, .string q.fil.name, .slice z0 z1 z2, .int .i64 q.fil.frm, .int .i64 q.fil.to, .slice z3 q.fil.l.length z4, .slice ah q.conds.length ch, .slice ao q.keys.length co, .int .i64 q.limit] ov (so.take (k + 1)) W' ∧ W'.heap[M]? = some (.deferred (some [])) ∧ W'.heap[M + 1]? = some (.loop rec) ∧ Ag qq W6 W' ∧ ∀ g, ov.ownBlock = some g → g < W5.heap.size ∨ M < g) := Lib.hid (fun _ => Iff.rfl)
        generalize Rn w W1.heap.size #[.slice aa q.aggs.length ca, .slice ab q.names.length cb, .int .i64 1, .slice aS q.sets.length cS, .int .i64 q.every, .int .i64 q.fil.kind, .string q.fil.name, .slice z0 z1 z2, .int .i64 q.fil.frm, .int .i64 q.fil.to, .slice z3 q.fil.l.length z4, .slice ah q.conds.length ch, .slice ao q.keys.length co, .int .i64 q.limit] #[.slice aa q.aggs.length ca, .slice ab q.names.length cb, .int .i64 1, .slice aS q.sets.length cS, .int .i64 q.every, .int .i64 q.fil.kind, .string q.fil.name, .slice z0 z1 z2, .int .i64 q.fil.frm, .int .i64 q.fil.to, .slice z3 q.fil.l.length z4, .slice ah q.conds.length ch, .slice ao q.keys.length co, .int .i64 q.limit] so M rec qq W5.heap.size W6 (k + 1) = RN at *
        generalize so[k] = zv at *
        generalize so.take (k + 1) = nk1 at *
        generalize so.take k = nk at *
        clear hk
        refine Rf.round_wide (r := rec) ?_
        have hrr := HREC.out
        subst hrr
        dsimp only
        gi_wp2_with (rw [Oper.semAt_eq _ _ _ (fun c h => by cases h)]; go_simp; try go_bits)
        refine ⟨HL.out, fun W9 hs9 hl9 => ?_⟩
        have HS9 := Lib.hid (HS.out.but hs9 (by omega) HL.out rfl)
        have HD9 := Lib.hid ((hs9.block M (by omega)).trans HD.out)
        have HA9 := Lib.hid (HA.out.trans (ag_but qq hs9 (fun h => by have := (hqw _ h).2.1; omega)))
        have HL9 := Lib.hid hl9
        have hM9 : M + 1 < W9.heap.size := (Array.getElem?_eq_some_iff.1 hl9).1
        have hne1 := ownsRow_ne_a HS9.out.own hl9 (fun cur e => by cases e)
        have hne0 := ownsRow_ne_a HS9.out.own HD9.out (fun cur e => by cases e)
        have HNE := Lib.hid (And.intro hne1 hne0)
        obtain ⟨c0, z0'⟩ := cell_of_box HS9.out.kO
        clear hs9 hl9 hne1 hne0
        gi_wp2_with (first
          | (gi_at_builtin; refine wpListIn_append_own_at (w := W9.alloc (.cells #[.int .i64 (zv : Nat)] 3)) rfl _ _ 65 rfl (W1.heap.size + 2) 3 i0 (.int .i64 0) 1 8 Tryd.underlying65 hi hz0 hz1 hz2 rfl (by decide) _ _ _ rfl (HS9.out.own.alloc _) ⟨W9.heap.size, 0, none⟩ 1 1 [.int .i64 (zv : Nat)] rfl rfl (cell_one_new _ _ _) (by simp [Value.oneCell']) (by unfold maxLen; omega) (by omega) (by have := HS9.out.size; simp; omega) ?_; intro v' w3 hown' hg3 _ hloc; obtain ⟨c0b, z0b⟩ := cell_of_box ((HS9.out.block hg3 (by omega)).trans HS9.out.kO); obtain ⟨gg, cp, rfl, _⟩ := owns_cell_any hown' (by omega); go_frame)
          | (rw [Oper.semAt_eq _ _ _ (fun c h => by cases h)]; go_simp; try go_bits))
        have hg3 : World.grownBy (W9.alloc (.cells #[.int .i64 (zv : Nat)] 3)) w3 ov.ownBlock := hg3
        have hloc : (Value.slice (some ⟨gg, 0, none⟩) (nk.length + 1) cp).ownBlock = ov.ownBlock ∨ (Value.slice (some ⟨gg, 0, none⟩) (nk.length + 1) cp).ownBlock = some (W9.alloc (.cells #[.int .i64 (zv : Nat)] 3)).heap.size := hloc
        have HS10 := Lib.hid (HS9.out.append hg3 (ns' := nk1) (by rw [hlen1, ← HSN.out, ← hlen]; exact hown'))
        have hblk : ∀ j, j = M ∨ j = M + 1 → w3.heap[j]? = W9.heap[j]? := fun j hj => (hg3.block j (by simp; omega) (by
          rcases hj with rfl | rfl
          · rcases HNE.out.2 with h | h
            · rw [h]; simp
            · exact fun e => h e.symm
          · rcases HNE.out.1 with h | h
            · rw [h]; simp
            · exact fun e => h e.symm)).trans (Below.heap_alloc _ _ _ (by omega))
        have hL10 := (heap_setCell_other w3 ⟨W1.heap.size + 1, 0, none⟩ (M + 1) (.slice (some ⟨gg, 0, none⟩) (nk.length + 1) cp) (by show M + 1 ≠ W1.heap.size + 1; omega)).trans ((hblk _ (.inr rfl)).trans HL9.out)
        have hD10 := (heap_setCell_other w3 ⟨W1.heap.size + 1, 0, none⟩ M (.slice (some ⟨gg, 0, none⟩) (nk.length + 1) cp) (by show M ≠ W1.heap.size + 1; omega)).trans ((hblk _ (.inl rfl)).trans HD9.out)
        have hA10 : Ag qq W6 (w3.setCell ⟨W1.heap.size + 1, 0, none⟩ (.slice (some ⟨gg, 0, none⟩) (nk.length + 1) cp)) := (HA9.out.trans ((Ag.new qq ((Below.refl _ _).alloc (Nat.le_refl _) (.cells #[.int .i64 (zv : Nat)] 3))).trans (Ag.grown hg3 (fun g e hq => by
          have h1 := hqw g hq
          have h2 := (HS9.out.own.lt g e).1
          rcases HOB.out g e with h | h
          · have := h1.2.2 h2; omega
          · omega)))).trans (Ag.set qq _ _ (fun h => (hqw _ h).1 rfl))
        have hO10 : ∀ g', (Value.slice (some ⟨gg, 0, none⟩) (nk.length + 1) cp).ownBlock = some g' → g' < W5.heap.size ∨ M < g' := fun g' e => by
          rcases hloc with h | h
          · exact HOB.out g' (by rw [← h]; exact e)
          · right
            rw [h] at e
            have := Option.some.inj e
            simp at this; omega
        have HF := Lib.hid (And.intro hL10 (And.intro hD10 (And.intro hA10 hO10)))
        rw [hlen] at HF HS10
        clear hg3 hown' hloc hblk hL10 hD10 hA10 hO10 c0 z0' c0b z0b
        refine ⟨HF.out.1, fun W11 hs11 hl11 => ⟨rfl, (hRn.out W11).2 ⟨_, HS10.out.but hs11 (by omega) HF.out.1 rfl, (hs11.block M (by omega)).trans HF.out.2.1, hl11, HF.out.2.2.1.trans (ag_but qq hs11 (fun h => by have := (hqw _ h).2.1; omega)), HF.out.2.2.2⟩⟩⟩
      · rintro e W8 ⟨⟨vv, rfl⟩, ov, h1, h2, h3, h4, h5⟩
        rw [List.take_of_length_le (Nat.le_refl _)] at h1
        refine ⟨⟨_, rfl⟩, rec, h3, by rw [hst]; decide, ?_⟩
        intro W9 hW9
        rw [hpe]
        dsimp only
        have HS9 := Lib.hid (h1.but hW9 (by omega) h3 rfl)
        have hK9 := (hW9.block M (by omega)).trans h2
        have hM9 : M < W9.heap.size := (Array.getElem?_eq_some_iff.1 hK9).1
        obtain ⟨c0, z0'⟩ := cell_of_box HS9.out.kO
        have hne0 := ownsRow_ne_a HS9.out.own hK9 (fun cur e => by cases e)
        have HP := Lib.hid (show SetsPost w ck so (.returned (.tuple #[ov, .int .i64 0])) (W9.putObj M (.deferred none)) from ⟨ov, by rw [HCK0.out]; rfl, by
          rw [if_pos HCK0.out]
          exact ((SlP.owned (HS9.out.own.kept (grownBy_putObj W9 M (.deferred none)) hne0)).weak fun b hb => by have : W1.heap.size + 2 ≤ b := hb; omega), HS9.out.below.grown (grownBy_putObj W9 M (.deferred none)) (by have := HS9.out.size; omega) (fun j e => by cases e; omega)⟩)
        clear h1 h2 h3 h4 h5 hW9 hne0
        gi_wp2
        refine ⟨by simp, .inl ⟨_, _, rfl, run_takeDeferred hK9, ?_⟩⟩
        refine ⟨_, results_tmp2 rfl _ _ _, ?_⟩
        try dsimp only [Array.getD_eq_getD_getElem?, List.getElem?_toArray]
        try simp only [Array.getD_eq_getD_getElem?, List.getElem?_toArray, List.getElem?_cons_succ, List.getElem?_cons_zero, Option.getD_some]
        exact HP.out
    · have hso : so = List.range (2 ^ q.names.length) := HSO.out.trans ((if_neg (by decide)).trans (if_pos rfl))
      have HG := Lib.hid (fun X (hX : Below w.heap.size w X) => cube_any (.slice aa q.aggs.length ca) (.int .i64 2) (.slice aS q.sets.length cS) (.int .i64 q.every) (.int .i64 q.fil.kind) (.string q.fil.name) (.slice z0 z1 z2) (.int .i64 q.fil.frm) (.int .i64 q.fil.to) (.slice z3 q.fil.l.length z4) (.slice ah q.conds.length ch) (.slice ao q.keys.length co) (.int .i64 q.limit) p1 X ab q.names.length cb hn6)
      have hsl : so.length ≤ 1999 := by rw [hso]; rw [List.length_range, ← HP0.out]; omega
      rw [← hso] at HG
      clear hso HSO
      obtain ⟨lc, hlc⟩ : ∃ lc : Array Value, lc = #[.slice aa q.aggs.length ca, .slice ab q.names.length cb, .int .i64 2, .slice aS q.sets.length cS, .int .i64 q.every, .int .i64 q.fil.kind, .string q.fil.name, .slice z0 z1 z2, .int .i64 q.fil.frm, .int .i64 q.fil.to, .slice z3 q.fil.l.length z4, .slice ah q.conds.length ch, .slice ao q.keys.length co, .int .i64 q.limit] := ⟨_, rfl⟩
      obtain ⟨W2, hW2⟩ : ∃ W2, (W1.alloc (.cells #[.slice aa q.aggs.length ca, .slice ab q.names.length cb, .int .i64 2, .slice aS q.sets.length cS, .int .i64 q.every, .int .i64 q.fil.kind, .string q.fil.name, .slice z0 z1 z2, .int .i64 q.fil.frm, .int .i64 q.fil.to, .slice z3 q.fil.l.length z4, .slice ah q.conds.length ch, .slice ao q.keys.length co, .int .i64 q.limit] 98)).alloc (.cells #[.slice none 0 0] 65) = W2 := ⟨_, rfl⟩
      obtain ⟨hL2, hO2, hS2, hB2⟩ := laid2 W1 (.cells #[.slice aa q.aggs.length ca, .slice ab q.names.length cb, .int .i64 2, .slice aS q.sets.length cS, .int .i64 q.every, .int .i64 q.fil.kind, .string q.fil.name, .slice z0 z1 z2, .int .i64 q.fil.frm, .int .i64 q.fil.to, .slice z3 q.fil.l.length z4, .slice ah q.conds.length ch, .slice ao q.keys.length co, .int .i64 q.limit] 98) (.cells #[.slice none 0 0] 65)
      rw [hW2] at hL2 hO2 hS2 hB2
      have hQ2 := (hB2.block _ (by omega)).trans HQ1.out
      have hSt2 : St w W1.heap.size #[.slice aa q.aggs.length ca, .slice ab q.names.length cb, .int .i64 2, .slice aS q.sets.length cS, .int .i64 q.every, .int .i64 q.fil.kind, .string q.fil.name, .slice z0 z1 z2, .int .i64 q.fil.frm, .int .i64 q.fil.to, .slice z3 q.fil.l.length z4, .slice ah q.conds.length ch, .slice ao q.keys.length co, .int .i64 q.limit] #[.slice aa q.aggs.length ca, .slice ab q.names.length cb, .int .i64 2, .slice aS q.sets.length cS, .int .i64 q.every, .int .i64 q.fil.kind, .string q.fil.name, .slice z0 z1 z2, .int .i64 q.fil.frm, .int .i64 q.fil.to, .slice z3 q.fil.l.length z4, .slice ah q.conds.length ch, .slice ao q.keys.length co, .int .i64 q.limit] (.slice none 0 0) [] W2 := ⟨hQ2, hL2, hO2, World.ownsRow_nil _ _ _ _, Bt HB1.out hB2, hsz1, by omega⟩
      have HS2 := Lib.hid hSt2
      have hS2' := hS2
      clear hL2 hO2 hS2 hB2 hSt2
      obtain ⟨q0, q1, q2, q3, q4, q5, q6, q7, q8, q9, qa, qb, qc, qd⟩ := (can14 hQ2).1
      obtain ⟨oc, oz⟩ := cell_of_box HS2.out.kO
      clear hQ2
      gi_wp2_with (gi_at_make; refine wpListIn_make_own _ rfl _ _ _ rfl (W1.heap.size + 2) 3 i0 (.int .i64 0) 1 Tryd.underlying65 hi hz0 hz1 _ _ _ P rfl rfl ?_ ?_ ?_ ?_ ?_)
      · rfl
      · rw [hz2]; omega
      · unfold maxLen; omega
      · omega
      intro W3 hown3 hg3
      have hb3 : Below W2.heap.size W2 W3 := (Below.refl _ _).grown hg3 (Nat.le_refl _) (fun j e => by cases e)
      have hS3 := HS2.out.later hb3
      obtain ⟨oc3, oz3⟩ := cell_of_box hS3.kO
      have HS4 := Lib.hid (hS3.putO (ns' := []) (ov' := .slice (some ⟨W1.heap.size + 2, 0, none⟩) 0 P) hown3)
      clear hown3 hg3 hb3 hS3 q0 q1 q2 q3 q4 q5 q6 q7 q8 q9 qa qb qc qd oc oz
      gi_wp2
      obtain ⟨W4, hW4⟩ : ∃ W4, (W3.setCell ⟨W1.heap.size + 1, 0, none⟩ (.slice (some ⟨W1.heap.size + 2, 0, none⟩) 0 P)) = W4 := ⟨_, rfl⟩
      rw [hW4] at HS4 ⊢
      clear hW4 oc3 oz3
      clear HS2 hW2 hS2'
      obtain ⟨ov0, hov⟩ : ∃ ov0, ov0 = Value.slice (some ⟨W1.heap.size + 2, 0, none⟩) 0 P := ⟨_, rfl⟩
      rw [← hov] at HS4
      clear hov
      obtain ⟨l0, l1, l2, l3, l4, l5, l6, l7, l8, l9, la, lb, lc', ld⟩ := (can14 HS4.out.kL).1
      have q2 := (can14 HS4.out.kQ).1.2.2.1
      have hls := HS4.out.size
      have hlw : w.heap.size + 1 < W4.heap.size := by omega
      have hl0 : W1.heap.size < W4.heap.size := by omega
      refine Flow.wpIn_region_flow_tail 5 (Flow.specs [.inl ?_, .inr (isModes #[.slice aa q.aggs.length ca, .slice ab q.names.length cb, .int .i64 2, .slice aS q.sets.length cS, .int .i64 q.every, .int .i64 q.fil.kind, .string q.fil.name, .slice z0 z1 z2, .int .i64 q.fil.frm, .int .i64 q.fil.to, .slice z3 q.fil.l.length z4, .slice ah q.conds.length ch, .slice ao q.keys.length co, .int .i64 q.limit]), .inl ?_, .inl ?_, .inl (.func (.func 78) #[.agg #[.slice aa q.aggs.length ca, .slice ab q.names.length cb, .int .i64 2, .slice aS q.sets.length cS, .int .i64 q.every, .int .i64 q.fil.kind, .string q.fil.name, .slice z0 z1 z2, .int .i64 q.fil.frm, .int .i64 q.fil.to, .slice z3 q.fil.l.length z4, .slice ah q.conds.length ch, .slice ao q.keys.length co, .int .i64 q.limit]] #[])]) (by kernel_rfl) (by kernel_rfl) ?_ ?_
      rotate_left 3
      · refine Flow.specs_mono ?_
        repeat (first | exact Flow.lmono_nil | refine Flow.lmono_inl ?_ | refine Flow.lmono_inr (isModes_mono _) ?_)
      all_goals try simp only [List.take_succ_cons, List.take_zero, List.drop_succ_cons, List.drop_zero]
      (refine Flow.tree_valK rfl (fun K hK => ⟨fun w hw hG => ?_, ?_⟩); (have hcl := Flow.bcell hw; clear hG hw; unfold Flow.Runs Flow.yields; go_simp; try rfl); go_simp; refine hK _ ?_; clear hK K)
      (refine Flow.tree_varK rfl (fun K hK => ⟨fun w hw hG => ?_, ?_⟩); (clear hG hw; unfold Flow.Runs Flow.yields; go_simp; refine (modes_any _ _ _ _ _ _ _ _ _ _ _ _ _ _ _).mono ?_; rintro e w3 ⟨b, rfl, hm, hb3⟩; exact ⟨_, rfl, hb3, b, rfl, hm⟩); intro vm'; go_simp; refine hK _ _ ?_; clear hK K)
      iterate 2 (refine Flow.tree_valK rfl (fun K hK => ⟨fun w hw hG => ?_, ?_⟩); (have hcl := Flow.bcell hw; clear hG hw; unfold Flow.Runs Flow.yields; go_simp; try rfl); go_simp; refine hK _ ?_; clear hK K)
      (refine Flow.tree_valK rfl (fun K hK => ⟨fun w hw hG => ?_, ?_⟩); (have hvm := (show isModes #[.slice aa q.aggs.length ca, .slice ab q.names.length cb, .int .i64 2, .slice aS q.sets.length cS, .int .i64 q.every, .int .i64 q.fil.kind, .string q.fil.name, .slice z0 z1 z2, .int .i64 q.fil.frm, .int .i64 q.fil.to, .slice z3 q.fil.l.length z4, .slice ah q.conds.length ch, .slice ao q.keys.length co, .int .i64 q.limit] vm' w by simpa [Flow.upd] using hG 1 (by kernel_rfl)); clear hG; obtain ⟨bm, rfl, hm⟩ := hvm; have hlk : (Instr.lookup 102 (.map (some bm)) (.int .i64 2) false).run Tryd.prog w = .ok (.func (.func 78) #[.agg #[.slice aa q.aggs.length ca, .slice ab q.names.length cb, .int .i64 2, .slice aS q.sets.length cS, .int .i64 q.every, .int .i64 q.fil.kind, .string q.fil.name, .slice z0 z1 z2, .int .i64 q.fil.frm, .int .i64 q.fil.to, .slice z3 q.fil.l.length z4, .slice ah q.conds.length ch, .slice ao q.keys.length co, .int .i64 q.limit]] #[]) w := hm.look 2 (by omega) (by omega); clear hm; unfold Flow.Runs Flow.yields; go_simp; try rfl); go_simp; refine hK _ ?_; clear hK K)
      refine Flow.tree_nil fun W5 hW5 hG => ?_
      clear hG l0 l1 l2 l3 l4 l5 l6 l7 l8 l9 la lb lc' ld q2
      have HS5 := Lib.hid (HS4.out.later hW5)
      have hg5 := HG.out W5 HS5.out.below
      unfold Gives at hg5
      have HG5 := Lib.hid hg5
      clear hg5 hW5
      gi_wp2_with (refine ⟨trivial, ?_⟩; gi_at_call 78; refine (callsIn_wide.2 HG5.out).mono ?_; rintro e W6 ⟨gf, lb, rfl, hB6, hit⟩)
      have HS6 := Lib.hid (HS5.out.later hB6)
      have HIT := Lib.hid hit
      have hB6' := hB6.size
      have hs5 := HS5.out.size
      clear hit hB6 HG5 HG HS4 hls hlw hl0
      refine Rf.range_wide (gf := gf) (lb := lb) rfl HIT.out.ent ?_
      intro fn W7 hL hD hB7 hS7
      obtain ⟨M, hM⟩ : ∃ M, M = W6.heap.size := ⟨_, rfl⟩
      rw [← hM] at hL hD hS7 ⊢
      obtain ⟨rec, hrec, hL⟩ : ∃ rec : Loop, rec = _ ∧ W7.heap[M + 1]? = some (.loop rec) := ⟨_, rfl, hL⟩
      have HREC := Lib.hid hrec
      have hst : rec.state = .ready ∧ rec.params.size = 1 ∧ rec.pending = none := by rw [hrec]; exact ⟨rfl, rfl, rfl⟩
      clear hrec
      obtain ⟨hst, hps, hpe⟩ := hst
      have hMs : W1.heap.size + 2 ≤ M := by omega
      obtain ⟨qq, hqq⟩ : ∃ qq : Nat → Prop, qq = fun b => p1 b ∨ (W5.heap.size ≤ b ∧ b < W6.heap.size) := ⟨_, rfl⟩
      have hqw : ∀ b, qq b → b ≠ W1.heap.size + 1 ∧ b < M ∧ (W1.heap.size + 2 ≤ b → W5.heap.size ≤ b) := fun b hb => by
        rw [hqq] at hb
        rcases hb with hb | hb
        · rw [hp1] at hb; have := hb.2; exact ⟨by omega, by omega, fun h => by omega⟩
        · exact ⟨by omega, by omega, fun _ => hb.1⟩
      have HCT := Lib.hid (hqq ▸ HIT.out.counts)
      have hI0 : Rn w W1.heap.size #[.slice aa q.aggs.length ca, .slice ab q.names.length cb, .int .i64 2, .slice aS q.sets.length cS, .int .i64 q.every, .int .i64 q.fil.kind, .string q.fil.name, .slice z0 z1 z2, .int .i64 q.fil.frm, .int .i64 q.fil.to, .slice z3 q.fil.l.length z4, .slice ah q.conds.length ch, .slice ao q.keys.length co, .int .i64 q.limit] #[.slice aa q.aggs.length ca, .slice ab q.names.length cb, .int .i64 2, .slice aS q.sets.length cS, .int .i64 q.every, .int .i64 q.fil.kind, .string q.fil.name, .slice z0 z1 z2, .int .i64 q.fil.frm, .int .i64 q.fil.to, .slice z3 q.fil.l.length z4, .slice ah q.conds.length ch, .slice ao q.keys.length co, .int .i64 q.limit] so M rec qq W5.heap.size W6 0 W7 := ⟨ov0, by simpa using HS6.out.later (hM ▸ hB7), hD, hL, Ag.new _ (hM ▸ hB7), fun g hg => .inl (HS5.out.own.lt g hg).2⟩
      clear hB7 hS7 HIT HS6 HS5 hqq hM
      refine callsIn_wide.2 ((HCT.out (M + 1) rec.fn (fun v => (rec.params.zip #[v]).foldl (fun tmps (t, a) => tmps.setIfInBounds t a) rec.tmps) rec.assign rec.body (Rn w W1.heap.size #[.slice aa q.aggs.length ca, .slice ab q.names.length cb, .int .i64 2, .slice aS q.sets.length cS, .int .i64 q.every, .int .i64 q.fil.kind, .string q.fil.name, .slice z0 z1 z2, .int .i64 q.fil.frm, .int .i64 q.fil.to, .slice z3 q.fil.l.length z4, .slice ah q.conds.length ch, .slice ao q.keys.length co, .int .i64 q.limit] #[.slice aa q.aggs.length ca, .slice ab q.names.length cb, .int .i64 2, .slice aS q.sets.length cS, .int .i64 q.every, .int .i64 q.fil.kind, .string q.fil.name, .slice z0 z1 z2, .int .i64 q.fil.frm, .int .i64 q.fil.to, .slice z3 q.fil.l.length z4, .slice ah q.conds.length ch, .slice ao q.keys.length co, .int .i64 q.limit] so M rec qq W5.heap.size W6) ?_ ?_ ?_ ?_ W7 hI0).mono ?_)
      · rintro k W W' ⟨ov, h1, h2, h3, h4, h5⟩ hb
        exact ⟨ov, h1.later hb, (hb.block _ (by have := (Array.getElem?_eq_some_iff.1 h2).1; exact this)).trans h2, (hb.block _ (by have := (Array.getElem?_eq_some_iff.1 h3).1; exact this)).trans h3, h4.trans (Ag.new _ hb), h5⟩
      · rintro k W ⟨ov, h1, h2, h3, h4, h5⟩; exact h4
      · rintro k W ⟨ov, h1, h2, h3, h4, h5⟩ z; exact run_yield h3 (by rw [hps]; rfl)
      · rintro k W hk ⟨ov, h1, h2, h3, h4, h5⟩
        have HS := Lib.hid h1
        have HD := Lib.hid h2
        have HL := Lib.hid h3
        have HA := Lib.hid h4
        have HOB := Lib.hid h5
        clear h1 h2 h3 h4 h5
        have HSN := Lib.hid (natV_snoc so k hk)
        have hlen : (so.take k).length = k := by simp; omega
        have hlen1 : (so.take (k + 1)).length = k + 1 := by simp; omega
        have hk2 : k ≤ 2000 := by omega
        have hRn : RowKit.Hid (∀ W', Rn w W1.heap.size #[.slice aa q.aggs.length ca, .slice ab q.names.length cb, .int .i64 2, .slice aS q.sets.length cS, .int .i64 q.every, .int .i64 q.fil.kind, .string q.fil.name, .slice z0 z1 z2, .int .i64 q.fil.frm, .int .i64 q.fil.to, .slice z3 q.fil.l.length z4, .slice ah q.conds.length ch, .slice ao q.keys.length co, .int .i64 q.limit] #[.slice aa q.aggs.length ca, .slice ab q.names.length cb, .int .i64 2, .slice aS q.sets.length cS, .int .i64 q.every, .int .i64 q.fil.kind, .string q.fil.name, .slice z0 z1 z2, .int .i64 q.fil.frm, .int .i64 q.fil.to, .slice z3 q.fil.l.length z4, .slice ah q.conds.length ch, .slice ao q.keys.length co, .int .i64 q.limit] so M rec qq W5.heap.size W6 (k + 1) W' ↔ ∃ ov, St w W1.heap.size #[.slice aa q.aggs.length ca, .slice ab q.names.length cb, .int .i64 2, .slice aS q.sets.length cS, .int .i64 q.every, .int .i64 q.fil.kind, .string q.fil.name, .slice z0 z1 z2, .int .i64 q.fil.frm, .int .i64 q.fil.to, .slice z3 q.fil.l.length z4, .slice ah q.conds.length ch, .slice ao q.keys.length co, .int .i64 q.limit] #[.slice aa q.aggs.length ca, .slice ab q.names.length cb, .int .i64 2, .slice aS q.sets.length cS, .int .i64 q.every, .int .i64 q.fil.kind, .string q.fil.name, .slice z0 z1 z2, .int .i64 q.fil.frm, .int .i64 q.fil.to, .slice z3 q.fil.l.length z4, .slice ah q.conds.length ch, .slice ao q.keys.length co, .int .i64 q.limit] ov (so.take (k + 1)) W' ∧ W'.heap[M]? = some (.deferred (some [])) ∧ W'.heap[M + 1]? = some (.loop rec) ∧ Ag qq W6 W' ∧ ∀ g, ov.ownBlock = some g → g < W5.heap.size ∨ M < g) := Lib.hid (fun _ => Iff.rfl)
        generalize Rn w W1.heap.size #[.slice aa q.aggs.length ca, .slice ab q.names.length cb, .int .i64 2, .slice aS q.sets.length cS, .int .i64 q.every, .int .i64 q.fil.kind, .string q.fil.name, .slice z0 z1 z2, .int .i64 q.fil.frm, .int .i64 q.fil.to, .slice z3 q.fil.l.length z4, .slice ah q.conds.length ch, .slice ao q.keys.length co, .int .i64 q.limit] #[.slice aa q.aggs.length ca, .slice ab q.names.length cb, .int .i64 2, .slice aS q.sets.length cS, .int .i64 q.every, .int .i64 q.fil.kind, .string q.fil.name, .slice z0 z1 z2, .int .i64 q.fil.frm, .int .i64 q.fil.to, .slice z3 q.fil.l.length z4, .slice ah q.conds.length ch, .slice ao q.keys.length co, .int .i64 q.limit] so M rec qq W5.heap.size W6 (k + 1) = RN at *
        generalize so[k] = zv at *
        generalize so.take (k + 1) = nk1 at *
        generalize so.take k = nk at *
        clear hk
        refine Rf.round_wide (r := rec) ?_
        have hrr := HREC.out
        subst hrr
        dsimp only
        gi_wp2_with (rw [Oper.semAt_eq _ _ _ (fun c h => by cases h)]; go_simp; try go_bits)
        refine ⟨HL.out, fun W9 hs9 hl9 => ?_⟩
        have HS9 := Lib.hid (HS.out.but hs9 (by omega) HL.out rfl)
        have HD9 := Lib.hid ((hs9.block M (by omega)).trans HD.out)
        have HA9 := Lib.hid (HA.out.trans (ag_but qq hs9 (fun h => by have := (hqw _ h).2.1; omega)))
        have HL9 := Lib.hid hl9
        have hM9 : M + 1 < W9.heap.size := (Array.getElem?_eq_some_iff.1 hl9).1
        have hne1 := ownsRow_ne_a HS9.out.own hl9 (fun cur e => by cases e)
        have hne0 := ownsRow_ne_a HS9.out.own HD9.out (fun cur e => by cases e)
        have HNE := Lib.hid (And.intro hne1 hne0)
        obtain ⟨c0, z0'⟩ := cell_of_box HS9.out.kO
        clear hs9 hl9 hne1 hne0
        gi_wp2_with (first
          | (gi_at_builtin; refine wpListIn_append_own_at (w := W9.alloc (.cells #[.int .i64 (zv : Nat)] 3)) rfl _ _ 65 rfl (W1.heap.size + 2) 3 i0 (.int .i64 0) 1 8 Tryd.underlying65 hi hz0 hz1 hz2 rfl (by decide) _ _ _ rfl (HS9.out.own.alloc _) ⟨W9.heap.size, 0, none⟩ 1 1 [.int .i64 (zv : Nat)] rfl rfl (cell_one_new _ _ _) (by simp [Value.oneCell']) (by unfold maxLen; omega) (by omega) (by have := HS9.out.size; simp; omega) ?_; intro v' w3 hown' hg3 _ hloc; obtain ⟨c0b, z0b⟩ := cell_of_box ((HS9.out.block hg3 (by omega)).trans HS9.out.kO); obtain ⟨gg, cp, rfl, _⟩ := owns_cell_any hown' (by omega); go_frame)
          | (rw [Oper.semAt_eq _ _ _ (fun c h => by cases h)]; go_simp; try go_bits))
        have hg3 : World.grownBy (W9.alloc (.cells #[.int .i64 (zv : Nat)] 3)) w3 ov.ownBlock := hg3
        have hloc : (Value.slice (some ⟨gg, 0, none⟩) (nk.length + 1) cp).ownBlock = ov.ownBlock ∨ (Value.slice (some ⟨gg, 0, none⟩) (nk.length + 1) cp).ownBlock = some (W9.alloc (.cells #[.int .i64 (zv : Nat)] 3)).heap.size := hloc
        have HS10 := Lib.hid (HS9.out.append hg3 (ns' := nk1) (by rw [hlen1, ← HSN.out, ← hlen]; exact hown'))
        have hblk : ∀ j, j = M ∨ j = M + 1 → w3.heap[j]? = W9.heap[j]? := fun j hj => (hg3.block j (by simp; omega) (by
          rcases hj with rfl | rfl
          · rcases HNE.out.2 with h | h
            · rw [h]; simp
            · exact fun e => h e.symm
          · rcases HNE.out.1 with h | h
            · rw [h]; simp
            · exact fun e => h e.symm)).trans (Below.heap_alloc _ _ _ (by omega))
        have hL10 := (heap_setCell_other w3 ⟨W1.heap.size + 1, 0, none⟩ (M + 1) (.slice (some ⟨gg, 0, none⟩) (nk.length + 1) cp) (by show M + 1 ≠ W1.heap.size + 1; omega)).trans ((hblk _ (.inr rfl)).trans HL9.out)
        have hD10 := (heap_setCell_other w3 ⟨W1.heap.size + 1, 0, none⟩ M (.slice (some ⟨gg, 0, none⟩) (nk.length + 1) cp) (by show M ≠ W1.heap.size + 1; omega)).trans ((hblk _ (.inl rfl)).trans HD9.out)
        have hA10 : Ag qq W6 (w3.setCell ⟨W1.heap.size + 1, 0, none⟩ (.slice (some ⟨gg, 0, none⟩) (nk.length + 1) cp)) := (HA9.out.trans ((Ag.new qq ((Below.refl _ _).alloc (Nat.le_refl _) (.cells #[.int .i64 (zv : Nat)] 3))).trans (Ag.grown hg3 (fun g e hq => by
          have h1 := hqw g hq
          have h2 := (HS9.out.own.lt g e).1
          rcases HOB.out g e with h | h
          · have := h1.2.2 h2; omega
          · omega)))).trans (Ag.set qq _ _ (fun h => (hqw _ h).1 rfl))
        have hO10 : ∀ g', (Value.slice (some ⟨gg, 0, none⟩) (nk.length + 1) cp).ownBlock = some g' → g' < W5.heap.size ∨ M < g' := fun g' e => by
          rcases hloc with h | h
          · exact HOB.out g' (by rw [← h]; exact e)
          · right
            rw [h] at e
            have := Option.some.inj e
            simp at this; omega
        have HF := Lib.hid (And.intro hL10 (And.intro hD10 (And.intro hA10 hO10)))
        rw [hlen] at HF HS10
        clear hg3 hown' hloc hblk hL10 hD10 hA10 hO10 c0 z0' c0b z0b
        refine ⟨HF.out.1, fun W11 hs11 hl11 => ⟨rfl, (hRn.out W11).2 ⟨_, HS10.out.but hs11 (by omega) HF.out.1 rfl, (hs11.block M (by omega)).trans HF.out.2.1, hl11, HF.out.2.2.1.trans (ag_but qq hs11 (fun h => by have := (hqw _ h).2.1; omega)), HF.out.2.2.2⟩⟩⟩
      · rintro e W8 ⟨⟨vv, rfl⟩, ov, h1, h2, h3, h4, h5⟩
        rw [List.take_of_length_le (Nat.le_refl _)] at h1
        refine ⟨⟨_, rfl⟩, rec, h3, by rw [hst]; decide, ?_⟩
        intro W9 hW9
        rw [hpe]
        dsimp only
        have HS9 := Lib.hid (h1.but hW9 (by omega) h3 rfl)
        have hK9 := (hW9.block M (by omega)).trans h2
        have hM9 : M < W9.heap.size := (Array.getElem?_eq_some_iff.1 hK9).1
        obtain ⟨c0, z0'⟩ := cell_of_box HS9.out.kO
        have hne0 := ownsRow_ne_a HS9.out.own hK9 (fun cur e => by cases e)
        have HP := Lib.hid (show SetsPost w ck so (.returned (.tuple #[ov, .int .i64 0])) (W9.putObj M (.deferred none)) from ⟨ov, by rw [HCK0.out]; rfl, by
          rw [if_pos HCK0.out]
          exact ((SlP.owned (HS9.out.own.kept (grownBy_putObj W9 M (.deferred none)) hne0)).weak fun b hb => by have : W1.heap.size + 2 ≤ b := hb; omega), HS9.out.below.grown (grownBy_putObj W9 M (.deferred none)) (by have := HS9.out.size; omega) (fun j e => by cases e; omega)⟩)
        clear h1 h2 h3 h4 h5 hW9 hne0
        gi_wp2
        refine ⟨by simp, .inl ⟨_, _, rfl, run_takeDeferred hK9, ?_⟩⟩
        refine ⟨_, results_tmp2 rfl _ _ _, ?_⟩
        try dsimp only [Array.getD_eq_getD_getElem?, List.getElem?_toArray]
        try simp only [Array.getD_eq_getD_getElem?, List.getElem?_toArray, List.getElem?_cons_succ, List.getElem?_cons_zero, Option.getD_some]
        exact HP.out
    · have hso : so = (List.range (q.names.length + 1)).map (fun k => 2 ^ q.names.length - 2 ^ (q.names.length - k)) := HSO.out.trans ((if_neg (by decide)).trans ((if_neg (by decide)).trans (if_pos rfl)))
      have HG := Lib.hid (fun X (hX : Below w.heap.size w X) => rollup_any (.slice aa q.aggs.length ca) (.int .i64 3) (.slice aS q.sets.length cS) (.int .i64 q.every) (.int .i64 q.fil.kind) (.string q.fil.name) (.slice z0 z1 z2) (.int .i64 q.fil.frm) (.int .i64 q.fil.to) (.slice z3 q.fil.l.length z4) (.slice ah q.conds.length ch) (.slice ao q.keys.length co) (.int .i64 q.limit) p1 X ab q.names.length cb hn6)
      have hsl : so.length ≤ 1999 := by rw [hso]; simp; omega
      rw [← hso] at HG
      clear hso HSO
      obtain ⟨lc, hlc⟩ : ∃ lc : Array Value, lc = #[.slice aa q.aggs.length ca, .slice ab q.names.length cb, .int .i64 3, .slice aS q.sets.length cS, .int .i64 q.every, .int .i64 q.fil.kind, .string q.fil.name, .slice z0 z1 z2, .int .i64 q.fil.frm, .int .i64 q.fil.to, .slice z3 q.fil.l.length z4, .slice ah q.conds.length ch, .slice ao q.keys.length co, .int .i64 q.limit] := ⟨_, rfl⟩
      obtain ⟨W2, hW2⟩ : ∃ W2, (W1.alloc (.cells #[.slice aa q.aggs.length ca, .slice ab q.names.length cb, .int .i64 3, .slice aS q.sets.length cS, .int .i64 q.every, .int .i64 q.fil.kind, .string q.fil.name, .slice z0 z1 z2, .int .i64 q.fil.frm, .int .i64 q.fil.to, .slice z3 q.fil.l.length z4, .slice ah q.conds.length ch, .slice ao q.keys.length co, .int .i64 q.limit] 98)).alloc (.cells #[.slice none 0 0] 65) = W2 := ⟨_, rfl⟩
      obtain ⟨hL2, hO2, hS2, hB2⟩ := laid2 W1 (.cells #[.slice aa q.aggs.length ca, .slice ab q.names.length cb, .int .i64 3, .slice aS q.sets.length cS, .int .i64 q.every, .int .i64 q.fil.kind, .string q.fil.name, .slice z0 z1 z2, .int .i64 q.fil.frm, .int .i64 q.fil.to, .slice z3 q.fil.l.length z4, .slice ah q.conds.length ch, .slice ao q.keys.length co, .int .i64 q.limit] 98) (.cells #[.slice none 0 0] 65)
      rw [hW2] at hL2 hO2 hS2 hB2
      have hQ2 := (hB2.block _ (by omega)).trans HQ1.out
      have hSt2 : St w W1.heap.size #[.slice aa q.aggs.length ca, .slice ab q.names.length cb, .int .i64 3, .slice aS q.sets.length cS, .int .i64 q.every, .int .i64 q.fil.kind, .string q.fil.name, .slice z0 z1 z2, .int .i64 q.fil.frm, .int .i64 q.fil.to, .slice z3 q.fil.l.length z4, .slice ah q.conds.length ch, .slice ao q.keys.length co, .int .i64 q.limit] #[.slice aa q.aggs.length ca, .slice ab q.names.length cb, .int .i64 3, .slice aS q.sets.length cS, .int .i64 q.every, .int .i64 q.fil.kind, .string q.fil.name, .slice z0 z1 z2, .int .i64 q.fil.frm, .int .i64 q.fil.to, .slice z3 q.fil.l.length z4, .slice ah q.conds.length ch, .slice ao q.keys.length co, .int .i64 q.limit] (.slice none 0 0) [] W2 := ⟨hQ2, hL2, hO2, World.ownsRow_nil _ _ _ _, Bt HB1.out hB2, hsz1, by omega⟩
      have HS2 := Lib.hid hSt2
      have hS2' := hS2
      clear hL2 hO2 hS2 hB2 hSt2
      obtain ⟨q0, q1, q2, q3, q4, q5, q6, q7, q8, q9, qa, qb, qc, qd⟩ := (can14 hQ2).1
      obtain ⟨oc, oz⟩ := cell_of_box HS2.out.kO
      clear hQ2
      gi_wp2
      obtain ⟨W4, rfl⟩ : ∃ W4, W4 = W2 := ⟨_, rfl⟩
      have HS4 := Lib.hid HS2.out
      clear q0 q1 q2 q3 q4 q5 q6 q7 q8 q9 qa qb qc qd oc oz
      clear HS2 hW2 hS2'
      obtain ⟨ov0, hov⟩ : ∃ ov0, ov0 = Value.slice none 0 0 := ⟨_, rfl⟩
      rw [← hov] at HS4
      clear hov
      obtain ⟨l0, l1, l2, l3, l4, l5, l6, l7, l8, l9, la, lb, lc', ld⟩ := (can14 HS4.out.kL).1
      have q2 := (can14 HS4.out.kQ).1.2.2.1
      have hls := HS4.out.size
      have hlw : w.heap.size + 1 < W4.heap.size := by omega
      have hl0 : W1.heap.size < W4.heap.size := by omega
      refine Flow.wpIn_region_flow_tail 5 (Flow.specs [.inl ?_, .inr (isModes #[.slice aa q.aggs.length ca, .slice ab q.names.length cb, .int .i64 3, .slice aS q.sets.length cS, .int .i64 q.every, .int .i64 q.fil.kind, .string q.fil.name, .slice z0 z1 z2, .int .i64 q.fil.frm, .int .i64 q.fil.to, .slice z3 q.fil.l.length z4, .slice ah q.conds.length ch, .slice ao q.keys.length co, .int .i64 q.limit]), .inl ?_, .inl ?_, .inl (.func (.func 79) #[.agg #[.slice aa q.aggs.length ca, .slice ab q.names.length cb, .int .i64 3, .slice aS q.sets.length cS, .int .i64 q.every, .int .i64 q.fil.kind, .string q.fil.name, .slice z0 z1 z2, .int .i64 q.fil.frm, .int .i64 q.fil.to, .slice z3 q.fil.l.length z4, .slice ah q.conds.length ch, .slice ao q.keys.length co, .int .i64 q.limit]] #[])]) (by kernel_rfl) (by kernel_rfl) ?_ ?_
      rotate_left 3
      · refine Flow.specs_mono ?_
        repeat (first | exact Flow.lmono_nil | refine Flow.lmono_inl ?_ | refine Flow.lmono_inr (isModes_mono _) ?_)
      all_goals try simp only [List.take_succ_cons, List.take_zero, List.drop_succ_cons, List.drop_zero]
      (refine Flow.tree_valK rfl (fun K hK => ⟨fun w hw hG => ?_, ?_⟩); (have hcl := Flow.bcell hw; clear hG hw; unfold Flow.Runs Flow.yields; go_simp; try rfl); go_simp; refine hK _ ?_; clear hK K)
      (refine Flow.tree_varK rfl (fun K hK => ⟨fun w hw hG => ?_, ?_⟩); (clear hG hw; unfold Flow.Runs Flow.yields; go_simp; refine (modes_any _ _ _ _ _ _ _ _ _ _ _ _ _ _ _).mono ?_; rintro e w3 ⟨b, rfl, hm, hb3⟩; exact ⟨_, rfl, hb3, b, rfl, hm⟩); intro vm'; go_simp; refine hK _ _ ?_; clear hK K)
      iterate 2 (refine Flow.tree_valK rfl (fun K hK => ⟨fun w hw hG => ?_, ?_⟩); (have hcl := Flow.bcell hw; clear hG hw; unfold Flow.Runs Flow.yields; go_simp; try rfl); go_simp; refine hK _ ?_; clear hK K)
      (refine Flow.tree_valK rfl (fun K hK => ⟨fun w hw hG => ?_, ?_⟩); (have hvm := (show isModes #[.slice aa q.aggs.length ca, .slice ab q.names.length cb, .int .i64 3, .slice aS q.sets.length cS, .int .i64 q.every, .int .i64 q.fil.kind, .string q.fil.name, .slice z0 z1 z2, .int .i64 q.fil.frm, .int .i64 q.fil.to, .slice z3 q.fil.l.length z4, .slice ah q.conds.length ch, .slice ao q.keys.length co, .int .i64 q.limit] vm' w by simpa [Flow.upd] using hG 1 (by kernel_rfl)); clear hG; obtain ⟨bm, rfl, hm⟩ := hvm; have hlk : (Instr.lookup 102 (.map (some bm)) (.int .i64 3) false).run Tryd.prog w = .ok (.func (.func 79) #[.agg #[.slice aa q.aggs.length ca, .slice ab q.names.length cb, .int .i64 3, .slice aS q.sets.length cS, .int .i64 q.every, .int .i64 q.fil.kind, .string q.fil.name, .slice z0 z1 z2, .int .i64 q.fil.frm, .int .i64 q.fil.to, .slice z3 q.fil.l.length z4, .slice ah q.conds.length ch, .slice ao q.keys.length co, .int .i64 q.limit]] #[]) w := hm.look 3 (by omega) (by omega); clear hm; unfold Flow.Runs Flow.yields; go_simp; try rfl); go_simp; refine hK _ ?_; clear hK K)
      refine Flow.tree_nil fun W5 hW5 hG => ?_
      clear hG l0 l1 l2 l3 l4 l5 l6 l7 l8 l9 la lb lc' ld q2
      have HS5 := Lib.hid (HS4.out.later hW5)
      have hg5 := HG.out W5 HS5.out.below
      unfold Gives at hg5
      have HG5 := Lib.hid hg5
      clear hg5 hW5
      gi_wp2_with (refine ⟨trivial, ?_⟩; gi_at_call 79; refine (callsIn_wide.2 HG5.out).mono ?_; rintro e W6 ⟨gf, lb, rfl, hB6, hit⟩)
      have HS6 := Lib.hid (HS5.out.later hB6)
      have HIT := Lib.hid hit
      have hB6' := hB6.size
      have hs5 := HS5.out.size
      clear hit hB6 HG5 HG HS4 hls hlw hl0
      refine Rf.range_wide (gf := gf) (lb := lb) rfl HIT.out.ent ?_
      intro fn W7 hL hD hB7 hS7
      obtain ⟨M, hM⟩ : ∃ M, M = W6.heap.size := ⟨_, rfl⟩
      rw [← hM] at hL hD hS7 ⊢
      obtain ⟨rec, hrec, hL⟩ : ∃ rec : Loop, rec = _ ∧ W7.heap[M + 1]? = some (.loop rec) := ⟨_, rfl, hL⟩
      have HREC := Lib.hid hrec
      have hst : rec.state = .ready ∧ rec.params.size = 1 ∧ rec.pending = none := by rw [hrec]; exact ⟨rfl, rfl, rfl⟩
      clear hrec
      obtain ⟨hst, hps, hpe⟩ := hst
      have hMs : W1.heap.size + 2 ≤ M := by omega
      obtain ⟨qq, hqq⟩ : ∃ qq : Nat → Prop, qq = fun b => p1 b ∨ (W5.heap.size ≤ b ∧ b < W6.heap.size) := ⟨_, rfl⟩
      have hqw : ∀ b, qq b → b ≠ W1.heap.size + 1 ∧ b < M ∧ (W1.heap.size + 2 ≤ b → W5.heap.size ≤ b) := fun b hb => by
        rw [hqq] at hb
        rcases hb with hb | hb
        · rw [hp1] at hb; have := hb.2; exact ⟨by omega, by omega, fun h => by omega⟩
        · exact ⟨by omega, by omega, fun _ => hb.1⟩
      have HCT := Lib.hid (hqq ▸ HIT.out.counts)
      have hI0 : Rn w W1.heap.size #[.slice aa q.aggs.length ca, .slice ab q.names.length cb, .int .i64 3, .slice aS q.sets.length cS, .int .i64 q.every, .int .i64 q.fil.kind, .string q.fil.name, .slice z0 z1 z2, .int .i64 q.fil.frm, .int .i64 q.fil.to, .slice z3 q.fil.l.length z4, .slice ah q.conds.length ch, .slice ao q.keys.length co, .int .i64 q.limit] #[.slice aa q.aggs.length ca, .slice ab q.names.length cb, .int .i64 3, .slice aS q.sets.length cS, .int .i64 q.every, .int .i64 q.fil.kind, .string q.fil.name, .slice z0 z1 z2, .int .i64 q.fil.frm, .int .i64 q.fil.to, .slice z3 q.fil.l.length z4, .slice ah q.conds.length ch, .slice ao q.keys.length co, .int .i64 q.limit] so M rec qq W5.heap.size W6 0 W7 := ⟨ov0, by simpa using HS6.out.later (hM ▸ hB7), hD, hL, Ag.new _ (hM ▸ hB7), fun g hg => .inl (HS5.out.own.lt g hg).2⟩
      clear hB7 hS7 HIT HS6 HS5 hqq hM
      refine callsIn_wide.2 ((HCT.out (M + 1) rec.fn (fun v => (rec.params.zip #[v]).foldl (fun tmps (t, a) => tmps.setIfInBounds t a) rec.tmps) rec.assign rec.body (Rn w W1.heap.size #[.slice aa q.aggs.length ca, .slice ab q.names.length cb, .int .i64 3, .slice aS q.sets.length cS, .int .i64 q.every, .int .i64 q.fil.kind, .string q.fil.name, .slice z0 z1 z2, .int .i64 q.fil.frm, .int .i64 q.fil.to, .slice z3 q.fil.l.length z4, .slice ah q.conds.length ch, .slice ao q.keys.length co, .int .i64 q.limit] #[.slice aa q.aggs.length ca, .slice ab q.names.length cb, .int .i64 3, .slice aS q.sets.length cS, .int .i64 q.every, .int .i64 q.fil.kind, .string q.fil.name, .slice z0 z1 z2, .int .i64 q.fil.frm, .int .i64 q.fil.to, .slice z3 q.fil.l.length z4, .slice ah q.conds.length ch, .slice ao q.keys.length co, .int .i64 q.limit] so M rec qq W5.heap.size W6) ?_ ?_ ?_ ?_ W7 hI0).mono ?_)
      · rintro k W W' ⟨ov, h1, h2, h3, h4, h5⟩ hb
        exact ⟨ov, h1.later hb, (hb.block _ (by have := (Array.getElem?_eq_some_iff.1 h2).1; exact this)).trans h2, (hb.block _ (by have := (Array.getElem?_eq_some_iff.1 h3).1; exact this)).trans h3, h4.trans (Ag.new _ hb), h5⟩
      · rintro k W ⟨ov, h1, h2, h3, h4, h5⟩; exact h4
      · rintro k W ⟨ov, h1, h2, h3, h4, h5⟩ z; exact run_yield h3 (by rw [hps]; rfl)
      · rintro k W hk ⟨ov, h1, h2, h3, h4, h5⟩
        have HS := Lib.hid h1
        have HD := Lib.hid h2
        have HL := Lib.hid h3
        have HA := Lib.hid h4
        have HOB := Lib.hid h5
        clear h1 h2 h3 h4 h5
        have HSN := Lib.hid (natV_snoc so k hk)
        have hlen : (so.take k).length = k := by simp; omega
        have hlen1 : (so.take (k + 1)).length = k + 1 := by simp; omega
        have hk2 : k ≤ 2000 := by omega
        have hRn : RowKit.Hid (∀ W', Rn w W1.heap.size #[.slice aa q.aggs.length ca, .slice ab q.names.length cb, .int .i64 3, .slice aS q.sets.length cS, .int .i64 q.every, .int .i64 q.fil.kind, .string q.fil.name, .slice z0 z1 z2, .int .i64 q.fil.frm, .int .i64 q.fil.to, .slice z3 q.fil.l.length z4, .slice ah q.conds.length ch, .slice ao q.keys.length co, .int .i64 q.limit] #[.slice aa q.aggs.length ca, .slice ab q.names.length cb, .int .i64 3, .slice aS q.sets.length cS, .int .i64 q.every, .int .i64 q.fil.kind, .string q.fil.name, .slice z0 z1 z2, .int .i64 q.fil.frm, .int .i64 q.fil.to, .slice z3 q.fil.l.length z4, .slice ah q.conds.length ch, .slice ao q.keys.length co, .int .i64 q.limit] so M rec qq W5.heap.size W6 (k + 1) W' ↔ ∃ ov, St w W1.heap.size #[.slice aa q.aggs.length ca, .slice ab q.names.length cb, .int .i64 3, .slice aS q.sets.length cS, .int .i64 q.every, .int .i64 q.fil.kind, .string q.fil.name, .slice z0 z1 z2, .int .i64 q.fil.frm, .int .i64 q.fil.to, .slice z3 q.fil.l.length z4, .slice ah q.conds.length ch, .slice ao q.keys.length co, .int .i64 q.limit] #[.slice aa q.aggs.length ca, .slice ab q.names.length cb, .int .i64 3, .slice aS q.sets.length cS, .int .i64 q.every, .int .i64 q.fil.kind, .string q.fil.name, .slice z0 z1 z2, .int .i64 q.fil.frm, .int .i64 q.fil.to, .slice z3 q.fil.l.length z4, .slice ah q.conds.length ch, .slice ao q.keys.length co, .int .i64 q.limit] ov (so.take (k + 1)) W' ∧ W'.heap[M]? = some (.deferred (some [])) ∧ W'.heap[M + 1]? = some (.loop rec) ∧ Ag qq W6 W' ∧ ∀ g, ov.ownBlock = some g → g < W5.heap.size ∨ M < g) := Lib.hid (fun _ => Iff.rfl)
        generalize Rn w W1.heap.size #[.slice aa q.aggs.length ca, .slice ab q.names.length cb, .int .i64 3, .slice aS q.sets.length cS, .int .i64 q.every, .int .i64 q.fil.kind, .string q.fil.name, .slice z0 z1 z2, .int .i64 q.fil.frm, .int .i64 q.fil.to, .slice z3 q.fil.l.length z4, .slice ah q.conds.length ch, .slice ao q.keys.length co, .int .i64 q.limit] #[.slice aa q.aggs.length ca, .slice ab q.names.length cb, .int .i64 3, .slice aS q.sets.length cS, .int .i64 q.every, .int .i64 q.fil.kind, .string q.fil.name, .slice z0 z1 z2, .int .i64 q.fil.frm, .int .i64 q.fil.to, .slice z3 q.fil.l.length z4, .slice ah q.conds.length ch, .slice ao q.keys.length co, .int .i64 q.limit] so M rec qq W5.heap.size W6 (k + 1) = RN at *
        generalize so[k] = zv at *
        generalize so.take (k + 1) = nk1 at *
        generalize so.take k = nk at *
        clear hk
        refine Rf.round_wide (r := rec) ?_
        have hrr := HREC.out
        subst hrr
        dsimp only
        gi_wp2_with (rw [Oper.semAt_eq _ _ _ (fun c h => by cases h)]; go_simp; try go_bits)
        refine ⟨HL.out, fun W9 hs9 hl9 => ?_⟩
        have HS9 := Lib.hid (HS.out.but hs9 (by omega) HL.out rfl)
        have HD9 := Lib.hid ((hs9.block M (by omega)).trans HD.out)
        have HA9 := Lib.hid (HA.out.trans (ag_but qq hs9 (fun h => by have := (hqw _ h).2.1; omega)))
        have HL9 := Lib.hid hl9
        have hM9 : M + 1 < W9.heap.size := (Array.getElem?_eq_some_iff.1 hl9).1
        have hne1 := ownsRow_ne_a HS9.out.own hl9 (fun cur e => by cases e)
        have hne0 := ownsRow_ne_a HS9.out.own HD9.out (fun cur e => by cases e)
        have HNE := Lib.hid (And.intro hne1 hne0)
        obtain ⟨c0, z0'⟩ := cell_of_box HS9.out.kO
        clear hs9 hl9 hne1 hne0
        gi_wp2_with (first
          | (gi_at_builtin; refine wpListIn_append_own_at (w := W9.alloc (.cells #[.int .i64 (zv : Nat)] 3)) rfl _ _ 65 rfl (W1.heap.size + 2) 3 i0 (.int .i64 0) 1 8 Tryd.underlying65 hi hz0 hz1 hz2 rfl (by decide) _ _ _ rfl (HS9.out.own.alloc _) ⟨W9.heap.size, 0, none⟩ 1 1 [.int .i64 (zv : Nat)] rfl rfl (cell_one_new _ _ _) (by simp [Value.oneCell']) (by unfold maxLen; omega) (by omega) (by have := HS9.out.size; simp; omega) ?_; intro v' w3 hown' hg3 _ hloc; obtain ⟨c0b, z0b⟩ := cell_of_box ((HS9.out.block hg3 (by omega)).trans HS9.out.kO); obtain ⟨gg, cp, rfl, _⟩ := owns_cell_any hown' (by omega); go_frame)
          | (rw [Oper.semAt_eq _ _ _ (fun c h => by cases h)]; go_simp; try go_bits))
        have hg3 : World.grownBy (W9.alloc (.cells #[.int .i64 (zv : Nat)] 3)) w3 ov.ownBlock := hg3
        have hloc : (Value.slice (some ⟨gg, 0, none⟩) (nk.length + 1) cp).ownBlock = ov.ownBlock ∨ (Value.slice (some ⟨gg, 0, none⟩) (nk.length + 1) cp).ownBlock = some (W9.alloc (.cells #[.int .i64 (zv : Nat)] 3)).heap.size := hloc
        have HS10 := Lib.hid (HS9.out.append hg3 (ns' := nk1) (by rw [hlen1, ← HSN.out, ← hlen]; exact hown'))
        have hblk : ∀ j, j = M ∨ j = M + 1 → w3.heap[j]? = W9.heap[j]? := fun j hj => (hg3.block j (by simp; omega) (by
          rcases hj with rfl | rfl
          · rcases HNE.out.2 with h | h
            · rw [h]; simp
            · exact fun e => h e.symm
          · rcases HNE.out.1 with h | h
            · rw [h]; simp
            · exact fun e => h e.symm)).trans (Below.heap_alloc _ _ _ (by omega))
        have hL10 := (heap_setCell_other w3 ⟨W1.heap.size + 1, 0, none⟩ (M + 1) (.slice (some ⟨gg, 0, none⟩) (nk.length + 1) cp) (by show M + 1 ≠ W1.heap.size + 1; omega)).trans ((hblk _ (.inr rfl)).trans HL9.out)
        have hD10 := (heap_setCell_other w3 ⟨W1.heap.size + 1, 0, none⟩ M (.slice (some ⟨gg, 0, none⟩) (nk.length + 1) cp) (by show M ≠ W1.heap.size + 1; omega)).trans ((hblk _ (.inl rfl)).trans HD9.out)
        have hA10 : Ag qq W6 (w3.setCell ⟨W1.heap.size + 1, 0, none⟩ (.slice (some ⟨gg, 0, none⟩) (nk.length + 1) cp)) := (HA9.out.trans ((Ag.new qq ((Below.refl _ _).alloc (Nat.le_refl _) (.cells #[.int .i64 (zv : Nat)] 3))).trans (Ag.grown hg3 (fun g e hq => by
          have h1 := hqw g hq
          have h2 := (HS9.out.own.lt g e).1
          rcases HOB.out g e with h | h
          · have := h1.2.2 h2; omega
          · omega)))).trans (Ag.set qq _ _ (fun h => (hqw _ h).1 rfl))
        have hO10 : ∀ g', (Value.slice (some ⟨gg, 0, none⟩) (nk.length + 1) cp).ownBlock = some g' → g' < W5.heap.size ∨ M < g' := fun g' e => by
          rcases hloc with h | h
          · exact HOB.out g' (by rw [← h]; exact e)
          · right
            rw [h] at e
            have := Option.some.inj e
            simp at this; omega
        have HF := Lib.hid (And.intro hL10 (And.intro hD10 (And.intro hA10 hO10)))
        rw [hlen] at HF HS10
        clear hg3 hown' hloc hblk hL10 hD10 hA10 hO10 c0 z0' c0b z0b
        refine ⟨HF.out.1, fun W11 hs11 hl11 => ⟨rfl, (hRn.out W11).2 ⟨_, HS10.out.but hs11 (by omega) HF.out.1 rfl, (hs11.block M (by omega)).trans HF.out.2.1, hl11, HF.out.2.2.1.trans (ag_but qq hs11 (fun h => by have := (hqw _ h).2.1; omega)), HF.out.2.2.2⟩⟩⟩
      · rintro e W8 ⟨⟨vv, rfl⟩, ov, h1, h2, h3, h4, h5⟩
        rw [List.take_of_length_le (Nat.le_refl _)] at h1
        refine ⟨⟨_, rfl⟩, rec, h3, by rw [hst]; decide, ?_⟩
        intro W9 hW9
        rw [hpe]
        dsimp only
        have HS9 := Lib.hid (h1.but hW9 (by omega) h3 rfl)
        have hK9 := (hW9.block M (by omega)).trans h2
        have hM9 : M < W9.heap.size := (Array.getElem?_eq_some_iff.1 hK9).1
        obtain ⟨c0, z0'⟩ := cell_of_box HS9.out.kO
        have hne0 := ownsRow_ne_a HS9.out.own hK9 (fun cur e => by cases e)
        have HP := Lib.hid (show SetsPost w ck so (.returned (.tuple #[ov, .int .i64 0])) (W9.putObj M (.deferred none)) from ⟨ov, by rw [HCK0.out]; rfl, by
          rw [if_pos HCK0.out]
          exact ((SlP.owned (HS9.out.own.kept (grownBy_putObj W9 M (.deferred none)) hne0)).weak fun b hb => by have : W1.heap.size + 2 ≤ b := hb; omega), HS9.out.below.grown (grownBy_putObj W9 M (.deferred none)) (by have := HS9.out.size; omega) (fun j e => by cases e; omega)⟩)
        clear h1 h2 h3 h4 h5 hW9 hne0
        gi_wp2
        refine ⟨by simp, .inl ⟨_, _, rfl, run_takeDeferred hK9, ?_⟩⟩
        refine ⟨_, results_tmp2 rfl _ _ _, ?_⟩
        try dsimp only [Array.getD_eq_getD_getElem?, List.getElem?_toArray]
        try simp only [Array.getD_eq_getD_getElem?, List.getElem?_toArray, List.getElem?_cons_succ, List.getElem?_cons_zero, Option.getD_some]
        exact HP.out
    · have hso : so = q.sets.map (Que.setOf q.names) := HSO.out.trans ((if_neg (by decide)).trans ((if_neg (by decide)).trans (if_neg (by decide))))
      have HG := Lib.hid (fun X (hX : Below w.heap.size w X) => sets_any (.slice aa q.aggs.length ca) (.int .i64 4) (.int .i64 q.every) (.int .i64 q.fil.kind) (.string q.fil.name) (.slice z0 z1 z2) (.int .i64 q.fil.frm) (.int .i64 q.fil.to) (.slice z3 q.fil.l.length z4) (.slice ah q.conds.length ch) (.slice ao q.keys.length co) (.int .i64 q.limit) (.slice ab q.names.length cb) p1 X _ q.names q.sets hn6 (HNM.out X hX) (HST.out X hX))
      have hsl : so.length ≤ 1999 := by rw [hso]; simp; omega
      rw [← hso] at HG
      clear hso HSO
      obtain ⟨lc, hlc⟩ : ∃ lc : Array Value, lc = #[.slice aa q.aggs.length ca, .slice ab q.names.length cb, .int .i64 4, .slice aS q.sets.length cS, .int .i64 q.every, .int .i64 q.fil.kind, .string q.fil.name, .slice z0 z1 z2, .int .i64 q.fil.frm, .int .i64 q.fil.to, .slice z3 q.fil.l.length z4, .slice ah q.conds.length ch, .slice ao q.keys.length co, .int .i64 q.limit] := ⟨_, rfl⟩
      obtain ⟨W2, hW2⟩ : ∃ W2, (W1.alloc (.cells #[.slice aa q.aggs.length ca, .slice ab q.names.length cb, .int .i64 4, .slice aS q.sets.length cS, .int .i64 q.every, .int .i64 q.fil.kind, .string q.fil.name, .slice z0 z1 z2, .int .i64 q.fil.frm, .int .i64 q.fil.to, .slice z3 q.fil.l.length z4, .slice ah q.conds.length ch, .slice ao q.keys.length co, .int .i64 q.limit] 98)).alloc (.cells #[.slice none 0 0] 65) = W2 := ⟨_, rfl⟩
      obtain ⟨hL2, hO2, hS2, hB2⟩ := laid2 W1 (.cells #[.slice aa q.aggs.length ca, .slice ab q.names.length cb, .int .i64 4, .slice aS q.sets.length cS, .int .i64 q.every, .int .i64 q.fil.kind, .string q.fil.name, .slice z0 z1 z2, .int .i64 q.fil.frm, .int .i64 q.fil.to, .slice z3 q.fil.l.length z4, .slice ah q.conds.length ch, .slice ao q.keys.length co, .int .i64 q.limit] 98) (.cells #[.slice none 0 0] 65)
      rw [hW2] at hL2 hO2 hS2 hB2
      have hQ2 := (hB2.block _ (by omega)).trans HQ1.out
      have hSt2 : St w W1.heap.size #[.slice aa q.aggs.length ca, .slice ab q.names.length cb, .int .i64 4, .slice aS q.sets.length cS, .int .i64 q.every, .int .i64 q.fil.kind, .string q.fil.name, .slice z0 z1 z2, .int .i64 q.fil.frm, .int .i64 q.fil.to, .slice z3 q.fil.l.length z4, .slice ah q.conds.length ch, .slice ao q.keys.length co, .int .i64 q.limit] #[.slice aa q.aggs.length ca, .slice ab q.names.length cb, .int .i64 4, .slice aS q.sets.length cS, .int .i64 q.every, .int .i64 q.fil.kind, .string q.fil.name, .slice z0 z1 z2, .int .i64 q.fil.frm, .int .i64 q.fil.to, .slice z3 q.fil.l.length z4, .slice ah q.conds.length ch, .slice ao q.keys.length co, .int .i64 q.limit] (.slice none 0 0) [] W2 := ⟨hQ2, hL2, hO2, World.ownsRow_nil _ _ _ _, Bt HB1.out hB2, hsz1, by omega⟩
      have HS2 := Lib.hid hSt2
      have hS2' := hS2
      clear hL2 hO2 hS2 hB2 hSt2
      obtain ⟨q0, q1, q2, q3, q4, q5, q6, q7, q8, q9, qa, qb, qc, qd⟩ := (can14 hQ2).1
      obtain ⟨oc, oz⟩ := cell_of_box HS2.out.kO
      clear hQ2
      gi_wp2
      obtain ⟨W4, rfl⟩ : ∃ W4, W4 = W2 := ⟨_, rfl⟩
      have HS4 := Lib.hid HS2.out
      clear q0 q1 q2 q3 q4 q5 q6 q7 q8 q9 qa qb qc qd oc oz
      clear HS2 hW2 hS2'
      obtain ⟨ov0, hov⟩ : ∃ ov0, ov0 = Value.slice none 0 0 := ⟨_, rfl⟩
      rw [← hov] at HS4
      clear hov
      obtain ⟨l0, l1, l2, l3, l4, l5, l6, l7, l8, l9, la, lb, lc', ld⟩ := (can14 HS4.out.kL).1
      have q2 := (can14 HS4.out.kQ).1.2.2.1
      have hls := HS4.out.size
      have hlw : w.heap.size + 1 < W4.heap.size := by omega
      have hl0 : W1.heap.size < W4.heap.size := by omega
      refine Flow.wpIn_region_flow_tail 5 (Flow.specs [.inl ?_, .inr (isModes #[.slice aa q.aggs.length ca, .slice ab q.names.length cb, .int .i64 4, .slice aS q.sets.length cS, .int .i64 q.every, .int .i64 q.fil.kind, .string q.fil.name, .slice z0 z1 z2, .int .i64 q.fil.frm, .int .i64 q.fil.to, .slice z3 q.fil.l.length z4, .slice ah q.conds.length ch, .slice ao q.keys.length co, .int .i64 q.limit]), .inl ?_, .inl ?_, .inl (.func (.func 80) #[.agg #[.slice aa q.aggs.length ca, .slice ab q.names.length cb, .int .i64 4, .slice aS q.sets.length cS, .int .i64 q.every, .int .i64 q.fil.kind, .string q.fil.name, .slice z0 z1 z2, .int .i64 q.fil.frm, .int .i64 q.fil.to, .slice z3 q.fil.l.length z4, .slice ah q.conds.length ch, .slice ao q.keys.length co, .int .i64 q.limit]] #[])]) (by kernel_rfl) (by kernel_rfl) ?_ ?_
      rotate_left 3
      · refine Flow.specs_mono ?_
        repeat (first | exact Flow.lmono_nil | refine Flow.lmono_inl ?_ | refine Flow.lmono_inr (isModes_mono _) ?_)
      all_goals try simp only [List.take_succ_cons, List.take_zero, List.drop_succ_cons, List.drop_zero]
      (refine Flow.tree_valK rfl (fun K hK => ⟨fun w hw hG => ?_, ?_⟩); (have hcl := Flow.bcell hw; clear hG hw; unfold Flow.Runs Flow.yields; go_simp; try rfl); go_simp; refine hK _ ?_; clear hK K)
      (refine Flow.tree_varK rfl (fun K hK => ⟨fun w hw hG => ?_, ?_⟩); (clear hG hw; unfold Flow.Runs Flow.yields; go_simp; refine (modes_any _ _ _ _ _ _ _ _ _ _ _ _ _ _ _).mono ?_; rintro e w3 ⟨b, rfl, hm, hb3⟩; exact ⟨_, rfl, hb3, b, rfl, hm⟩); intro vm'; go_simp; refine hK _ _ ?_; clear hK K)
      iterate 2 (refine Flow.tree_valK rfl (fun K hK => ⟨fun w hw hG => ?_, ?_⟩); (have hcl := Flow.bcell hw; clear hG hw; unfold Flow.Runs Flow.yields; go_simp; try rfl); go_simp; refine hK _ ?_; clear hK K)
      (refine Flow.tree_valK rfl (fun K hK => ⟨fun w hw hG => ?_, ?_⟩); (have hvm := (show isModes #[.slice aa q.aggs.length ca, .slice ab q.names.length cb, .int .i64 4, .slice aS q.sets.length cS, .int .i64 q.every, .int .i64 q.fil.kind, .string q.fil.name, .slice z0 z1 z2, .int .i64 q.fil.frm, .int .i64 q.fil.to, .slice z3 q.fil.l.length z4, .slice ah q.conds.length ch, .slice ao q.keys.length co, .int .i64 q.limit] vm' w by simpa [Flow.upd] using hG 1 (by kernel_rfl)); clear hG; obtain ⟨bm, rfl, hm⟩ := hvm; have hlk : (Instr.lookup 102 (.map (some bm)) (.int .i64 4) false).run Tryd.prog w = .ok (.func (.func 80) #[.agg #[.slice aa q.aggs.length ca, .slice ab q.names.length cb, .int .i64 4, .slice aS q.sets.length cS, .int .i64 q.every, .int .i64 q.fil.kind, .string q.fil.name, .slice z0 z1 z2, .int .i64 q.fil.frm, .int .i64 q.fil.to, .slice z3 q.fil.l.length z4, .slice ah q.conds.length ch, .slice ao q.keys.length co, .int .i64 q.limit]] #[]) w := hm.look 4 (by omega) (by omega); clear hm; unfold Flow.Runs Flow.yields; go_simp; try rfl); go_simp; refine hK _ ?_; clear hK K)
      refine Flow.tree_nil fun W5 hW5 hG => ?_
      clear hG l0 l1 l2 l3 l4 l5 l6 l7 l8 l9 la lb lc' ld q2
      have HS5 := Lib.hid (HS4.out.later hW5)
      have hg5 := HG.out W5 HS5.out.below
      unfold Gives at hg5
      have HG5 := Lib.hid hg5
      clear hg5 hW5
      gi_wp2_with (refine ⟨trivial, ?_⟩; gi_at_call 80; refine (callsIn_wide.2 HG5.out).mono ?_; rintro e W6 ⟨gf, lb, rfl, hB6, hit⟩)
      have HS6 := Lib.hid (HS5.out.later hB6)
      have HIT := Lib.hid hit
      have hB6' := hB6.size
      have hs5 := HS5.out.size
      clear hit hB6 HG5 HG HS4 hls hlw hl0
      refine Rf.range_wide (gf := gf) (lb := lb) rfl HIT.out.ent ?_
      intro fn W7 hL hD hB7 hS7
      obtain ⟨M, hM⟩ : ∃ M, M = W6.heap.size := ⟨_, rfl⟩
      rw [← hM] at hL hD hS7 ⊢
      obtain ⟨rec, hrec, hL⟩ : ∃ rec : Loop, rec = _ ∧ W7.heap[M + 1]? = some (.loop rec) := ⟨_, rfl, hL⟩
      have HREC := Lib.hid hrec
      have hst : rec.state = .ready ∧ rec.params.size = 1 ∧ rec.pending = none := by rw [hrec]; exact ⟨rfl, rfl, rfl⟩
      clear hrec
      obtain ⟨hst, hps, hpe⟩ := hst
      have hMs : W1.heap.size + 2 ≤ M := by omega
      obtain ⟨qq, hqq⟩ : ∃ qq : Nat → Prop, qq = fun b => p1 b ∨ (W5.heap.size ≤ b ∧ b < W6.heap.size) := ⟨_, rfl⟩
      have hqw : ∀ b, qq b → b ≠ W1.heap.size + 1 ∧ b < M ∧ (W1.heap.size + 2 ≤ b → W5.heap.size ≤ b) := fun b hb => by
        rw [hqq] at hb
        rcases hb with hb | hb
        · rw [hp1] at hb; have := hb.2; exact ⟨by omega, by omega, fun h => by omega⟩
        · exact ⟨by omega, by omega, fun _ => hb.1⟩
      have HCT := Lib.hid (hqq ▸ HIT.out.counts)
      have hI0 : Rn w W1.heap.size #[.slice aa q.aggs.length ca, .slice ab q.names.length cb, .int .i64 4, .slice aS q.sets.length cS, .int .i64 q.every, .int .i64 q.fil.kind, .string q.fil.name, .slice z0 z1 z2, .int .i64 q.fil.frm, .int .i64 q.fil.to, .slice z3 q.fil.l.length z4, .slice ah q.conds.length ch, .slice ao q.keys.length co, .int .i64 q.limit] #[.slice aa q.aggs.length ca, .slice ab q.names.length cb, .int .i64 4, .slice aS q.sets.length cS, .int .i64 q.every, .int .i64 q.fil.kind, .string q.fil.name, .slice z0 z1 z2, .int .i64 q.fil.frm, .int .i64 q.fil.to, .slice z3 q.fil.l.length z4, .slice ah q.conds.length ch, .slice ao q.keys.length co, .int .i64 q.limit] so M rec qq W5.heap.size W6 0 W7 := ⟨ov0, by simpa using HS6.out.later (hM ▸ hB7), hD, hL, Ag.new _ (hM ▸ hB7), fun g hg => .inl (HS5.out.own.lt g hg).2⟩
      clear hB7 hS7 HIT HS6 HS5 hqq hM
      refine callsIn_wide.2 ((HCT.out (M + 1) rec.fn (fun v => (rec.params.zip #[v]).foldl (fun tmps (t, a) => tmps.setIfInBounds t a) rec.tmps) rec.assign rec.body (Rn w W1.heap.size #[.slice aa q.aggs.length ca, .slice ab q.names.length cb, .int .i64 4, .slice aS q.sets.length cS, .int .i64 q.every, .int .i64 q.fil.kind, .string q.fil.name, .slice z0 z1 z2, .int .i64 q.fil.frm, .int .i64 q.fil.to, .slice z3 q.fil.l.length z4, .slice ah q.conds.length ch, .slice ao q.keys.length co, .int .i64 q.limit] #[.slice aa q.aggs.length ca, .slice ab q.names.length cb, .int .i64 4, .slice aS q.sets.length cS, .int .i64 q.every, .int .i64 q.fil.kind, .string q.fil.name, .slice z0 z1 z2, .int .i64 q.fil.frm, .int .i64 q.fil.to, .slice z3 q.fil.l.length z4, .slice ah q.conds.length ch, .slice ao q.keys.length co, .int .i64 q.limit] so M rec qq W5.heap.size W6) ?_ ?_ ?_ ?_ W7 hI0).mono ?_)
      · rintro k W W' ⟨ov, h1, h2, h3, h4, h5⟩ hb
        exact ⟨ov, h1.later hb, (hb.block _ (by have := (Array.getElem?_eq_some_iff.1 h2).1; exact this)).trans h2, (hb.block _ (by have := (Array.getElem?_eq_some_iff.1 h3).1; exact this)).trans h3, h4.trans (Ag.new _ hb), h5⟩
      · rintro k W ⟨ov, h1, h2, h3, h4, h5⟩; exact h4
      · rintro k W ⟨ov, h1, h2, h3, h4, h5⟩ z; exact run_yield h3 (by rw [hps]; rfl)
      · rintro k W hk ⟨ov, h1, h2, h3, h4, h5⟩
        have HS := Lib.hid h1
        have HD := Lib.hid h2
        have HL := Lib.hid h3
        have HA := Lib.hid h4
        have HOB := Lib.hid h5
        clear h1 h2 h3 h4 h5
        have HSN := Lib.hid (natV_snoc so k hk)
        have hlen : (so.take k).length = k := by simp; omega
        have hlen1 : (so.take (k + 1)).length = k + 1 := by simp; omega
        have hk2 : k ≤ 2000 := by omega
        have hRn : RowKit.Hid (∀ W', Rn w W1.heap.size #[.slice aa q.aggs.length ca, .slice ab q.names.length cb, .int .i64 4, .slice aS q.sets.length cS, .int .i64 q.every, .int .i64 q.fil.kind, .string q.fil.name, .slice z0 z1 z2, .int .i64 q.fil.frm, .int .i64 q.fil.to, .slice z3 q.fil.l.length z4, .slice ah q.conds.length ch, .slice ao q.keys.length co, .int .i64 q.limit] #[.slice aa q.aggs.length ca, .slice ab q.names.length cb, .int .i64 4, .slice aS q.sets.length cS, .int .i64 q.every, .int .i64 q.fil.kind, .string q.fil.name, .slice z0 z1 z2, .int .i64 q.fil.frm, .int .i64 q.fil.to, .slice z3 q.fil.l.length z4, .slice ah q.conds.length ch, .slice ao q.keys.length co, .int .i64 q.limit] so M rec qq W5.heap.size W6 (k + 1) W' ↔ ∃ ov, St w W1.heap.size #[.slice aa q.aggs.length ca, .slice ab q.names.length cb, .int .i64 4, .slice aS q.sets.length cS, .int .i64 q.every, .int .i64 q.fil.kind, .string q.fil.name, .slice z0 z1 z2, .int .i64 q.fil.frm, .int .i64 q.fil.to, .slice z3 q.fil.l.length z4, .slice ah q.conds.length ch, .slice ao q.keys.length co, .int .i64 q.limit] #[.slice aa q.aggs.length ca, .slice ab q.names.length cb, .int .i64 4, .slice aS q.sets.length cS, .int .i64 q.every, .int .i64 q.fil.kind, .string q.fil.name, .slice z0 z1 z2, .int .i64 q.fil.frm, .int .i64 q.fil.to, .slice z3 q.fil.l.length z4, .slice ah q.conds.length ch, .slice ao q.keys.length co, .int .i64 q.limit] ov (so.take (k + 1)) W' ∧ W'.heap[M]? = some (.deferred (some [])) ∧ W'.heap[M + 1]? = some (.loop rec) ∧ Ag qq W6 W' ∧ ∀ g, ov.ownBlock = some g → g < W5.heap.size ∨ M < g) := Lib.hid (fun _ => Iff.rfl)
        generalize Rn w W1.heap.size #[.slice aa q.aggs.length ca, .slice ab q.names.length cb, .int .i64 4, .slice aS q.sets.length cS, .int .i64 q.every, .int .i64 q.fil.kind, .string q.fil.name, .slice z0 z1 z2, .int .i64 q.fil.frm, .int .i64 q.fil.to, .slice z3 q.fil.l.length z4, .slice ah q.conds.length ch, .slice ao q.keys.length co, .int .i64 q.limit] #[.slice aa q.aggs.length ca, .slice ab q.names.length cb, .int .i64 4, .slice aS q.sets.length cS, .int .i64 q.every, .int .i64 q.fil.kind, .string q.fil.name, .slice z0 z1 z2, .int .i64 q.fil.frm, .int .i64 q.fil.to, .slice z3 q.fil.l.length z4, .slice ah q.conds.length ch, .slice ao q.keys.length co, .int .i64 q.limit] so M rec qq W5.heap.size W6 (k + 1) = RN at *
        generalize so[k] = zv at *
        generalize so.take (k + 1) = nk1 at *
        generalize so.take k = nk at *
        clear hk
        refine Rf.round_wide (r := rec) ?_
        have hrr := HREC.out
        subst hrr
        dsimp only
        gi_wp2_with (rw [Oper.semAt_eq _ _ _ (fun c h => by cases h)]; go_simp; try go_bits)
        refine ⟨HL.out, fun W9 hs9 hl9 => ?_⟩
        have HS9 := Lib.hid (HS.out.but hs9 (by omega) HL.out rfl)
        have HD9 := Lib.hid ((hs9.block M (by omega)).trans HD.out)
        have HA9 := Lib.hid (HA.out.trans (ag_but qq hs9 (fun h => by have := (hqw _ h).2.1; omega)))
        have HL9 := Lib.hid hl9
        have hM9 : M + 1 < W9.heap.size := (Array.getElem?_eq_some_iff.1 hl9).1
        have hne1 := ownsRow_ne_a HS9.out.own hl9 (fun cur e => by cases e)
        have hne0 := ownsRow_ne_a HS9.out.own HD9.out (fun cur e => by cases e)
        have HNE := Lib.hid (And.intro hne1 hne0)
        obtain ⟨c0, z0'⟩ := cell_of_box HS9.out.kO
        clear hs9 hl9 hne1 hne0
        gi_wp2_with (first
          | (gi_at_builtin; refine wpListIn_append_own_at (w := W9.alloc (.cells #[.int .i64 (zv : Nat)] 3)) rfl _ _ 65 rfl (W1.heap.size + 2) 3 i0 (.int .i64 0) 1 8 Tryd.underlying65 hi hz0 hz1 hz2 rfl (by decide) _ _ _ rfl (HS9.out.own.alloc _) ⟨W9.heap.size, 0, none⟩ 1 1 [.int .i64 (zv : Nat)] rfl rfl (cell_one_new _ _ _) (by simp [Value.oneCell']) (by unfold maxLen; omega) (by omega) (by have := HS9.out.size; simp; omega) ?_; intro v' w3 hown' hg3 _ hloc; obtain ⟨c0b, z0b⟩ := cell_of_box ((HS9.out.block hg3 (by omega)).trans HS9.out.kO); obtain ⟨gg, cp, rfl, _⟩ := owns_cell_any hown' (by omega); go_frame)
          | (rw [Oper.semAt_eq _ _ _ (fun c h => by cases h)]; go_simp; try go_bits))
        have hg3 : World.grownBy (W9.alloc (.cells #[.int .i64 (zv : Nat)] 3)) w3 ov.ownBlock := hg3
        have hloc : (Value.slice (some ⟨gg, 0, none⟩) (nk.length + 1) cp).ownBlock = ov.ownBlock ∨ (Value.slice (some ⟨gg, 0, none⟩) (nk.length + 1) cp).ownBlock = some (W9.alloc (.cells #[.int .i64 (zv : Nat)] 3)).heap.size := hloc
        have HS10 := Lib.hid (HS9.out.append hg3 (ns' := nk1) (by rw [hlen1, ← HSN.out, ← hlen]; exact hown'))
        have hblk : ∀ j, j = M ∨ j = M + 1 → w3.heap[j]? = W9.heap[j]? := fun j hj => (hg3.block j (by simp; omega) (by
          rcases hj with rfl | rfl
          · rcases HNE.out.2 with h | h
            · rw [h]; simp
            · exact fun e => h e.symm
          · rcases HNE.out.1 with h | h
            · rw [h]; simp
            · exact fun e => h e.symm)).trans (Below.heap_alloc _ _ _ (by omega))
        have hL10 := (heap_setCell_other w3 ⟨W1.heap.size + 1, 0, none⟩ (M + 1) (.slice (some ⟨gg, 0, none⟩) (nk.length + 1) cp) (by show M + 1 ≠ W1.heap.size + 1; omega)).trans ((hblk _ (.inr rfl)).trans HL9.out)
        have hD10 := (heap_setCell_other w3 ⟨W1.heap.size + 1, 0, none⟩ M (.slice (some ⟨gg, 0, none⟩) (nk.length + 1) cp) (by show M ≠ W1.heap.size + 1; omega)).trans ((hblk _ (.inl rfl)).trans HD9.out)
        have hA10 : Ag qq W6 (w3.setCell ⟨W1.heap.size + 1, 0, none⟩ (.slice (some ⟨gg, 0, none⟩) (nk.length + 1) cp)) := (HA9.out.trans ((Ag.new qq ((Below.refl _ _).alloc (Nat.le_refl _) (.cells #[.int .i64 (zv : Nat)] 3))).trans (Ag.grown hg3 (fun g e hq => by
          have h1 := hqw g hq
          have h2 := (HS9.out.own.lt g e).1
          rcases HOB.out g e with h | h
          · have := h1.2.2 h2; omega
          · omega)))).trans (Ag.set qq _ _ (fun h => (hqw _ h).1 rfl))
        have hO10 : ∀ g', (Value.slice (some ⟨gg, 0, none⟩) (nk.length + 1) cp).ownBlock = some g' → g' < W5.heap.size ∨ M < g' := fun g' e => by
          rcases hloc with h | h
          · exact HOB.out g' (by rw [← h]; exact e)
          · right
            rw [h] at e
            have := Option.some.inj e
            simp at this; omega
        have HF := Lib.hid (And.intro hL10 (And.intro hD10 (And.intro hA10 hO10)))
        rw [hlen] at HF HS10
        clear hg3 hown' hloc hblk hL10 hD10 hA10 hO10 c0 z0' c0b z0b
        refine ⟨HF.out.1, fun W11 hs11 hl11 => ⟨rfl, (hRn.out W11).2 ⟨_, HS10.out.but hs11 (by omega) HF.out.1 rfl, (hs11.block M (by omega)).trans HF.out.2.1, hl11, HF.out.2.2.1.trans (ag_but qq hs11 (fun h => by have := (hqw _ h).2.1; omega)), HF.out.2.2.2⟩⟩⟩
      · rintro e W8 ⟨⟨vv, rfl⟩, ov, h1, h2, h3, h4, h5⟩
        rw [List.take_of_length_le (Nat.le_refl _)] at h1
        refine ⟨⟨_, rfl⟩, rec, h3, by rw [hst]; decide, ?_⟩
        intro W9 hW9
        rw [hpe]
        dsimp only
        have HS9 := Lib.hid (h1.but hW9 (by omega) h3 rfl)
        have hK9 := (hW9.block M (by omega)).trans h2
        have hM9 : M < W9.heap.size := (Array.getElem?_eq_some_iff.1 hK9).1
        obtain ⟨c0, z0'⟩ := cell_of_box HS9.out.kO
        have hne0 := ownsRow_ne_a HS9.out.own hK9 (fun cur e => by cases e)
        have HP := Lib.hid (show SetsPost w ck so (.returned (.tuple #[ov, .int .i64 0])) (W9.putObj M (.deferred none)) from ⟨ov, by rw [HCK0.out]; rfl, by
          rw [if_pos HCK0.out]
          exact ((SlP.owned (HS9.out.own.kept (grownBy_putObj W9 M (.deferred none)) hne0)).weak fun b hb => by have : W1.heap.size + 2 ≤ b := hb; omega), HS9.out.below.grown (grownBy_putObj W9 M (.deferred none)) (by have := HS9.out.size; omega) (fun j e => by cases e; omega)⟩)
        clear h1 h2 h3 h4 h5 hW9 hne0
        gi_wp2
        refine ⟨by simp, .inl ⟨_, _, rfl, run_takeDeferred hK9, ?_⟩⟩
        refine ⟨_, results_tmp2 rfl _ _ _, ?_⟩
        try dsimp only [Array.getD_eq_getD_getElem?, List.getElem?_toArray]
        try simp only [Array.getD_eq_getD_getElem?, List.getElem?_toArray, List.getElem?_cons_succ, List.getElem?_cons_zero, Option.getD_some]
        exact HP.out
  · have hE1 : ((Que.check s q : Nat) : Int) ≠ 0 := by omega
    have hE2 : (((Que.check s q : Nat) : Int) != 0) = true := by rw [bne_iff_ne]; exact hE1
    have HP := Lib.hid (show SetsPost w (Que.check s q) (Que.setsOf q) (.returned (.tuple #[.slice none 0 0, .int .i64 (Que.check s q : Nat)])) W1 from ⟨_, rfl, by rw [if_neg hck]; exact SlP.nil _ _, HB1.out⟩)
    clear hck
    generalize Que.check s q = E at *
    gi_wp2
    refine ⟨_, results_tmp2 rfl _ _ _, ?_⟩
    exact HP.out
end Go.Proofs.YtdfnolgcdododaaDoor
namespace Tess
open Go
abbrev ab : List ByteArray := [⟨#[97]⟩, ⟨#[98]⟩]
def schAB : Sch := ⟨ab, [], 1⟩
def queAB (mode : Int) (sets : List (List ByteArray)) : Que := ⟨[⟨1, ⟨#[]⟩⟩], ab, mode, sets, 0, .mk 1 ⟨#[]⟩ [] 0 0 [], [], [], 0⟩
theorem schAB_ok : schOk schAB = true := by decide +kernel
theorem queAB2 : Que.check schAB (queAB 2 []) = 0 := by decide +kernel
theorem queAB3 : Que.check schAB (queAB 3 []) = 0 := by decide +kernel
theorem queAB4 : Que.check schAB (queAB 4 [[⟨#[98]⟩], []]) = 0 := by decide +kernel
theorem setsAB2 : Que.setsOf (queAB 2 []) = [0, 1, 2, 3] := by decide +kernel
theorem setsAB3 : Que.setsOf (queAB 3 []) = [0, 2, 3] := by decide +kernel
theorem setsAB4 : Que.setsOf (queAB 4 [[⟨#[98]⟩], []]) = [1, 3] := by decide +kernel
end Tess
namespace Go.Proofs.YtdfnolgcdododaaDoor
open Go.RowKit Go.Sort
open Tess (Fil Que)

theorem row_at' {q : Nat → Prop} {w : World} {b : Nat} {t : TypeId} (l : List Value) (h : w.heap[b]? = some (.cells l.toArray t (0, 0))) (h0 : l.length ≤ maxLen) (hq : q b) : SlP q w (.slice (some ⟨b, 0, none⟩) l.length l.length) l :=
  ⟨⟨h0, _, _, rfl, fun _ => ⟨b, 0, rfl, (Array.getElem?_eq_some_iff.1 h).1, fun j hj => by rw [Nat.zero_add, cell_of_row w b j _ _ _ h]; simp [hj]⟩⟩, fun _ c e => by cases e; exact hq, fun n c e => by cases e⟩
theorem kindsAB : kindsOk (Fil.mk 1 ⟨#[]⟩ [] 0 0 []) := by
  unfold kindsOk
  rw [Fil.allP_eq]
  simp [Fil.kind, Fil.l]
abbrev schC (B : Nat) : Array Value := #[.slice (some ⟨B, 0, none⟩) 2 2, .slice none 0 0, .int .i64 1]
abbrev queC (B : Nat) (mode : Int) (vS : Value) : Array Value := #[.slice (some ⟨B + 1 + 1, 0, none⟩) 1 1, .slice (some ⟨B + 1 + 1 + 1, 0, none⟩) 2 2, .int .i64 mode, vS, .int .i64 0, .int .i64 1, .string ⟨#[]⟩, .slice none 0 0, .int .i64 0, .int .i64 0, .slice none 0 0, .slice none 0 0, .slice none 0 0, .int .i64 0]
/-- The head's blocks. -/
structure Sh (w : World) (mode : Int) (vS : Value) (W : World) : Prop where
  kA : W.heap[w.heap.size]? = some (.cells #[.string ⟨#[97]⟩, .string ⟨#[98]⟩] 9 (0, 0))
  kS : W.heap[w.heap.size + 1]? = some (.cells (schC w.heap.size) 24 (0, 0))
  kG : W.heap[w.heap.size + 1 + 1]? = some (.cells #[.int .i64 1, .string ⟨#[]⟩] 93 (0, 0))
  kN : W.heap[w.heap.size + 1 + 1 + 1]? = some (.cells #[.string ⟨#[97]⟩, .string ⟨#[98]⟩] 9 (0, 0))
  kQ : W.heap[w.heap.size + 1 + 1 + 1 + 1]? = some (.cells (queC w.heap.size mode vS) 63 (0, 0))
  below : Below w.heap.size w W
/-- Not a box of the head's. -/
def Shq (w : World) (b : Nat) : Prop := b ≠ w.heap.size + 1 ∧ b ≠ w.heap.size + 1 + 1 + 1 + 1
section
variable {w W W' : World} {mode : Int} {vS : Value}
theorem Sh.lt (h : Sh w mode vS W) : w.heap.size + 1 + 1 + 1 + 1 < W.heap.size := (Array.getElem?_eq_some_iff.1 h.kQ).1
theorem Sh.later (h : Sh w mode vS W) (hb : Below W.heap.size W W') : Sh w mode vS W' :=
  have := h.lt
  ⟨(hb.block _ (by omega)).trans h.kA, (hb.block _ (by omega)).trans h.kS, (hb.block _ (by omega)).trans h.kG, (hb.block _ (by omega)).trans h.kN, (hb.block _ (by omega)).trans h.kQ, Bt h.below hb⟩
theorem Sh.set (h : Sh w mode vS W) (i : Nat) (u : Value) (mode' : Int) (vS' : Value) (e : (queC w.heap.size mode vS).setIfInBounds i u = queC w.heap.size mode' vS') : Sh w mode' vS' (W.setCell ⟨w.heap.size + 1 + 1 + 1 + 1, i, none⟩ u) :=
  ⟨(heap_setCell_other _ _ _ _ (by show _ ≠ w.heap.size + 1 + 1 + 1 + 1; omega)).trans h.kA, (heap_setCell_other _ _ _ _ (by show _ ≠ w.heap.size + 1 + 1 + 1 + 1; omega)).trans h.kS, (heap_setCell_other _ _ _ _ (by show _ ≠ w.heap.size + 1 + 1 + 1 + 1; omega)).trans h.kG,
    (heap_setCell_other _ _ _ _ (by show _ ≠ w.heap.size + 1 + 1 + 1 + 1; omega)).trans h.kN, by have := heap_setCell_same W (w.heap.size + 1 + 1 + 1 + 1) i _ 63 u h.kQ; rw [e] at this; exact this, h.below.setCell (by show _ ≤ w.heap.size + 1 + 1 + 1 + 1; omega) _⟩
theorem Sh.sch (h : Sh w mode vS W) : SchAt (Shq w) W (.agg (schC w.heap.size)) Tess.schAB :=
  ⟨_, _, rfl, row_at' [.string ⟨#[97]⟩, .string ⟨#[98]⟩] h.kA (by decide) ⟨by omega, by omega⟩, SlP.nil _ _, (fun x (hx : x ∈ Tess.ab) => by
    rcases List.mem_cons.1 hx with rfl | hx
    · exact (by decide : (1 : Nat) ≤ maxLen)
    · rcases List.mem_cons.1 hx with rfl | hx
      · exact (by decide : (1 : Nat) ≤ maxLen)
      · cases hx), fun x (hx : x ∈ ([] : List ByteArray)) => by cases hx⟩
theorem Sh.que (h : Sh w mode vS W) {sets : List (List ByteArray)} (hs : SetsAt (Shq w) W vS sets) :
    QueAt (Shq w) 1 W (.agg (queC w.heap.size mode vS)) (Tess.queAB mode sets) (.slice (some ⟨w.heap.size + 1 + 1, 0, none⟩) 1 1) (.slice (some ⟨w.heap.size + 1 + 1 + 1, 0, none⟩) 2 2) vS (.int .i64 1) (.string ⟨#[]⟩) (.slice none 0 0) (.int .i64 0) (.int .i64 0) (.slice none 0 0) (.slice none 0 0) (.slice none 0 0) where
  e := rfl
  aggs := ⟨_, _, rfl, (by decide : (1 : Nat) ≤ maxLen), Nat.le_refl _, (fun e => by cases e), fun _ => ⟨w.heap.size + 1 + 1, 0, rfl, (Array.getElem?_eq_some_iff.1 h.kG).1, ⟨by omega, by omega⟩, fun j hj i hi => by
    have hj : j < 1 := hj
    obtain rfl : j = 0 := by omega
    have : i = 0 ∨ i = 1 := by omega
    rcases this with rfl | rfl
    · exact cell_of_row _ _ 0 _ _ _ h.kG
    · exact cell_of_row _ _ 1 _ _ _ h.kG⟩⟩
  mets := fun x (hx : x ∈ [(⟨1, ⟨#[]⟩⟩ : Tess.Agg)]) => by
    rcases List.mem_cons.1 hx with rfl | hx
    · exact Nat.zero_le _
    · cases hx
  names := row_at' [.string ⟨#[97]⟩, .string ⟨#[98]⟩] h.kN (by decide) ⟨by omega, by omega⟩
  small := fun x (hx : x ∈ Tess.ab) => by
    rcases List.mem_cons.1 hx with rfl | hx
    · exact (by decide : (1 : Nat) ≤ maxLen)
    · rcases List.mem_cons.1 hx with rfl | hx
      · exact (by decide : (1 : Nat) ≤ maxLen)
      · cases hx
  sets := hs
  fil := ⟨_, _, _, rfl, Nat.zero_le _, SlP.nil _ _, (fun x hx => by cases hx), Nat.zero_le _, fun _ => rfl, fun h => absurd h (by simp [Fil.l, Tess.queAB])⟩
  conds := RowsAt.nil _ _ _ _
  keys := RowsAt.nil _ _ _ _
end
theorem natV_ints (l : List Nat) : natV l = (l.map fun k : Nat => (k : Int)).map (.int .i64) := by unfold natV; rw [List.map_map]; rfl
theorem ints_same (p q : Nat → Prop) (va vb : Value) (l : List Nat) (w : World) (ha : SlP p w va (natV l)) (hb : SlP q w vb (natV l)) : Calls Tryd.prog 46 #[va, vb] w fun e w' => e = .returned (.bool true) ∧ Below w.heap.size w w' := by
  rw [natV_ints] at ha hb
  refine (rInts_any p q va vb _ _ w ha hb).mono ?_
  rintro e w' ⟨rfl, h⟩
  exact ⟨by simp, h⟩

set_option maxRecDepth 100000 in
set_option maxHeartbeats 4000000 in
theorem shown17_any (a0 a1 : Addr) (w : World) (hV : Vars a0 a1 w) : Calls Tryd.prog 23 #[] w fun e w' => e = .returned (.bool true) ∧ Below w.heap.size w w' := by
  have HSETS := Lib.hid (fun (mode : Int) (vS : Value) (sets : List (List ByteArray)) (W : World) (hS : Sh w mode vS W) (hs : SetsAt (Shq w) W vS sets) => sets17_any a0 a1 (Shq w) 1 _ _ Tess.schAB (Tess.queAB mode sets) _ _ _ _ _ _ _ _ _ _ _ W (hV.below hS.below) hS.sch (hS.que hs) (by omega) kindsAB)
  obtain ⟨W0, hW0⟩ : ∃ W0, (((((w.alloc (.cells #[.string ⟨#[97]⟩, .string ⟨#[98]⟩] 9)).alloc (.cells (schC w.heap.size) 24)).alloc (.cells #[.int .i64 1, .string ⟨#[]⟩] 93)).alloc (.cells #[.string ⟨#[97]⟩, .string ⟨#[98]⟩] 9)).alloc (.cells (queC w.heap.size 2 (.slice none 0 0)) 63)) = W0 := ⟨_, rfl⟩
  have h5 := laid5 w (.cells #[.string ⟨#[97]⟩, .string ⟨#[98]⟩] 9) (.cells (schC w.heap.size) 24) (.cells #[.int .i64 1, .string ⟨#[]⟩] 93) (.cells #[.string ⟨#[97]⟩, .string ⟨#[98]⟩] 9) (.cells (queC w.heap.size 2 (.slice none 0 0)) 63)
  rw [hW0] at h5
  obtain ⟨k0, k1, k2, k3, k4, kS, kB⟩ := h5
  have HS0 := Lib.hid (show Sh w 2 (.slice none 0 0) W0 from ⟨k0, k1, k2, k3, k4, kB⟩)
  have HW0 := Lib.hid hW0
  clear k0 k1 k2 k3 k4 kS kB hW0
  go_enter Tryd.func23, Tryd.ntmps23
  go_wp2_with (fail)
  rw [HW0.out]
  go_at_call 25
  refine (HSETS.out 2 (.slice none 0 0) [] W0 HS0.out (SetsAt.nil _ _)).mono ?_
  rintro e W1 ⟨va, rfl, hA, hB1⟩
  rw [Tess.queAB2, if_pos rfl, Tess.setsAB2] at hA
  rw [Tess.queAB2]
  obtain ⟨sa0, sa1, sa2, rfl⟩ := hA.shape
  have HA1 := Lib.hid (hA.weak (q := fun b => w.heap.size + 5 ≤ b) fun b hb => by have : W0.heap.size ≤ b := hb; have := HS0.out.lt; omega)
  have HS1 := Lib.hid (HS0.out.later hB1)
  clear hA hB1 HS0 HW0
  have HS2 := Lib.hid (HS1.out.set 2 (.int .i64 3) 3 (.slice none 0 0) rfl)
  have HA2 := Lib.hid (HA1.out.ag (Ag.set _ W1 (a := ⟨w.heap.size + 1 + 1 + 1 + 1, 2, none⟩) (.int .i64 3) (by show ¬ (w.heap.size + 5 ≤ w.heap.size + 1 + 1 + 1 + 1); omega)))
  obtain ⟨x0, x1, x2⟩ := (can3 HS1.out.kS).1
  obtain ⟨⟨y0, y1, y2, y3, y4, y5, y6, y7, y8, y9, ya, yb, yc, yd⟩, zf⟩ := can14 HS1.out.kQ
  have z2 := zf 2 (by omega)
  clear zf
  go_wp2_with (fail)
  go_at_call 25
  refine (HSETS.out 3 (.slice none 0 0) [] _ HS2.out (SetsAt.nil _ _)).mono ?_
  rintro e W3 ⟨vb, rfl, hB, hB3⟩
  rw [Tess.queAB3, if_pos rfl, Tess.setsAB3] at hB
  rw [Tess.queAB3]
  obtain ⟨sb0, sb1, sb2, rfl⟩ := hB.shape
  have HB3 := Lib.hid (hB.weak (q := fun b => w.heap.size + 5 ≤ b) fun b hb => by have h1 : (W1.setCell ⟨w.heap.size + 1 + 1 + 1 + 1, 2, none⟩ (.int .i64 3)).heap.size ≤ b := hb; have := HS2.out.lt; omega)
  have HA3 := Lib.hid (HA2.out.ag (Ag.new _ hB3))
  have HS3 := Lib.hid (HS2.out.later hB3)
  clear hB hB3 HS2 HA2 HS1 HA1 x0 x1 x2 y0 y1 y2 y3 y4 y5 y6 y7 y8 y9 ya yb yc yd z2
  have HS4 := Lib.hid (HS3.out.set 2 (.int .i64 4) 4 (.slice none 0 0) rfl)
  have hag4 : ∀ q : Nat → Prop, ¬ q (w.heap.size + 1 + 1 + 1 + 1) → ∀ i u W, Ag q W (W.setCell ⟨w.heap.size + 1 + 1 + 1 + 1, i, none⟩ u) := fun q hq i u W => Ag.set q W u hq
  obtain ⟨W5, hW5⟩ : ∃ W5, ((W3.setCell ⟨w.heap.size + 1 + 1 + 1 + 1, 2, none⟩ (.int .i64 4)).alloc (.cells #[.string ⟨#[98]⟩] 9)).alloc (.cells #[.slice (some ⟨W3.heap.size, 0, none⟩) 1 1, .slice none 0 0] 22) = W5 := ⟨_, rfl⟩
  obtain ⟨kB, kL, hS5, hB5⟩ := laid2 (W3.setCell ⟨w.heap.size + 1 + 1 + 1 + 1, 2, none⟩ (.int .i64 4)) (.cells #[.string ⟨#[98]⟩] 9) (.cells #[.slice (some ⟨W3.heap.size, 0, none⟩) 1 1, .slice none 0 0] 22)
  rw [hW5] at kB kL hS5 hB5
  have hsz : (W3.setCell ⟨w.heap.size + 1 + 1 + 1 + 1, 2, none⟩ (.int .i64 4)).heap.size = W3.heap.size := by simp [World.setCell]
  rw [hsz] at kB kL hS5
  have HS5 := Lib.hid (HS4.out.later hB5)
  have hlt3 := HS3.out.lt
  obtain ⟨W6, hW6⟩ : ∃ W6, W5.setCell ⟨w.heap.size + 1 + 1 + 1 + 1, 3, none⟩ (.slice (some ⟨W3.heap.size + 1, 0, none⟩) 2 2) = W6 := ⟨_, rfl⟩
  have HS6 := HS5.out.set 3 (.slice (some ⟨W3.heap.size + 1, 0, none⟩) 2 2) 4 (.slice (some ⟨W3.heap.size + 1, 0, none⟩) 2 2) rfl
  have hq6 := hag4 (fun b => w.heap.size + 5 ≤ b) (by omega) 3 (.slice (some ⟨W3.heap.size + 1, 0, none⟩) 2 2) W5
  rw [hW6] at HS6 hq6
  have kB6 := (hq6.2 W3.heap.size (by omega) (by omega)).trans kB
  have kL6 := (hq6.2 (W3.heap.size + 1) (by omega) (by omega)).trans kL
  have HSE : RowKit.Hid (SetsAt (Shq w) W6 (.slice (some ⟨W3.heap.size + 1, 0, none⟩) 2 2) [[⟨#[98]⟩], []]) := Lib.hid ⟨_, _, rfl, (by decide : (2 : Nat) ≤ maxLen), Nat.le_refl _, (fun e => by cases e), fun _ => ⟨W3.heap.size + 1, 0, rfl, (Array.getElem?_eq_some_iff.1 kL6).1, ⟨by omega, by omega⟩, fun j hj => by
    have : j = 0 ∨ j = 1 := by have : j < 2 := hj; omega
    rcases this with rfl | rfl
    · exact ⟨_, cell_of_row _ _ 0 _ _ _ kL6, row_at' [.string ⟨#[98]⟩] kB6 (by decide) ⟨by omega, by omega⟩, fun x (hx : x ∈ [(⟨#[98]⟩ : ByteArray)]) => by
        rcases List.mem_cons.1 hx with rfl | hx
        · exact (by decide : (1 : Nat) ≤ maxLen)
        · cases hx⟩
    · exact ⟨_, cell_of_row _ _ 1 _ _ _ kL6, SlP.nil _ _, fun x (hx : x ∈ ([] : List ByteArray)) => by cases hx⟩⟩⟩
  have hagA : Ag (fun b => w.heap.size + 5 ≤ b) W3 W6 := ((hag4 _ (by omega) 2 (.int .i64 4) W3).trans (Ag.new _ hB5)).trans hq6
  have HA6 := Lib.hid (HA3.out.ag hagA)
  have HB6 := Lib.hid (HB3.out.ag hagA)
  have HS6 := Lib.hid HS6
  have y2 := (can14 HS3.out.kQ).1.2.2.1
  have z2 := (can14 HS3.out.kQ).2 2 (by omega)
  have u3 := (can14 HS5.out.kQ).1.2.2.2.1
  have z3 := (can14 HS5.out.kQ).2 3 (by omega)
  obtain ⟨x0, x1, x2⟩ := (can3 HS6.out.kS).1
  obtain ⟨v0, v1, v2, v3, v4, v5, v6, v7, v8, v9, va', vb', vc', vd'⟩ := (can14 HS6.out.kQ).1
  clear hag4 kB kL hS5 hB5 hsz hq6 kB6 kL6 hagA HS4 HS5 HA3 HB3
  go_wp2_with (fail)
  go_at_call 25
  refine (HSETS.out 4 _ _ _ HS6.out HSE.out).mono ?_
  rintro e W7 ⟨vc, rfl, hC, hB7⟩
  rw [Tess.queAB4, if_pos rfl, Tess.setsAB4] at hC
  rw [Tess.queAB4]
  obtain ⟨sc0, sc1, sc2, rfl⟩ := hC.shape
  have HC7 := Lib.hid hC
  have HA7 := Lib.hid (HA6.out.ag (Ag.new _ hB7))
  have HB7 := Lib.hid (HB6.out.ag (Ag.new _ hB7))
  have HBL := Lib.hid (Bt HS6.out.below hB7)
  clear hC hB7 HA6 HB6 HS6 HSE hW5 hW6 HS3 x0 x1 x2 v0 v1 v2 v3 v4 v5 v6 v7 v8 v9 va' vb' vc' vd' y2 z2 u3 z3 hlt3
  go_wp2_with (fail)
  go_at_call 46
  have hb8 : Below W7.heap.size W7 (W7.alloc (.cells #[.int .i64 0, .int .i64 1, .int .i64 2, .int .i64 3] 3)) := (Below.refl _ _).alloc (Nat.le_refl _) _
  refine (ints_same _ (fun _ => True) _ _ [0, 1, 2, 3] _ (HA7.out.ag (Ag.new _ hb8)) (row_at' [.int .i64 0, .int .i64 1, .int .i64 2, .int .i64 3] (heap_alloc_new W7 _) (by decide) trivial)).mono ?_
  rintro e W8 ⟨rfl, hx⟩
  have HB8 := Lib.hid (Bt hb8 hx)
  clear hb8 hx
  go_wp2_with (fail)
  go_at_call 46
  have hb9 : Below W7.heap.size W7 (W8.alloc (.cells #[.int .i64 0, .int .i64 2, .int .i64 3] 3)) := HB8.out.alloc HB8.out.size _
  refine (ints_same _ (fun _ => True) _ _ [0, 2, 3] _ (HB7.out.ag (Ag.new _ hb9)) (row_at' [.int .i64 0, .int .i64 2, .int .i64 3] (heap_alloc_new W8 _) (by decide) trivial)).mono ?_
  rintro e W9 ⟨rfl, hx⟩
  have HB9 := Lib.hid (Bt hb9 hx)
  clear hb9 hx
  go_wp2_with (fail)
  go_at_call 46
  have hb10 : Below W7.heap.size W7 (W9.alloc (.cells #[.int .i64 1, .int .i64 3] 3)) := HB9.out.alloc HB9.out.size _
  refine (ints_same _ (fun _ => True) _ _ [1, 3] _ (HC7.out.ag (Ag.new _ hb10)) (row_at' [.int .i64 1, .int .i64 3] (heap_alloc_new W9 _) (by decide) trivial)).mono ?_
  rintro e W10 ⟨rfl, hx⟩
  have HB10 := Lib.hid (Bt hb10 hx)
  clear hb10 hx
  go_wp2
  go_ret
  exact ⟨rfl, Bt HBL.out HB10.out⟩
end Go.Proofs.YtdfnolgcdododaaDoor
