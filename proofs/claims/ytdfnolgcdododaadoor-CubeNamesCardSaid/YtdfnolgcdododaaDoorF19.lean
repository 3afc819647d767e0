/- A walk through a filter and its lists, whatever is done with each: the program's. -/
import Derived.Test.YtdfnolgcdododaaDoorF18
import Derived.Test.YtdfnolgcdododaaDoorRf
import Derived.RegionIn
import Derived.Stop.RegionWithIn
import Derived.OwnWalkIn
import Derived.TacticsInMore
import Derived.LoopNIn
import Derived.LoopIn
import Derived.Shelf.Abstract
import Derived.Shelf.RegionOpen
namespace Tess
namespace Fil
/-- How far a walk goes: how many filters, whether a span did not fit; none: it stopped. -/
def run (s : Sch) : List (Nat × Fil) → Nat → Bool → Option (Nat × Bool)
  | [], k, g => some (k, g)
  | (d, x) :: r, k, g => if k + 1 > 40 || d > 6 || !own s x then none else run s r (k + 1) (g || badGrain s x)
theorem run_append (s : Sch) (a b : List (Nat × Fil)) : ∀ k g, run s (a ++ b) k g = (run s a k g).bind fun x => run s b x.1 x.2 := by
  induction a with
  | nil => intro k g; rfl
  | cons x a ih =>
    intro k g
    obtain ⟨d, x⟩ := x
    simp only [List.cons_append, run]
    split
    · rfl
    · exact ih _ _
theorem chk_run (s : Sch) (l : List (Nat × Fil)) : ∀ k g, chk s k g l = match run s l k g with | none => 140 | some (_, g') => if g' then 110 else 0 := by
  induction l with
  | nil => intro k g; rfl
  | cons x l ih =>
    intro k g
    obtain ⟨d, x⟩ := x
    simp only [chk, run]
    split
    · rfl
    · exact ih _ _
theorem preL_take_succ (d : Nat) (q : List Fil) (k : Nat) (h : k < q.length) : preL d (q.take (k + 1)) = preL d (q.take k) ++ pre d q[k] := by
  rw [List.take_succ_eq_append_getElem h, preL_append]; simp [preL]
end Fil
end Tess
namespace Go.Proofs.YtdfnolgcdododaaDoor
open Go.RowKit Go.Sort Go.Shelf
open Tess (Fil)
attribute [local go_sem] Oper.semAt_some

theorem roundIn_any {n m : Nat} {P : Program} {l : Nat} {f : FuncId} {tmps : Array Value} {assign body : Code} {w : World} {R : Ending → World → Prop} (h : RoundIn Fence.wide n P l f tmps assign body w R) : RoundIn Fence.wide m P l f tmps assign body w R :=
  ⟨h.1, fun c cs _ => h.2 c cs (room_wide _)⟩

theorem FilAt.shape6 {p : Nat → Prop} {n : Nat} {w : World} {v : Value} {f : Fil} (h : FilAt p n w v f) : ∃ wa wn wc a cap, v = .agg #[.int .i64 f.kind, .string f.name, .slice wa wn wc, .int .i64 f.frm, .int .i64 f.to, .slice a f.l.length cap] := by
  cases n with
  | zero => exact h.elim
  | succ n =>
    obtain ⟨vw, a, cap, hv, _, hs, _⟩ := h
    obtain ⟨x, y, z, rfl⟩ := hs.shape
    exact ⟨x, y, z, a, cap, hv⟩
/-- What is said of a round, and of a walk. -/
def WalkPost (Inv : Nat → Bool → World → Prop) (Stop : World → Prop) (q : Nat → Prop) (r : Option (Nat × Bool)) (W : World) (e : Ending) (W' : World) : Prop :=
  Ag q W W' ∧ match r with
    | some (k, g) => e = .returned (.bool true) ∧ Inv k g W'
    | none => e = .returned (.bool false) ∧ Stop W'

set_option maxRecDepth 100000 in
set_option maxHeartbeats 4000000 in
theorem walk_any (s : Tess.Sch) (l : Nat) (fn0 : FuncId) (T : Nat → Value → Array Value) (A B : Code) (Inv : Nat → Bool → World → Prop) (Stop : World → Prop) (p q : Nat → Prop) (N : Nat) (K : Fil → Prop) (hK : ∀ f, K f → ∀ x ∈ f.l, K x)
    (hpq : ∀ b, p b → q b) (hNq : ∀ b, N ≤ b → q b) (hIN : ∀ k g W, Inv k g W → N ≤ W.heap.size) (hIB : ∀ k g W W', Inv k g W → Below W.heap.size W W' → Inv k g W')
    (hy : ∀ k g W, Inv k g W → ∀ (d : Nat) v, (Instr.yield l #[.int .i64 (d : Nat), v]).run Tryd.prog W = .ok (.round l fn0 (T d v) A B) W)
    (hr : ∀ k g W, Inv k g W → ∀ (d m : Nat) v x, d ≤ 1000 → FilAt p m W v x → K x → RoundIn Fence.wide 5 Tryd.prog l fn0 (T d v) A B W (WalkPost Inv Stop q (Fil.run s [(d, x)] k g) W))
    (n : Nat) : ∀ (v : Value) (f : Fil) (d k : Nat) (g : Bool) (W : World), FilAt p n W v f → K f → Inv k g W → d + n ≤ 1000 →
    Calls Tryd.prog 86 #[v, .int .i64 (d : Nat), .func (.yield l) #[] #[]] W (WalkPost Inv Stop q (Fil.run s (Fil.pre d f) k g) W) := by
  induction n with
  | zero => intro v f d k g W h; exact h.elim
  | succ n ih =>
    intro v f d k g W hf hKf hI hd
    have HF := Lib.hid hf
    have HI := Lib.hid hI
    obtain ⟨vw, a, cap, rfl, _, hvw, _, hl, _, hc⟩ := hf
    obtain ⟨wa, wn, wc, rfl⟩ := hvw.shape
    have HC := Lib.hid hc
    have hlm : f.l.length ≤ 9223372036854775807 := by unfold maxLen at hl; omega
    have HIH := Lib.hid ih
    have HPQ := Lib.hid hpq
    have HNQ := Lib.hid hNq
    have HIN := Lib.hid hIN
    have HIB := Lib.hid hIB
    have HY := Lib.hid hy
    have HR := Lib.hid hr
    have HKF := Lib.hid hKf
    have HK := Lib.hid hK
    clear hvw hc hl hI ih hpq hNq hIN hIB hy hr hKf hK
    refine (callsIn_wide (n := 5)).1 ?_
    refine callsIn_of_wp Tryd.func86 rfl trivial ?_ rfl
    simp only [Tryd.ntmps86, List.size_toArray, List.length_cons, List.length_nil, Nat.reduceAdd, Nat.reduceSub, Array.replicate_succ, Array.replicate_zero, List.push_toArray, List.append_toArray, List.nil_append, List.cons_append]
    obtain ⟨W0, hW0⟩ : ∃ W0, W.alloc (.cells #[.int .i64 f.kind, .string f.name, .slice wa wn wc, .int .i64 f.frm, .int .i64 f.to, .slice a f.l.length cap] 29) = W0 := ⟨_, rfl⟩
    have hB0 : Below W.heap.size W W0 := by rw [← hW0]; exact (Below.refl _ _).alloc (Nat.le_refl _) _
    have hbox : W0.heap[W.heap.size]? = some (.cells #[.int .i64 f.kind, .string f.name, .slice wa wn wc, .int .i64 f.frm, .int .i64 f.to, .slice a f.l.length cap] 29 (0, 0)) := by rw [← hW0]; exact heap_alloc_new _ _
    have hI0 := HIB.out k g W W0 HI.out hB0
    have hyl := HY.out k g W0 hI0 d (.agg #[.int .i64 f.kind, .string f.name, .slice wa wn wc, .int .i64 f.frm, .int .i64 f.to, .slice a f.l.length cap])
    have HI0 := Lib.hid hI0
    have HB0 := Lib.hid hB0
    have HBOX := Lib.hid hbox
    have HW0 := Lib.hid hW0
    clear hI0 hB0 hbox hW0
    rw [← HW0.out] at hyl
    gi_wp2
    rw [HW0.out]
    refine roundIn_any ((HR.out k g W0 HI0.out d (n + 1) _ f (by omega) (HF.out.ag (Ag.new p HB0.out)) HKF.out).mono ?_)
    clear hyl
    have hNW : N ≤ W.heap.size := HIN.out k g W HI.out
    have HPRE : RowKit.Hid (Fil.run s (Fil.pre d f) k g = (Fil.run s [(d, f)] k g).bind fun x => Fil.run s (Fil.preL (d + 1) f.l) x.1 x.2) := Lib.hid (by rw [Fil.pre_eq, ← Fil.run_append]; rfl)
    cases hres : Fil.run s [(d, f)] k g with
    | none =>
      rw [hres] at HPRE
      rintro e w1 ⟨hag, rfl, hstop⟩
      have HP := Lib.hid (show WalkPost Inv Stop q (Fil.run s (Fil.pre d f) k g) W (.returned (.bool false)) w1 from by
        rw [HPRE.out]; exact ⟨(Ag.new q HB0.out).trans hag, rfl, hstop⟩)
      clear hag hstop
      gi_wp2
      go_ret
      exact HP.out
    | some x =>
      obtain ⟨k1, g1⟩ := x
      rw [hres] at HPRE
      have HPR2 : RowKit.Hid (Fil.run s (Fil.pre d f) k g = Fil.run s (Fil.preL (d + 1) f.l) k1 g1) := Lib.hid HPRE.out
      rintro e w1 ⟨hag, rfl, hinv⟩
      have HAG := Lib.hid hag
      have HINV := Lib.hid hinv
      have hsW : W.heap.size < W0.heap.size := (Array.getElem?_eq_some_iff.1 HBOX.out).1
      have hbx1 := (hag.2 _ hsW (HNQ.out _ hNW)).trans HBOX.out
      have c5 := cell_of_row w1 W.heap.size 5 _ _ _ hbx1
      simp only [List.getElem?_toArray, List.getElem?_cons_succ, List.getElem?_cons_zero] at c5
      clear hag hinv hbx1 HPRE
      gi_wp2
      gi_loopw [17] (fun i wr => ∃ (j k2 : Nat) (g2 : Bool), j ≤ f.l.length ∧ i = .int .i64 j ∧ Fil.run s (Fil.preL (d + 1) (f.l.take j)) k1 g1 = some (k2, g2) ∧ Inv k2 g2 wr ∧ Ag q W0 wr) (fun i _ => f.l.length - (intOf i).toNat)
      case atStart => exact ⟨0, k1, g1, Nat.zero_le _, rfl, rfl, HINV.out, HAG.out⟩
      case round =>
        clear c5 HAG HINV
        obtain ⟨j, k2, g2, hj, rfl, hrun, hinv, hag⟩ := hrel
        have HRUN := Lib.hid hrun
        have HINV := Lib.hid hinv
        have HAG := Lib.hid hag
        clear hrun hinv hag
        by_cases hlt : j < f.l.length
        · obtain ⟨b, off, rfl, hb, hp, hel⟩ := HC.out (by omega)
          obtain ⟨e0, e1, e2, e3, e4, e5, hfe, q0, q1, q2, q3, q4, q5⟩ := hel j hlt
          have hqb : q b := HPQ.out b hp
          have hb0 : b < W0.heap.size := Nat.lt_of_lt_of_le hb HB0.out.size
          have hcl : ∀ o, wr.cell? ⟨b, o, none⟩ = W.cell? ⟨b, o, none⟩ := fun o => (HAG.out.cell hb0 hqb).trans (HB0.out.cell (p := ⟨b, o, none⟩) hb)
          have r0 := (hcl _).trans q0
          have r1 := (hcl _).trans q1
          have r2 := (hcl _).trans q2
          have r3 := (hcl _).trans q3
          have r4 := (hcl _).trans q4
          have r5 := (hcl _).trans q5
          have hji : (j : Int) < (f.l.length : Int) := by omega
          have hsh := hfe.shape6
          have HFE := Lib.hid (fun (W2 : World) (hg : Ag q W0 W2) => FilAt.ag hfe (((Ag.new p HB0.out)).trans (hg.weak HPQ.out)))
          clear hel q0 q1 q2 q3 q4 q5 hfe hcl
          obtain ⟨ya, yn, yc, za, zc, heq⟩ := hsh
          simp only [Value.agg.injEq, Array.mk.injEq, List.cons.injEq, and_true] at heq
          obtain ⟨rfl, rfl, rfl, rfl, rfl, rfl⟩ := heq
          obtain ⟨x, hx⟩ : ∃ x, x = f.l[j] := ⟨_, rfl⟩
          rw [← hx] at HFE r0 r1 r3 r4 r5
          have HSUC := Lib.hid (Fil.preL_take_succ (d + 1) f.l j hlt)
          rw [← hx] at HSUC
          have HKX := Lib.hid (show K x from by rw [hx]; exact HK.out f HKF.out _ (List.getElem_mem hlt))
          have HCALL := Lib.hid (fun (W2 : World) (hb2 : Below wr.heap.size wr W2) => (show ((d + 1 : Nat) : Int) = (d : Int) + 1 by omega) ▸ HIH.out _ x (d + 1) k2 g2 W2 (HFE.out W2 (HAG.out.trans (Ag.new q hb2))) HKX.out (HIB.out k2 g2 wr W2 HINV.out hb2) (by omega))
          have HX := Lib.hid hx
          clear hx
          gi_wp2
          refine ⟨trivial, (callsIn_wide.2 (HCALL.out _ ((Below.refl _ _).alloc (Nat.le_refl _) _))).mono ?_⟩
          have HRS : RowKit.Hid (Fil.run s (Fil.preL (d + 1) (f.l.take (j + 1))) k1 g1 = Fil.run s (Fil.pre (d + 1) x) k2 g2) := Lib.hid (by rw [HSUC.out, Fil.run_append, HRUN.out]; rfl)
          cases hres2 : Fil.run s (Fil.pre (d + 1) x) k2 g2 with
          | none =>
            rw [hres2] at HRS
            rintro e w3 ⟨hag3, rfl, hstop⟩
            have HP := Lib.hid (show WalkPost Inv Stop q (Fil.run s (Fil.pre d f) k g) W (.returned (.bool false)) w3 from by
              rw [HPR2.out, show f.l = f.l.take (j + 1) ++ f.l.drop (j + 1) from (List.take_append_drop _ _).symm, Fil.preL_append, Fil.run_append, HRS.out]
              exact ⟨((Ag.new q HB0.out).trans HAG.out).trans ((Ag.new q ((Below.refl _ _).alloc (Nat.le_refl _) _)).trans hag3), rfl, hstop⟩)
            clear hag3 hstop
            gi_wp2
            go_ret
            exact HP.out
          | some y =>
            obtain ⟨k3, g3⟩ := y
            rw [hres2] at HRS
            rintro e w3 ⟨hag3, rfl, hinv3⟩
            have HAG3 := Lib.hid (HAG.out.trans ((Ag.new q ((Below.refl _ _).alloc (Nat.le_refl _) _)).trans hag3))
            have HINV3 := Lib.hid hinv3
            clear hag3 hinv3
            gi_wp2
            go_roundw
            case rel => exact ⟨j + 1, k3, g3, by omega, by go_num, HRS.out, HINV3.out, HAG3.out⟩
            case measure => simp [intOf]; omega
        · have hji : ¬ (j : Int) < (f.l.length : Int) := by omega
          have HE := Lib.hid (show f.l.take j = f.l from List.take_of_length_le (by omega))
          have HP := Lib.hid (show WalkPost Inv Stop q (Fil.run s (Fil.pre d f) k g) W (.returned (.bool true)) wr from by
            rw [HPR2.out, ← HE.out, HRUN.out]; exact ⟨(Ag.new q HB0.out).trans HAG.out, rfl, HINV.out⟩)
          gi_wp2
          go_ret
          exact HP.out
end Go.Proofs.YtdfnolgcdododaaDoor
