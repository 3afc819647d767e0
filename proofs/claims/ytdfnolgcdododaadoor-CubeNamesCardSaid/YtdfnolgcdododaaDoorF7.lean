/- Which schemas are right, where names stand. -/
import Derived.Test.YtdfnolgcdododaaDoorF6
namespace Go.Proofs.YtdfnolgcdododaaDoor
open Go.RowKit Go.Sort

set_option maxRecDepth 100000 in
set_option maxHeartbeats 2000000 in
theorem concat_any (b : Nat) (vd vm : Value) (ds ms : List ByteArray) (w : World) (hd : SlOf w vd (ds.map .string)) (hm : SlOf w vm (ms.map .string)) (hnil : NilOk vm) (h1 : 1 ≤ ds.length) (h2 : ds.length ≤ 6) (h3 : ms.length ≤ 4)
    (c0 : w.cell? ⟨b, 0, none⟩ = some vd) (c1 : w.cell? ⟨b, 1, none⟩ = some vm) :
    Calls Tryd.prog 52 #[.slice (some ⟨b, 0, none⟩) 2 2] w fun e w' => ∃ v', e = .returned v' ∧ SlOf w' v' ((ds ++ ms).map .string) ∧ Below w.heap.size w w' := by
  obtain ⟨_, ad, capd, rfl, hcd⟩ := hd
  obtain ⟨_, am, capm, rfl, hcm⟩ := hm
  simp only [List.length_map] at hcd hcm c0 c1
  obtain ⟨db, doff, rfl, hdb, hdc⟩ := hcd (by omega)
  have HDC := Lib.hid hdc
  have HCM := Lib.hid hcm
  clear hcd hdc hcm
  obtain ⟨nd, hnd⟩ : ∃ nd, ds.length = nd := ⟨_, rfl⟩
  obtain ⟨nm, hnm⟩ : ∃ nm, ms.length = nm := ⟨_, rfl⟩
  rw [hnd] at h1 h2 c0
  rw [hnm] at h3 c1
  have HND := Lib.hid hnd
  have HNM := Lib.hid hnm
  clear hnd hnm
  have e1 : ((nd : Int) + (nm : Int)) = ((nd + nm : Nat) : Int) := by omega
  have hb0 := World.block_lt_of_cell? w _ c0
  simp only at hb0
  obtain ⟨i0, hi, hz0, hz1, hz2⟩ := info_parts infoStr
  have HG := Lib.hid (grow_any (nd + nm) w (by omega) (by omega))
  have HE1 := Lib.hid e1
  clear e1
  go_enter Tryd.func52, Tryd.ntmps52
  go_wp2_with fail
  refine wp_loop_rounds 3 ?_
  rw [rounds_succ]
  go_wp2_with fail
  rw [rounds_succ]
  go_wp2_with fail
  rw [rounds_succ]
  go_wp2_with (go_at_call 82; rw [HE1.out]; refine HG.out.mono ?_; rintro e w1 ⟨G, rfl, hown, hB1, hs1⟩; have HO := Lib.hid hown; have HB1 := Lib.hid hB1; have HS1 := Lib.hid hs1; clear hown hB1 hs1)
  have c0a := (HB1.out.cell (p := ⟨b, 0, none⟩) hb0).trans c0
  have c1a := (HB1.out.cell (p := ⟨b, 1, none⟩) hb0).trans c1
  refine wp_loop_rounds 3 ?_
  rw [rounds_succ]
  go_wp2_with (at_builtin; refine wpList_append_own _ rfl _ _ 22 rfl w.heap.size 9 i0 (.string ByteArray.empty) 1 16 Tryd.underlying22 hi hz0 hz1 hz2 rfl (by decide) _ 0 [] rfl HO.out ⟨db, doff, none⟩ nd capd (ds.map .string) rfl ?_ ?_ ?_ ?_ ?_ ?_ ?_)
  · rw [List.length_map, HND.out, Nat.mul_one]
  · intro j u hj
    rw [List.getElem?_map] at hj
    obtain ⟨x, hx, rfl⟩ := Option.map_eq_some_iff.1 hj
    obtain ⟨hj', rfl⟩ := List.getElem?_eq_some_iff.1 hx
    have := HDC.out j hj'
    rw [show (⟨db, doff, none⟩ : Addr).add j = ⟨db, doff + j, none⟩ by unfold Addr.add; split <;> simp_all]
    rw [HB1.out.cell (p := ⟨db, doff + j, none⟩) hdb]
    simpa using this
  · intro u hu; obtain ⟨x, _, rfl⟩ := List.mem_map.1 hu; rfl
  · unfold maxLen; omega
  · omega
  · exact HB1.out.size
  intro v2 w2 hown2 hg2 _
  obtain ⟨g2, cp2, rfl, _⟩ := owns_cell hown2 (by omega)
  have HO2 := Lib.hid hown2
  have hB2 := HB1.out.grown hg2 HB1.out.size (fun j e => (HO.out.lt j e).1)
  have HB2 := Lib.hid hB2
  have c1b := (hB2.cell (p := ⟨b, 1, none⟩) hb0).trans c1
  clear hown2 hg2 hB2 c0a c1a
  go_wp2
  rw [rounds_succ]
  have hsz2 := HB2.out.size
  cases am with
  | none =>
    have hc0 : capm = 0 := hnil _ _ rfl
    subst hc0
    have h0 : nm = 0 := by
      rcases Nat.eq_zero_or_pos nm with h | h
      · exact h
      · obtain ⟨_, _, e, _⟩ := HCM.out (by rw [HNM.out]; exact h)
        cases e
    subst h0
    have he : ms = [] := List.eq_nil_of_length_eq_zero HNM.out
    go_wp2_with (at_builtin; refine wpList_append_own_none rfl _ _ 22 rfl w.heap.size 9 i0 1 Tryd.underlying22 hi _ _ _ rfl HO2.out rfl ?_)
    rw [rounds_succ]
    go_wp2
    go_ret
    refine ⟨_, rfl, ?_, HB2.out⟩
    rw [he, List.append_nil]
    simpa using SlOf.owned HO2.out
  | some ma =>
    obtain ⟨mb, moff, msp⟩ := ma
    have hcm : ∀ j u, (ms.map Value.string)[j]? = some u → w2.cell? ((⟨mb, moff, msp⟩ : Addr).add j) = some u := by
      intro j u hj
      obtain ⟨hj', rfl⟩ := List.getElem?_eq_some_iff.1 hj
      have hjm : j < ms.length := by simpa using hj'
      obtain ⟨b', off', e, hb', hcell⟩ := HCM.out (by omega)
      cases e
      rw [show (⟨mb, moff, none⟩ : Addr).add j = ⟨mb, moff + j, none⟩ by unfold Addr.add; split <;> simp_all]
      rw [HB2.out.cell (p := ⟨mb, moff + j, none⟩) hb']
      exact hcell j hjm
    have HX := Lib.hid hcm
    clear hcm
    go_wp2_with (at_builtin; refine wpList_append_own _ rfl _ _ 22 rfl w.heap.size 9 i0 (.string ByteArray.empty) 1 16 Tryd.underlying22 hi hz0 hz1 hz2 rfl (by decide) _ _ _ rfl HO2.out ⟨mb, moff, msp⟩ nm capm (ms.map .string) rfl ?_ HX.out ?_ ?_ ?_ ?_ ?_)
    · rw [List.length_map, HNM.out, Nat.mul_one]
    · intro u hu; obtain ⟨x, _, rfl⟩ := List.mem_map.1 hu; rfl
    · unfold maxLen; omega
    · omega
    · exact HB2.out.size
    intro v3 w3 hown3 hg3 _
    have HO3 := Lib.hid hown3
    have HB3 := Lib.hid (HB2.out.grown hg3 HB2.out.size (fun j e => (HO2.out.lt j e).1))
    clear hown3 hg3
    go_wp2
    rw [rounds_succ]
    go_wp2
    go_ret
    refine ⟨_, rfl, ?_, HB3.out⟩
    rw [List.map_append]
    simpa using SlOf.owned HO3.out

theorem swithin_any (n a b : Nat) (w : World) : Calls Tryd.prog 50 #[.int .i64 n, .int .i64 a, .int .i64 b] w fun e w' => e = .returned (.bool (Tess.Fil.inW n (a, b))) ∧ w = w' := by
  unfold Tess.Fil.inW
  by_cases h1 : a ≤ n
  · have h1i : (a : Int) ≤ (n : Int) := by omega
    have h1d : decide ((a : Int) ≤ (n : Int)) = true := decide_eq_true h1i
    obtain ⟨r, hr⟩ : ∃ r, decide (n ≤ b) = r := ⟨_, rfl⟩
    have hri : decide ((n : Int) ≤ (b : Int)) = r := by rw [← hr]; exact decide_eq_decide.2 (by omega)
    rw [decide_eq_true h1, hr]
    go_enter Tryd.func50, Tryd.ntmps50
    go_wp2
    go_ret
    exact ⟨rfl, rfl⟩
  · have h1d : decide ((a : Int) ≤ (n : Int)) = false := decide_eq_false (by omega)
    rw [decide_eq_false h1, Bool.false_and]
    go_enter Tryd.func50, Tryd.ntmps50
    go_wp2
    go_ret
    exact ⟨rfl, rfl⟩

theorem slp_len {p : Nat → Prop} {w : World} {v : Value} {l : List ByteArray} (h : SlP p w v (l.map .string)) : ∃ a cap, v = .slice a l.length cap ∧ l.length ≤ 9223372036854775807 := by
  obtain ⟨a, cap, hv, hl, _⟩ := sls_open h.1
  exact ⟨a, cap, hv, hl⟩

end Go.Proofs.YtdfnolgcdododaaDoor
