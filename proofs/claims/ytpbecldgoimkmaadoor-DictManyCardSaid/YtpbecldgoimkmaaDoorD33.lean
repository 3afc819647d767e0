/- The document's Build. -/
import Derived.Test.YtpbecldgoimkmaaDoorD32
namespace Go.Proofs.YtpbecldgoimkmaaDoor
open Go.RowKit Go.Sort Go.Shelf

def BuildPost (l : List ByteArray) (w : World) (e : Ending) (w' : World) : Prop := ∃ v, e = .returned (.tuple #[v, .int .i64 ((Tess.buildW l).2 : Nat)]) ∧ SlOf w' v ((Tess.buildW l).1.map .string) ∧ Below w.heap.size w w'

theorem addr_add (g m j : Nat) : (⟨g, m, none⟩ : Addr).add j = ⟨g, m + j, none⟩ := by
  unfold Addr.add
  first | rfl | (split <;> simp_all)
theorem growth_below {w w' : World} (h : w.grownBy w' none) : Below w.heap.size w w' := (Below.refl _ _).grown h (Nat.le_refl _) (fun k e => by cases e)

set_option maxRecDepth 100000 in
set_option maxHeartbeats 4000000 in
theorem rbuild_any (v : Value) (l : List ByteArray) (w : World) (hv : SlOf w v (l.map .string)) (hl : ∀ y ∈ l, y.size ≤ maxLen) (hll : l.length ≤ 10000) : Calls Tryd.prog 18 #[v] w (BuildPost l w) := by
  obtain ⟨i0, hi, hz0, hz1, hz2⟩ := info_parts infoStr
  obtain ⟨a, cap, rfl, hlen, hc⟩ := sls_open hv
  have HC := Lib.hid hc
  have HL := Lib.hid hl
  clear hc hv hl
  unfold BuildPost
  go_enter Tryd.func18, Tryd.ntmps18
  go_wp2
  go_loopw [4, 5] (fun s4 i wr => ∃ k : Nat, k ≤ l.length ∧ i = .int .i64 k ∧ (∀ j (hj : j < l.length), j < k → l[j].size ≤ 100) ∧ wr.ownsRow w.heap.size 9 1 s4 (Tess.builtTo l k).length ((Tess.builtTo l k).map .string) ∧ (Tess.builtTo l k = [] → s4 = .slice none 0 0) ∧ (∀ y ∈ Tess.builtTo l k, y.size ≤ 100) ∧ (Tess.builtTo l k).length ≤ k ∧ Below w.heap.size w wr) (fun _ i _ => l.length - (intOf i).toNat)
  case atStart => exact ⟨0, Nat.zero_le _, rfl, fun j _ h => absurd h (Nat.not_lt_zero _), World.ownsRow_nil _ _ _ _, fun _ => rfl, fun y hy => by simp [Tess.builtTo] at hy, Nat.le_refl _, Below.refl _ _⟩
  case round =>
    obtain ⟨k, hk, rfl, hall, hown, hnil, hsz, hbl, hB⟩ := hrel
    have HA := Lib.hid hall
    have HO := Lib.hid hown
    have HNIL := Lib.hid hnil
    have HSZ := Lib.hid hsz
    have HB := Lib.hid hB
    clear hall hown hnil hsz hB
    by_cases hlt : k < l.length
    · obtain ⟨b, off, rfl, hb, hcell⟩ := HC.out k hlt
      have hck : wr.cell? ⟨b, off + k, none⟩ = some (.string l[k]) := (HB.out.cell (p := ⟨b, off + k, none⟩) hb).trans hcell
      have hbr : b < wr.heap.size := Nat.lt_of_lt_of_le hb HB.out.size
      have hki : (k : Int) < (l.length : Int) := by omega
      have HSUC := Lib.hid (Tess.builtTo_succ l k hlt)
      have HLONG := Lib.hid (Tess.buildW_long l k hlt)
      have HX := Lib.hid (HL.out _ (List.getElem_mem hlt))
      obtain ⟨x, hx⟩ : ∃ x, x = l[k] := ⟨_, rfl⟩
      have hall2 : ∀ (hx100 : x.size ≤ 100) j (hj : j < l.length), j < k + 1 → l[j].size ≤ 100 := fun hx100 j hj hjk => by
        by_cases e : j < k
        · exact HA.out j hj e
        · obtain rfl : j = k := by omega
          rw [← hx]; exact hx100
      have HALL2 := Lib.hid hall2
      rw [← hx] at hck HSUC HLONG HX
      clear hcell hx hall2 HA
      by_cases hx100 : 100 < x.size
      · have HD := Lib.hid (HLONG.out hx100)
        have hxi : (100 : Int) < (x.size : Int) := by omega
        clear HLONG HSUC HALL2
        go_wp2
        go_ret2
        rw [HD.out]
        exact ⟨_, rfl, SlOf.nil _, HB.out⟩
      · have hxi : ¬ (100 : Int) < (x.size : Int) := by omega
        have hpl := place_any _ (Tess.builtTo l k) x wr (SlOf.owned HO.out) (fun y hy => by have := HSZ.out y hy; unfold maxLen; omega)
        have hple := Tess.place_le (Tess.builtTo l k) x
        have HINS := Lib.hid (show Tess.builtTo l (k + 1) = if Tess.place (Tess.builtTo l k) x < (Tess.builtTo l k).length ∧ (Tess.builtTo l k).getD (Tess.place (Tess.builtTo l k) x) Tess.w0 = x then Tess.builtTo l k else (Tess.builtTo l k).take (Tess.place (Tess.builtTo l k) x) ++ [x] ++ (Tess.builtTo l k).drop (Tess.place (Tess.builtTo l k) x) by rw [HSUC.out]; rfl)
        have HNE := Lib.hid (show Tess.builtTo l (k + 1) ≠ [] by rw [HSUC.out]; exact Tess.insW_ne _ _)
        have HMEM := Lib.hid (show ∀ y ∈ Tess.builtTo l (k + 1), y.size ≤ 100 by rw [HSUC.out]; intro y hy; rcases Tess.insW_mem _ _ _ hy with h | h; exact HSZ.out y h; rw [h]; omega)
        have HLEN := Lib.hid (show (Tess.builtTo l (k + 1)).length ≤ k + 1 by rw [HSUC.out]; have := Tess.insW_len (Tess.builtTo l k) x; omega)
        generalize hoe : Tess.builtTo l (k + 1) = o2 at *
        have HOE := Lib.hid hoe
        clear hoe
        generalize Tess.builtTo l k = o at *
        generalize Tess.place o x = n at *
        have HPL := Lib.hid hpl
        clear hpl HLONG HSUC
        by_cases ho : o = []
        · have hs4 := HNIL.out ho
          subst hs4
          subst ho
          have hn0 : n = 0 := by simpa using hple
          subst hn0
          have HXS := Lib.hid (show ([] : List Value) ++ [.string x] = o2.map .string by rw [HINS.out, if_neg (fun h => absurd h.1 (Nat.not_lt_zero _))]; rfl)
          have HXL := Lib.hid (show 1 = o2.length by rw [HINS.out, if_neg (fun h => absurd h.1 (Nat.not_lt_zero _))]; rfl)
          have h0d : decide ((0 : Int) < 0) = false := by decide
          go_wp2_with (go_at_call 40; refine HPL.out.mono ?_; rintro e w2 ⟨rfl, hb2⟩; have HCK := Lib.hid ((hb2.cell (p := ⟨b, off + k, none⟩) hbr).trans hck); have HB2 := Lib.hid (Bt HB.out hb2); have hbw := Nat.lt_of_lt_of_le hbr hb2.size; have HOW2 := Lib.hid (owns_below HO.out hb2); clear hb2)
          go_quiet (fail)
          go_wp2
          have HB3 := Lib.hid (below_drewN HB2.out nq)
          have HCK3 := Lib.hid (show (w2.drewN nq).cell? ⟨b, off + k, none⟩ = some (.string x) from HCK.out)
          have hbw3 : b < (w2.drewN nq).heap.size := hbw
          have HOW3 := Lib.hid (show (w2.drewN nq).ownsRow w.heap.size 9 1 (.slice none 0 0) ([] : List ByteArray).length (([] : List ByteArray).map .string) from HOW2.out)
          clear HB2 HCK hbw HOW2
          generalize w2.drewN nq = w3 at *
          have happ : ∀ W, Below w3.heap.size w3 W → ∀ ty, ∃ v' w', (Builtin.append_ #[22, 22] ty #[.slice none 0 0, .slice none 0 0]).run Tryd.prog W = .ok v' w' ∧ Below W.heap.size W w' ∧ w'.ownsRow w3.heap.size 9 1 v' 0 [] := fun W hW ty =>
            ⟨_, _, run_append_owned_none (P := Tryd.prog) W w3.heap.size 22 ty 9 i0 1 Tryd.underlying22 hi (.slice none 0 0) 0 [] (World.ownsRow_nil _ _ _ _), Below.refl _ _, World.ownsRow_nil _ _ _ _⟩
          have HAPP := Lib.hid happ
          clear happ
          refine Flow.wp_region_flow_tail 10 (Flow.specs [.inl (.slice none 0 0), .inl (.slice none 0 0), .inl (.int .i64 0), .inl (.slice none 0 0), .inr (fun v W => W.ownsRow w3.heap.size 9 1 v 0 []), .inl (.slice (some ⟨b, off, none⟩) l.length cap), .inl (.int .i64 k), .inl (.pointer (some ⟨b, off + k, none⟩)), .inl (.string x), .inr (newOne (.string x))]) (by kernel_rfl) (by kernel_rfl) ?_ ?_
          · apply Flow.specs_mono; intro s hs; simp only [List.mem_cons, List.not_mem_nil, or_false] at hs
            rcases hs with rfl | rfl | rfl | rfl | rfl | rfl | rfl | rfl | rfl | rfl
            all_goals first | exact Flow.mono_inl _ | exact newOne_mono _ | exact fun v w w' h hb => owns_below h hb
          iterate 4 (refine Flow.tree_valK rfl (fun K hK => ⟨fun w hw hG => ?_, ?_⟩); (clear hG hw; unfold Flow.Runs Flow.yields; go_simp); go_simp; refine hK _ ?_; clear hK K)
          (refine Flow.tree_varK rfl (fun K hK => ⟨fun w hw hG => ?_, ?_⟩); (exact Flow.flow_append (.tmp 41) (.tmp 44) 22 rfl _ rfl _ rfl (HAPP.out _ hw _) (by simp [Region.wanted])); intro vm; go_simp; refine hK _ _ ?_; clear hK K)
          iterate 3 (refine Flow.tree_valK rfl (fun K hK => ⟨fun w hw hG => ?_, ?_⟩); (clear hG hw; unfold Flow.Runs Flow.yields; go_simp); go_simp; refine hK _ ?_; clear hK K)
          (refine Flow.tree_valK rfl (fun K hK => ⟨fun w hw hG => ?_, ?_⟩); (have hcw := (hw.cell (p := ⟨b, off + k, none⟩) hbw3).trans HCK3.out; clear hG hw; unfold Flow.Runs Flow.yields; go_simp); go_simp; refine hK _ ?_; clear hK K)
          (refine Flow.tree_varK rfl (fun K hK => ⟨fun w hw hG => ?_, ?_⟩); (clear hG hw; unfold Flow.Runs Flow.yields; go_simp; exact ⟨(Below.refl _ _).alloc (Nat.le_refl _) _, newOne_mk _ _ _⟩); intro vz; go_simp; refine hK _ _ ?_; clear hK K)
          refine Flow.tree_nil fun w4 hw4 hG => ?_
          have hom : w4.ownsRow w3.heap.size 9 1 vm 0 [] := by simpa [Flow.upd] using hG 4
          obtain ⟨gn, rfl, hgn, hcn⟩ := (show newOne (.string x) vz w4 by simpa [Flow.upd] using hG 9)
          clear hG
          have HOM := Lib.hid hom
          have HW4 := Lib.hid hw4
          have hs4 := hw4.size
          clear hom hw4
          simp only [List.drop_succ_cons, List.drop_zero]
          go_wp2_with (at_builtin; refine wpList_append_own _ rfl _ _ 22 rfl w3.heap.size 9 i0 (.string ByteArray.empty) 1 16 Tryd.underlying22 hi hz0 hz1 hz2 rfl (by decide) _ _ _ rfl HOM.out ⟨gn, 0, none⟩ 1 1 [.string x] rfl rfl ?_ ?_ ?_ ?_ ?_ ?_)
          · intro j u hj; rcases j with _ | j <;> simp at hj; subst hj; simpa [Addr.add] using hcn
          · simp [Value.oneCell']
          · unfold maxLen; omega
          · omega
          · exact hs4
          intro v5 w5 hown5 hgrow5 _
          have hB5 : Below w3.heap.size w3 w5 := HW4.out.grown hgrow5 hs4 (fun j e => (HOM.out.lt j e).1)
          have HO5 := Lib.hid hown5
          have HB5 := Lib.hid hB5
          have hs5 := hB5.size
          clear hown5 hgrow5 hB5
          go_wp2_with (at_builtin; refine wpList_append_none _ rfl _ _ 22 rfl w3.heap.size 9 i0 1 Tryd.underlying22 hi _ _ _ rfl HO5.out rfl ?_)
          go_wp2
          go_roundw
          case rel =>
            have HO6 := joinl_owned HO5.out HXS.out
            exact ⟨k + 1, by omega, by go_num, HALL2.out (by omega), by rw [HOE.out]; exact owns_lower (by rw [← HXL.out]; simpa using HO6) HB3.out.size, by rw [HOE.out]; exact fun h => absurd h HNE.out, by rw [HOE.out]; exact HMEM.out, by rw [HOE.out]; exact HLEN.out, Bt HB3.out HB5.out⟩
          case measure => simp [intOf]; omega
        · obtain ⟨g, cp, rfl, hgb, hglt, hcap, hgc⟩ := owns_cell HO.out (List.length_pos_iff.2 ho)
          have hcp : (n : Int) ≤ (cp : Int) := by omega
          have hnl : (n : Int) ≤ (o.length : Int) := by omega
          have hni0 : (0 : Int) ≤ (n : Int) := by omega
          have hgcell : ∀ j (hj : j < o.length), wr.cell? ⟨g, j, none⟩ = some (.string o[j]) := fun j hj => by
            have h2 := (hgc j (by simpa using hj)).1
            rw [Nat.zero_add] at h2
            rw [h2]; simp [hj]
          have HGC := Lib.hid hgcell
          clear hgc hgcell
          by_cases hnn : n < o.length
          · have hnni : (n : Int) < (o.length : Int) := by omega
            have hnnd : decide ((n : Int) < (o.length : Int)) = true := decide_eq_true hnni
            have hgd : o.getD n Tess.w0 = o[n] := Tess.getD_lt o n hnn
            obtain ⟨y, hy⟩ : ∃ y, y = o[n] := ⟨_, rfl⟩
            have hgy : wr.cell? ⟨g, n, none⟩ = some (.string y) := by rw [HGC.out n hnn, hy]
            by_cases heq : y = x
            · have HEQ := Lib.hid (show o2 = o by rw [HINS.out, if_pos ⟨hnn, by rw [hgd, ← hy, heq]⟩])
              have hxy : (y.toList == x.toList) = true := by rw [heq]; simp
              clear hy heq hgd
              go_wp2_with (go_at_call 40; refine HPL.out.mono ?_; rintro e w2 ⟨rfl, hb2⟩; have hcw := (hb2.cell (p := ⟨b, off + k, none⟩) hbr).trans hck; have hgw := (hb2.cell (p := ⟨g, n, none⟩) hglt).trans hgy; have HB2 := Lib.hid (Bt HB.out hb2); have HOW2 := Lib.hid (owns_below HO.out hb2); clear hb2)
              go_quiet (fail)
              go_wp2
              go_roundw
              case rel => exact ⟨k + 1, by omega, by go_num, HALL2.out (by omega), by rw [HOE.out, HEQ.out]; exact HOW2.out, by rw [HOE.out]; exact fun h => absurd h HNE.out, by rw [HOE.out]; exact HMEM.out, by rw [HOE.out]; exact HLEN.out, below_drewN HB2.out _⟩
              case measure => simp [intOf]; omega
            · have HXS := Lib.hid (show o2 = o.take n ++ [x] ++ o.drop n by rw [HINS.out, if_neg (fun h => heq (by rw [hy, ← hgd]; exact h.2))])
              have hxy : (y.toList == x.toList) = false := by rw [beq_eq_false_iff_ne]; intro h; exact heq (Tess.toList_inj h)
              clear hy heq hgd
              go_wp2_with (go_at_call 40; refine HPL.out.mono ?_; rintro e w2 ⟨rfl, hb2⟩; have hcw := (hb2.cell (p := ⟨b, off + k, none⟩) hbr).trans hck; have hgw := (hb2.cell (p := ⟨g, n, none⟩) hglt).trans hgy; have HCK := Lib.hid hcw; have HB2 := Lib.hid (Bt HB.out hb2); have hbw := Nat.lt_of_lt_of_le hbr hb2.size; have HOW2 := Lib.hid (owns_below HO.out hb2); clear hb2)
              go_quiet (fail)
              go_wp2
              clear hcw hgw
              have HB3 := Lib.hid (below_drewN HB2.out nq)
              have HCK3 := Lib.hid (show (w2.drewN nq).cell? ⟨b, off + k, none⟩ = some (.string x) from HCK.out)
              have hbw3 : b < (w2.drewN nq).heap.size := hbw
              have HOW3 := Lib.hid (show (w2.drewN nq).ownsRow w.heap.size 9 1 (.slice (some ⟨g, 0, none⟩) o.length cp) o.length (o.map .string) from HOW2.out)
              clear HB2 HCK hbw HOW2
              generalize w2.drewN nq = w3 at *
              obtain ⟨g', cp', hge, _, hglt3, _, hgc3⟩ := owns_cell HOW3.out (List.length_pos_iff.2 ho)
              obtain ⟨rfl, rfl⟩ : g' = g ∧ cp' = cp := by cases hge; exact ⟨rfl, rfl⟩
              have hgcell3 : ∀ j (hj : j < o.length), w3.cell? ⟨g', j, none⟩ = some (.string o[j]) := fun j hj => by
                have h2 := (hgc3 j (by simpa using hj)).1
                rw [Nat.zero_add] at h2
                rw [h2]; simp [hj]
              have HGC3 := Lib.hid hgcell3
              have HGL3 := Lib.hid hglt3
              clear hgcell3 hgc3 hge hglt3
              have happ : ∀ W, Below w3.heap.size w3 W → ∀ ty, ∃ v' w', (Builtin.append_ #[22, 22] ty #[.slice none 0 0, .slice (some ⟨g', 0, none⟩) n cp']).run Tryd.prog W = .ok v' w' ∧ Below W.heap.size W w' ∧ w'.ownsRow w3.heap.size 9 1 v' n ((o.take n).map .string) := fun W hW ty => by
                obtain ⟨v', w', h1, h2, h3, _⟩ := run_append_own (P := Tryd.prog) W w3.heap.size 22 ty 9 i0 (.string ByteArray.empty) 1 16 Tryd.underlying22 hi hz0 hz1 hz2 rfl (by decide) (.slice none 0 0) 0 [] (World.ownsRow_nil _ _ _ _) ⟨g', 0, none⟩ n cp' ((o.take n).map .string) (by first | (simp; done) | (simp; omega)) (fun j u hj => by
                  have hjn : j < n := by
                    rcases Nat.lt_or_ge j n with h | h
                    · exact h
                    · rw [List.getElem?_eq_none (by simp; omega)] at hj; cases hj
                  have hjo : j < o.length := by omega
                  have hu : u = .string o[j] := by
                    rw [List.getElem?_map, List.getElem?_take_of_lt hjn, List.getElem?_eq_getElem hjo] at hj
                    exact (Option.some.inj hj).symm
                  rw [hu]
                  have h5 := (hW.cell (p := ⟨g', j, none⟩) HGL3.out).trans (HGC3.out j hjo)
                  rw [addr_add, Nat.zero_add]
                  exact h5) (fun u hu => by obtain ⟨z, _, rfl⟩ := List.mem_map.1 hu; rfl) (by unfold maxLen; omega) (by omega) hW.size
                exact ⟨v', w', h1, growth_below h3, by simpa using h2⟩
              obtain ⟨lp, hlp⟩ : ∃ lp, lp = (o.take n).map Value.string := ⟨_, rfl⟩
              rw [← hlp] at happ
              have HLP := Lib.hid hlp
              clear hlp
              have HAPP := Lib.hid happ
              clear happ
              refine Flow.wp_region_flow_tail 10 (Flow.specs [.inl (.slice none 0 0), .inl (.slice (some ⟨g', 0, none⟩) o.length cp'), .inl (.int .i64 n), .inl (.slice (some ⟨g', 0, none⟩) n cp'), .inr (fun v W => W.ownsRow w3.heap.size 9 1 v n lp), .inl (.slice (some ⟨b, off, none⟩) l.length cap), .inl (.int .i64 k), .inl (.pointer (some ⟨b, off + k, none⟩)), .inl (.string x), .inr (newOne (.string x))]) (by kernel_rfl) (by kernel_rfl) ?_ ?_
              · apply Flow.specs_mono; intro s hs; simp only [List.mem_cons, List.not_mem_nil, or_false] at hs
                rcases hs with rfl | rfl | rfl | rfl | rfl | rfl | rfl | rfl | rfl | rfl
                all_goals first | exact Flow.mono_inl _ | exact newOne_mono _ | exact fun v w w' h hb => owns_below h hb
              iterate 4 (refine Flow.tree_valK rfl (fun K hK => ⟨fun w hw hG => ?_, ?_⟩); (clear hG hw; unfold Flow.Runs Flow.yields; go_simp); go_simp; refine hK _ ?_; clear hK K)
              (refine Flow.tree_varK rfl (fun K hK => ⟨fun w hw hG => ?_, ?_⟩); (exact Flow.flow_append (.tmp 41) (.tmp 44) 22 rfl _ rfl _ rfl (HAPP.out _ hw _) (by simp [Region.wanted])); intro vm; go_simp; refine hK _ _ ?_; clear hK K)
              iterate 3 (refine Flow.tree_valK rfl (fun K hK => ⟨fun w hw hG => ?_, ?_⟩); (clear hG hw; unfold Flow.Runs Flow.yields; go_simp); go_simp; refine hK _ ?_; clear hK K)
              (refine Flow.tree_valK rfl (fun K hK => ⟨fun w hw hG => ?_, ?_⟩); (have hcw := (hw.cell (p := ⟨b, off + k, none⟩) hbw3).trans HCK3.out; clear hG hw; unfold Flow.Runs Flow.yields; go_simp); go_simp; refine hK _ ?_; clear hK K)
              (refine Flow.tree_varK rfl (fun K hK => ⟨fun w hw hG => ?_, ?_⟩); (clear hG hw; unfold Flow.Runs Flow.yields; go_simp; exact ⟨(Below.refl _ _).alloc (Nat.le_refl _) _, newOne_mk _ _ _⟩); intro vz; go_simp; refine hK _ _ ?_; clear hK K)
              refine Flow.tree_nil fun w4 hw4 hG => ?_
              have hom : w4.ownsRow w3.heap.size 9 1 vm n lp := by simpa [Flow.upd] using hG 4
              obtain ⟨gn, rfl, hgn, hcn⟩ := (show newOne (.string x) vz w4 by simpa [Flow.upd] using hG 9)
              clear hG
              have HOM := Lib.hid hom
              have HW4 := Lib.hid hw4
              have hs4 := hw4.size
              clear hom hw4
              simp only [List.drop_succ_cons, List.drop_zero]
              go_wp2_with (at_builtin; refine wpList_append_own _ rfl _ _ 22 rfl w3.heap.size 9 i0 (.string ByteArray.empty) 1 16 Tryd.underlying22 hi hz0 hz1 hz2 rfl (by decide) _ _ _ rfl HOM.out ⟨gn, 0, none⟩ 1 1 [.string x] rfl rfl ?_ ?_ ?_ ?_ ?_ ?_)
              · intro j u hj; rcases j with _ | j <;> simp at hj; subst hj; simpa [Addr.add] using hcn
              · simp [Value.oneCell']
              · unfold maxLen; omega
              · omega
              · exact hs4
              intro v5 w5 hown5 hgrow5 _
              have hB5 : Below w3.heap.size w3 w5 := HW4.out.grown hgrow5 hs4 (fun j e => (HOM.out.lt j e).1)
              have HO5 := Lib.hid hown5
              have HB5 := Lib.hid hB5
              have hs5 := hB5.size
              clear hown5 hgrow5 hB5
              have hc6 : ∀ j u, ((o.drop n).map Value.string)[j]? = some u → w5.cell? ((⟨g', n, none⟩ : Addr).add j) = some u := fun j u hj => by
                have hjo : n + j < o.length := by
                  rcases Nat.lt_or_ge (n + j) o.length with h | h
                  · exact h
                  · rw [List.getElem?_eq_none (by simp; omega)] at hj; cases hj
                have hu : u = .string o[n + j] := by
                  simp [hjo] at hj
                  exact hj.symm
                rw [hu]
                have h5 := (HB5.out.cell (p := ⟨g', n + j, none⟩) HGL3.out).trans (HGC3.out (n + j) hjo)
                rw [addr_add]
                exact h5
              have HC6 := Lib.hid hc6
              clear hc6
              go_wp2_with (at_builtin; refine wpList_append_own _ rfl _ _ 22 rfl w3.heap.size 9 i0 (.string ByteArray.empty) 1 16 Tryd.underlying22 hi hz0 hz1 hz2 rfl (by decide) _ _ _ rfl HO5.out ⟨g', n, none⟩ (o.length - n) _ ((o.drop n).map Value.string) rfl (by simp) HC6.out (fun u hu => by obtain ⟨z, _, rfl⟩ := List.mem_map.1 hu; rfl) ?_ ?_ ?_ ?_)
              · unfold maxLen; omega
              · omega
              · exact hs5
              intro v6 w6 hown6 hgrow6 _
              have HO6 := Lib.hid hown6
              have HB6 := Lib.hid (Bt HB3.out ((HB5.out).grown hgrow6 hs5 (fun j e => (HO5.out.lt j e).1)))
              clear hown6 hgrow6
              go_wp2
              go_roundw
              case rel =>
                have hlen6 : n + 1 + (o.length - n) = o2.length := by rw [HXS.out]; simp only [List.length_append, List.length_take, List.length_drop, List.length_singleton]; omega
                have h5 := HO6.out
                rw [hlen6] at h5
                have h6 : w6.ownsRow w3.heap.size 9 1 v6 o2.length (o2.map .string) := joinl_owned h5 (by rw [HXS.out, HLP.out]; simp)
                exact ⟨k + 1, by omega, by go_num, HALL2.out (by omega), by rw [HOE.out]; exact owns_lower h6 HB3.out.size, by rw [HOE.out]; exact fun h => absurd h HNE.out, by rw [HOE.out]; exact HMEM.out, by rw [HOE.out]; exact HLEN.out, HB6.out⟩
              case measure => simp [intOf]; omega
          · obtain rfl : n = o.length := by omega
            have hnni : ¬ (o.length : Int) < (o.length : Int) := by omega
            have hnnd : decide ((o.length : Int) < (o.length : Int)) = false := decide_eq_false hnni
            have HXS := Lib.hid (show o2 = o.take o.length ++ [x] ++ o.drop o.length by rw [HINS.out, if_neg (fun h => hnn h.1)])
            clear hnl hnn
            by_cases hcc : cp = o.length
            · subst hcc
              go_wp2_with (go_at_call 40; refine HPL.out.mono ?_; rintro e w2 ⟨rfl, hb2⟩; have HCK := Lib.hid ((hb2.cell (p := ⟨b, off + k, none⟩) hbr).trans hck); have HB2 := Lib.hid (Bt HB.out hb2); have hbw := Nat.lt_of_lt_of_le hbr hb2.size; have HOW2 := Lib.hid (owns_below HO.out hb2); clear hb2)
              go_quiet (fail)
              go_wp2
              have HB3 := Lib.hid (below_drewN HB2.out nq)
              have HCK3 := Lib.hid (show (w2.drewN nq).cell? ⟨b, off + k, none⟩ = some (.string x) from HCK.out)
              have hbw3 : b < (w2.drewN nq).heap.size := hbw
              have HOW3 := Lib.hid (show (w2.drewN nq).ownsRow w.heap.size 9 1 (.slice (some ⟨g, 0, none⟩) o.length o.length) o.length (o.map .string) from HOW2.out)
              clear HB2 HCK hbw HOW2
              generalize w2.drewN nq = w3 at *
              obtain ⟨g', cpp, hge, _, hglt3, _, hgc3⟩ := owns_cell HOW3.out (List.length_pos_iff.2 ho)
              obtain rfl : g' = g := by cases hge; rfl
              have hgcell3 : ∀ j (hj : j < o.length), w3.cell? ⟨g', j, none⟩ = some (.string o[j]) := fun j hj => by
                have h2 := (hgc3 j (by simpa using hj)).1
                rw [Nat.zero_add] at h2
                rw [h2]; simp [hj]
              have HGC3 := Lib.hid hgcell3
              have HGL3 := Lib.hid hglt3
              clear hgcell3 hgc3 hge hglt3
              have happ : ∀ W, Below w3.heap.size w3 W → ∀ ty, ∃ v' w', (Builtin.append_ #[22, 22] ty #[.slice none 0 0, .slice (some ⟨g', 0, none⟩) o.length o.length]).run Tryd.prog W = .ok v' w' ∧ Below W.heap.size W w' ∧ w'.ownsRow w3.heap.size 9 1 v' o.length ((o.take o.length).map .string) := fun W hW ty => by
                obtain ⟨v', w', h1, h2, h3, _⟩ := run_append_own (P := Tryd.prog) W w3.heap.size 22 ty 9 i0 (.string ByteArray.empty) 1 16 Tryd.underlying22 hi hz0 hz1 hz2 rfl (by decide) (.slice none 0 0) 0 [] (World.ownsRow_nil _ _ _ _) ⟨g', 0, none⟩ o.length o.length ((o.take o.length).map .string) (by first | (simp; done) | (simp; omega)) (fun j u hj => by
                  have hjn : j < o.length := by
                    rcases Nat.lt_or_ge j o.length with h | h
                    · exact h
                    · rw [List.getElem?_eq_none (by simp; omega)] at hj; cases hj
                  have hjo : j < o.length := by omega
                  have hu : u = .string o[j] := by
                    rw [List.getElem?_map, List.getElem?_take_of_lt hjn, List.getElem?_eq_getElem hjo] at hj
                    exact (Option.some.inj hj).symm
                  rw [hu]
                  have h5 := (hW.cell (p := ⟨g', j, none⟩) HGL3.out).trans (HGC3.out j hjo)
                  rw [addr_add, Nat.zero_add]
                  exact h5) (fun u hu => by obtain ⟨z, _, rfl⟩ := List.mem_map.1 hu; rfl) (by unfold maxLen; omega) (by omega) hW.size
                exact ⟨v', w', h1, growth_below h3, by simpa using h2⟩
              obtain ⟨lp, hlp⟩ : ∃ lp, lp = (o.take o.length).map Value.string := ⟨_, rfl⟩
              rw [← hlp] at happ
              have HLP := Lib.hid hlp
              clear hlp
              have HAPP := Lib.hid happ
              clear happ
              refine Flow.wp_region_flow_tail 10 (Flow.specs [.inl (.slice none 0 0), .inl (.slice (some ⟨g', 0, none⟩) o.length o.length), .inl (.int .i64 (o.length : Nat)), .inl (.slice (some ⟨g', 0, none⟩) o.length o.length), .inr (fun v W => W.ownsRow w3.heap.size 9 1 v o.length lp), .inl (.slice (some ⟨b, off, none⟩) l.length cap), .inl (.int .i64 k), .inl (.pointer (some ⟨b, off + k, none⟩)), .inl (.string x), .inr (newOne (.string x))]) (by kernel_rfl) (by kernel_rfl) ?_ ?_
              · apply Flow.specs_mono; intro s hs; simp only [List.mem_cons, List.not_mem_nil, or_false] at hs
                rcases hs with rfl | rfl | rfl | rfl | rfl | rfl | rfl | rfl | rfl | rfl
                all_goals first | exact Flow.mono_inl _ | exact newOne_mono _ | exact fun v w w' h hb => owns_below h hb
              iterate 4 (refine Flow.tree_valK rfl (fun K hK => ⟨fun w hw hG => ?_, ?_⟩); (clear hG hw; unfold Flow.Runs Flow.yields; go_simp); go_simp; refine hK _ ?_; clear hK K)
              (refine Flow.tree_varK rfl (fun K hK => ⟨fun w hw hG => ?_, ?_⟩); (exact Flow.flow_append (.tmp 41) (.tmp 44) 22 rfl _ rfl _ rfl (HAPP.out _ hw _) (by simp [Region.wanted])); intro vm; go_simp; refine hK _ _ ?_; clear hK K)
              iterate 3 (refine Flow.tree_valK rfl (fun K hK => ⟨fun w hw hG => ?_, ?_⟩); (clear hG hw; unfold Flow.Runs Flow.yields; go_simp); go_simp; refine hK _ ?_; clear hK K)
              (refine Flow.tree_valK rfl (fun K hK => ⟨fun w hw hG => ?_, ?_⟩); (have hcw := (hw.cell (p := ⟨b, off + k, none⟩) hbw3).trans HCK3.out; clear hG hw; unfold Flow.Runs Flow.yields; go_simp); go_simp; refine hK _ ?_; clear hK K)
              (refine Flow.tree_varK rfl (fun K hK => ⟨fun w hw hG => ?_, ?_⟩); (clear hG hw; unfold Flow.Runs Flow.yields; go_simp; exact ⟨(Below.refl _ _).alloc (Nat.le_refl _) _, newOne_mk _ _ _⟩); intro vz; go_simp; refine hK _ _ ?_; clear hK K)
              refine Flow.tree_nil fun w4 hw4 hG => ?_
              have hom : w4.ownsRow w3.heap.size 9 1 vm o.length lp := by simpa [Flow.upd] using hG 4
              obtain ⟨gn, rfl, hgn, hcn⟩ := (show newOne (.string x) vz w4 by simpa [Flow.upd] using hG 9)
              clear hG
              have HOM := Lib.hid hom
              have HW4 := Lib.hid hw4
              have hs4 := hw4.size
              clear hom hw4
              simp only [List.drop_succ_cons, List.drop_zero]
              go_wp2_with (at_builtin; refine wpList_append_own _ rfl _ _ 22 rfl w3.heap.size 9 i0 (.string ByteArray.empty) 1 16 Tryd.underlying22 hi hz0 hz1 hz2 rfl (by decide) _ _ _ rfl HOM.out ⟨gn, 0, none⟩ 1 1 [.string x] rfl rfl ?_ ?_ ?_ ?_ ?_ ?_)
              · intro j u hj; rcases j with _ | j <;> simp at hj; subst hj; simpa [Addr.add] using hcn
              · simp [Value.oneCell']
              · unfold maxLen; omega
              · omega
              · exact hs4
              intro v5 w5 hown5 hgrow5 _
              have hB5 : Below w3.heap.size w3 w5 := HW4.out.grown hgrow5 hs4 (fun j e => (HOM.out.lt j e).1)
              have HO5 := Lib.hid hown5
              have HB5 := Lib.hid hB5
              have hs5 := hB5.size
              clear hown5 hgrow5 hB5
              go_wp2_with (at_builtin; refine wpList_append_own _ rfl _ _ 22 rfl w3.heap.size 9 i0 (.string ByteArray.empty) 1 16 Tryd.underlying22 hi hz0 hz1 hz2 rfl (by decide) _ _ _ rfl HO5.out _ 0 _ [] rfl rfl (fun j u hj => by simp at hj) (fun u hu => by simp at hu) ?_ ?_ ?_ ?_)
              · unfold maxLen; omega
              · omega
              · exact hs5
              intro v6 w6 hown6 hgrow6 _
              have HO6 := Lib.hid hown6
              have HB6 := Lib.hid (Bt HB3.out ((HB5.out).grown hgrow6 hs5 (fun j e => (HO5.out.lt j e).1)))
              clear hown6 hgrow6
              go_wp2
              go_roundw
              case rel =>
                have hlen6 : o.length + 1 + 0 = o2.length := by rw [HXS.out]; simp only [List.length_append, List.length_take, List.length_drop, List.length_singleton]; omega
                have h5 := HO6.out
                rw [hlen6] at h5
                have h6 : w6.ownsRow w3.heap.size 9 1 v6 o2.length (o2.map .string) := joinl_owned h5 (by rw [HXS.out, HLP.out]; simp)
                exact ⟨k + 1, by omega, by go_num, HALL2.out (by omega), by rw [HOE.out]; exact owns_lower h6 HB3.out.size, by rw [HOE.out]; exact fun h => absurd h HNE.out, by rw [HOE.out]; exact HMEM.out, by rw [HOE.out]; exact HLEN.out, HB6.out⟩
              case measure => simp [intOf]; omega
            · have hcc1 : ¬ cp - o.length = 0 := by omega
              have hcc2 : (o.length : Int) < (cp : Int) := by omega
              have hcc3 : ¬ (cp : Int) - (o.length : Int) = 0 := by omega
              go_wp2_with (go_at_call 40; refine HPL.out.mono ?_; rintro e w2 ⟨rfl, hb2⟩; have HCK := Lib.hid ((hb2.cell (p := ⟨b, off + k, none⟩) hbr).trans hck); have HB2 := Lib.hid (Bt HB.out hb2); have hbw := Nat.lt_of_lt_of_le hbr hb2.size; have HOW2 := Lib.hid (owns_below HO.out hb2); clear hb2)
              go_quiet (fail)
              go_wp2
              have HB3 := Lib.hid (below_drewN HB2.out nq)
              have HCK3 := Lib.hid (show (w2.drewN nq).cell? ⟨b, off + k, none⟩ = some (.string x) from HCK.out)
              have hbw3 : b < (w2.drewN nq).heap.size := hbw
              have HOW3 := Lib.hid (show (w2.drewN nq).ownsRow w.heap.size 9 1 (.slice (some ⟨g, 0, none⟩) o.length cp) o.length (o.map .string) from HOW2.out)
              clear HB2 HCK hbw HOW2
              generalize w2.drewN nq = w3 at *
              obtain ⟨g', cp', hge, _, hglt3, _, hgc3⟩ := owns_cell HOW3.out (List.length_pos_iff.2 ho)
              obtain ⟨rfl, rfl⟩ : g' = g ∧ cp' = cp := by cases hge; exact ⟨rfl, rfl⟩
              have hgcell3 : ∀ j (hj : j < o.length), w3.cell? ⟨g', j, none⟩ = some (.string o[j]) := fun j hj => by
                have h2 := (hgc3 j (by simpa using hj)).1
                rw [Nat.zero_add] at h2
                rw [h2]; simp [hj]
              have HGC3 := Lib.hid hgcell3
              have HGL3 := Lib.hid hglt3
              clear hgcell3 hgc3 hge hglt3
              have happ : ∀ W, Below w3.heap.size w3 W → ∀ ty, ∃ v' w', (Builtin.append_ #[22, 22] ty #[.slice none 0 0, .slice (some ⟨g', 0, none⟩) o.length cp']).run Tryd.prog W = .ok v' w' ∧ Below W.heap.size W w' ∧ w'.ownsRow w3.heap.size 9 1 v' o.length ((o.take o.length).map .string) := fun W hW ty => by
                obtain ⟨v', w', h1, h2, h3, _⟩ := run_append_own (P := Tryd.prog) W w3.heap.size 22 ty 9 i0 (.string ByteArray.empty) 1 16 Tryd.underlying22 hi hz0 hz1 hz2 rfl (by decide) (.slice none 0 0) 0 [] (World.ownsRow_nil _ _ _ _) ⟨g', 0, none⟩ o.length cp' ((o.take o.length).map .string) (by first | (simp; done) | (simp; omega)) (fun j u hj => by
                  have hjn : j < o.length := by
                    rcases Nat.lt_or_ge j o.length with h | h
                    · exact h
                    · rw [List.getElem?_eq_none (by simp; omega)] at hj; cases hj
                  have hjo : j < o.length := by omega
                  have hu : u = .string o[j] := by
                    rw [List.getElem?_map, List.getElem?_take_of_lt hjn, List.getElem?_eq_getElem hjo] at hj
                    exact (Option.some.inj hj).symm
                  rw [hu]
                  have h5 := (hW.cell (p := ⟨g', j, none⟩) HGL3.out).trans (HGC3.out j hjo)
                  rw [addr_add, Nat.zero_add]
                  exact h5) (fun u hu => by obtain ⟨z, _, rfl⟩ := List.mem_map.1 hu; rfl) (by unfold maxLen; omega) (by omega) hW.size
                exact ⟨v', w', h1, growth_below h3, by simpa using h2⟩
              obtain ⟨lp, hlp⟩ : ∃ lp, lp = (o.take o.length).map Value.string := ⟨_, rfl⟩
              rw [← hlp] at happ
              have HLP := Lib.hid hlp
              clear hlp
              have HAPP := Lib.hid happ
              clear happ
              refine Flow.wp_region_flow_tail 10 (Flow.specs [.inl (.slice none 0 0), .inl (.slice (some ⟨g', 0, none⟩) o.length cp'), .inl (.int .i64 (o.length : Nat)), .inl (.slice (some ⟨g', 0, none⟩) o.length cp'), .inr (fun v W => W.ownsRow w3.heap.size 9 1 v o.length lp), .inl (.slice (some ⟨b, off, none⟩) l.length cap), .inl (.int .i64 k), .inl (.pointer (some ⟨b, off + k, none⟩)), .inl (.string x), .inr (newOne (.string x))]) (by kernel_rfl) (by kernel_rfl) ?_ ?_
              · apply Flow.specs_mono; intro s hs; simp only [List.mem_cons, List.not_mem_nil, or_false] at hs
                rcases hs with rfl | rfl | rfl | rfl | rfl | rfl | rfl | rfl | rfl | rfl
                all_goals first | exact Flow.mono_inl _ | exact newOne_mono _ | exact fun v w w' h hb => owns_below h hb
              iterate 4 (refine Flow.tree_valK rfl (fun K hK => ⟨fun w hw hG => ?_, ?_⟩); (clear hG hw; unfold Flow.Runs Flow.yields; go_simp); go_simp; refine hK _ ?_; clear hK K)
              (refine Flow.tree_varK rfl (fun K hK => ⟨fun w hw hG => ?_, ?_⟩); (exact Flow.flow_append (.tmp 41) (.tmp 44) 22 rfl _ rfl _ rfl (HAPP.out _ hw _) (by simp [Region.wanted])); intro vm; go_simp; refine hK _ _ ?_; clear hK K)
              iterate 3 (refine Flow.tree_valK rfl (fun K hK => ⟨fun w hw hG => ?_, ?_⟩); (clear hG hw; unfold Flow.Runs Flow.yields; go_simp); go_simp; refine hK _ ?_; clear hK K)
              (refine Flow.tree_valK rfl (fun K hK => ⟨fun w hw hG => ?_, ?_⟩); (have hcw := (hw.cell (p := ⟨b, off + k, none⟩) hbw3).trans HCK3.out; clear hG hw; unfold Flow.Runs Flow.yields; go_simp); go_simp; refine hK _ ?_; clear hK K)
              (refine Flow.tree_varK rfl (fun K hK => ⟨fun w hw hG => ?_, ?_⟩); (clear hG hw; unfold Flow.Runs Flow.yields; go_simp; exact ⟨(Below.refl _ _).alloc (Nat.le_refl _) _, newOne_mk _ _ _⟩); intro vz; go_simp; refine hK _ _ ?_; clear hK K)
              refine Flow.tree_nil fun w4 hw4 hG => ?_
              have hom : w4.ownsRow w3.heap.size 9 1 vm o.length lp := by simpa [Flow.upd] using hG 4
              obtain ⟨gn, rfl, hgn, hcn⟩ := (show newOne (.string x) vz w4 by simpa [Flow.upd] using hG 9)
              clear hG
              have HOM := Lib.hid hom
              have HW4 := Lib.hid hw4
              have hs4 := hw4.size
              clear hom hw4
              simp only [List.drop_succ_cons, List.drop_zero]
              go_wp2_with (at_builtin; refine wpList_append_own _ rfl _ _ 22 rfl w3.heap.size 9 i0 (.string ByteArray.empty) 1 16 Tryd.underlying22 hi hz0 hz1 hz2 rfl (by decide) _ _ _ rfl HOM.out ⟨gn, 0, none⟩ 1 1 [.string x] rfl rfl ?_ ?_ ?_ ?_ ?_ ?_)
              · intro j u hj; rcases j with _ | j <;> simp at hj; subst hj; simpa [Addr.add] using hcn
              · simp [Value.oneCell']
              · unfold maxLen; omega
              · omega
              · exact hs4
              intro v5 w5 hown5 hgrow5 _
              have hB5 : Below w3.heap.size w3 w5 := HW4.out.grown hgrow5 hs4 (fun j e => (HOM.out.lt j e).1)
              have HO5 := Lib.hid hown5
              have HB5 := Lib.hid hB5
              have hs5 := hB5.size
              clear hown5 hgrow5 hB5
              go_wp2_with (at_builtin; refine wpList_append_own _ rfl _ _ 22 rfl w3.heap.size 9 i0 (.string ByteArray.empty) 1 16 Tryd.underlying22 hi hz0 hz1 hz2 rfl (by decide) _ _ _ rfl HO5.out _ 0 _ [] rfl rfl (fun j u hj => by simp at hj) (fun u hu => by simp at hu) ?_ ?_ ?_ ?_)
              · unfold maxLen; omega
              · omega
              · exact hs5
              intro v6 w6 hown6 hgrow6 _
              have HO6 := Lib.hid hown6
              have HB6 := Lib.hid (Bt HB3.out ((HB5.out).grown hgrow6 hs5 (fun j e => (HO5.out.lt j e).1)))
              clear hown6 hgrow6
              go_wp2
              go_roundw
              case rel =>
                have hlen6 : o.length + 1 + 0 = o2.length := by rw [HXS.out]; simp only [List.length_append, List.length_take, List.length_drop, List.length_singleton]; omega
                have h5 := HO6.out
                rw [hlen6] at h5
                have h6 : w6.ownsRow w3.heap.size 9 1 v6 o2.length (o2.map .string) := joinl_owned h5 (by rw [HXS.out, HLP.out]; simp)
                exact ⟨k + 1, by omega, by go_num, HALL2.out (by omega), by rw [HOE.out]; exact owns_lower h6 HB3.out.size, by rw [HOE.out]; exact fun h => absurd h HNE.out, by rw [HOE.out]; exact HMEM.out, by rw [HOE.out]; exact HLEN.out, HB6.out⟩
              case measure => simp [intOf]; omega
    · obtain rfl : k = l.length := by omega
      have HD := Lib.hid (Tess.buildW_ok l (fun j hj => HA.out j hj hj))
      have hsl := SlOf.owned HO.out
      have hki : ¬ (l.length : Int) < (l.length : Int) := by omega
      generalize Tess.builtTo l l.length = o at *
      obtain ⟨a4, cap4, rfl, hl4, hc4⟩ := sls_open hsl
      have HSL := Lib.hid hsl
      clear hsl hc4
      by_cases h1000 : 1000 < o.length
      · have h1i : (1000 : Int) < (o.length : Int) := by omega
        rw [if_pos h1000] at HD
        go_wp2
        go_ret2
        rw [HD.out]
        exact ⟨_, rfl, SlOf.nil _, HB.out⟩
      · have h1i : ¬ (1000 : Int) < (o.length : Int) := by omega
        rw [if_neg h1000] at HD
        go_wp2
        go_ret2
        rw [HD.out]
        exact ⟨_, rfl, HSL.out, HB.out⟩
end Go.Proofs.YtpbecldgoimkmaaDoor
