/- dict.Encode. -/
import Derived.Test.YtpbecldgoimkmaaDoorD19p
namespace Go.Proofs.YtpbecldgoimkmaaDoor
open Go.RowKit Go.Sort Go.Shelf

def EncPost (l : List ByteArray) (w : World) (e : Ending) (w' : World) : Prop := e = .returned (.tuple #[.string (Tess.encW l).1, .int .i64 ((Tess.encW l).2 : Nat)]) ∧ Below w.heap.size w w'

set_option maxRecDepth 100000 in
set_option maxHeartbeats 4000000 in
theorem encode_any (v : Value) (l : List ByteArray) (w : World) (hv : SlOf w v (l.map .string)) : Calls Tryd.prog 12 #[v] w (EncPost l w) := by
  have hri := right_any v l w hv
  unfold EncPost Tess.encW
  cases hr : Tess.right l
  · rw [hr] at hri
    have HR := Lib.hid hri
    clear hri hv
    go_enter Tryd.func12, Tryd.ntmps12
    go_wp2_with (go_at_call 26; refine HR.out.mono ?_; rintro e w1 ⟨rfl, hB1⟩; have HB := Lib.hid hB1; clear hB1)
    go_ret2
    exact ⟨rfl, HB.out⟩
  · rw [hr] at hri
    have HR := Lib.hid hri
    have hlen := Tess.right_len l hr
    have HSZ := Lib.hid (Tess.right_size l hr)
    have HLS := Lib.hid (Tess.lastOf_size l hr)
    have HEL := Lib.hid (Tess.encTo_len l hr)
    obtain ⟨a, cap, rfl, hlen2, hc⟩ := sls_open hv
    have HC := Lib.hid hc
    clear hri hv hc hr
    have hwl : IntKind.u64.wrap (l.length : Int) = (l.length : Int) := by go_bits; first | trivial | omega
    have hpl := Tess.putW_size l.length (by omega)
    go_enter Tryd.func12, Tryd.ntmps12
    go_wp2_with (first
      | (go_at_call 26; refine HR.out.mono ?_; rintro e w1 ⟨rfl, hB1⟩; have HB := Lib.hid hB1; clear hB1)
      | (go_at_call 30; refine (put_any l.length _ (by omega)).mono ?_; rintro e w2 ⟨rfl, hB2⟩))
    have hb0 : Lib.IsBuilder 48 5 w.heap.size w1.heap.size (Lib.byteCells []) (w1.alloc (.cells #[.pointer none, .slice none 0 0] 48)) := .inl ⟨HB.out.size, .slice none 0 0, World.alloc_heap_new w1 _, World.ownsRow_nil _ _ _ _, by simp [Value.ownBlock]⟩
    have hb2 := builder_below hb0 hB2
    have hBw : Below w.heap.size w w2 := Bt (HB.out.alloc HB.out.size _) hB2
    clear hb0 hB2
    refine (writeString_any w.heap.size w1.heap.size (Lib.byteCells []) (Tess.putW l.length) w2 hb2 (by rw [Lib.byteCells_length]; simp; omega) hBw.size).mono ?_
    rintro e w3 ⟨rfl, hb3, hB3⟩
    rw [strCells_eq] at hb3
    have HBD := Lib.hid (show Lib.IsBuilder 48 5 w.heap.size w1.heap.size (Lib.byteCells (Tess.putL l.length ++ Tess.encTo l 0)) w3 from .inr (by rw [show Tess.putL l.length ++ Tess.encTo l 0 = Tess.putL l.length from List.append_nil _]; exact hb3))
    have HB3 := Lib.hid (hBw.trans hB3)
    clear hb3 hB3 hb2 hBw
    go_wp2
    go_loopw [5, 19] (fun s5 i wr => ∃ k : Nat, k ≤ l.length ∧ s5 = .string (Tess.lastOf l k) ∧ i = .int .i64 k ∧ Lib.IsBuilder 48 5 w.heap.size w1.heap.size (Lib.byteCells (Tess.putL l.length ++ Tess.encTo l k)) wr ∧ Below w.heap.size w wr) (fun _ i _ => l.length - (intOf i).toNat)
    case atStart => exact ⟨0, Nat.zero_le _, rfl, rfl, HBD.out, HB3.out⟩
    case round =>
      clear HBD HB3
      obtain ⟨k, hk, rfl, rfl, hbd, hB⟩ := hrel
      have HBD := Lib.hid hbd
      have HBW := Lib.hid hB
      clear hbd hB
      have hel := HEL.out k hk
      by_cases hlt : k < l.length
      · obtain ⟨b, off, rfl, hb, hcell⟩ := HC.out k hlt
        have hck : wr.cell? ⟨b, off + k, none⟩ = some (.string l[k]) := (HBW.out.cell (p := ⟨b, off + k, none⟩) hb).trans hcell
        have hki : (k : Int) < (l.length : Int) := by omega
        have hy100 := HSZ.out k hlt
        have hx100 := HLS.out k hk
        rw [Tess.getD_lt l k hlt] at hy100
        have hgd := Tess.getD_lt l k hlt
        obtain ⟨y, hy⟩ : ∃ y, y = l[k] := ⟨_, rfl⟩
        rw [← hy] at hck hy100 hgd
        obtain ⟨x, hx⟩ : ∃ x, x = Tess.lastOf l k := ⟨_, rfl⟩
        rw [← hx] at hx100
        have hsh := (Tess.shared_le x y).2
        have hone := Tess.one_len x y hy100
        have HONE := Lib.hid (Tess.oneW_list x y)
        have HGD := Lib.hid hgd
        have HLX := Lib.hid hx
        rw [← hx]
        clear hcell hy hgd hx
        have c1 := fun W => shared_any x y W (by unfold maxLen; omega)
        obtain ⟨n, hn⟩ : ∃ n, n = Tess.shared x y := ⟨_, rfl⟩
        rw [← hn] at c1 hsh
        have c2 := fun W => put_any n W (by omega)
        have c3 := fun W => put_any (y.size - n) W (by omega)
        have hA := Tess.putW_size n (by omega)
        have hCC := Tess.putW_size (y.size - n) (by omega)
        have HOW := Lib.hid (show Tess.oneW x y = (Tess.putW n ++ Tess.putW (y.size - n)) ++ y.extract n y.size by unfold Tess.oneW; rw [← hn])
        clear hn
        obtain ⟨d, hd⟩ : ∃ d, d = y.size - n := ⟨_, rfl⟩
        rw [← hd] at c3 hCC HOW
        have hdi : (y.size : Int) - (n : Int) = (d : Int) := by omega
        have hdn : d ≤ 100 := by omega
        have hni : (n : Int) ≤ (y.size : Int) := by omega
        clear hd
        obtain ⟨R, hR⟩ : ∃ R, R = y.extract n y.size := ⟨_, rfl⟩
        have hRs : R.size = y.size - n := by rw [hR]; simp
        obtain ⟨A, hAA⟩ : ∃ A, A = Tess.putW n := ⟨_, rfl⟩
        obtain ⟨C, hCe⟩ : ∃ C, C = Tess.putW d := ⟨_, rfl⟩
        rw [← hAA] at c2 hA HOW
        rw [← hCe] at c3 hCC HOW
        rw [← hR] at HOW
        have hR' : y.extract n y.size = R := hR.symm
        clear hR hAA hCe
        have C1 := Lib.hid c1
        have C2 := Lib.hid c2
        have C3 := Lib.hid c3
        clear c1 c2 c3
        have hwn : IntKind.u64.wrap (n : Int) = (n : Int) := by go_bits; first | trivial | omega
        have hwd : IntKind.i64.wrap (d : Int) = (d : Int) := by go_bits; first | trivial | omega
        have hwd2 : IntKind.u64.wrap (d : Int) = (d : Int) := by go_bits; first | trivial | omega
        have hcat1 : ¬ 9223372036854775807 < A.size + C.size := by omega
        have hcat2 : ¬ 9223372036854775807 < A.size + C.size + (y.size - n) := by omega
        go_wp2_with (go_at_call 31; refine (C1.out _).mono ?_; rintro e w4 ⟨rfl, hB4⟩; have HB4 := Lib.hid hB4; clear hB4)
        have HBD4 := Lib.hid (builder_below HBD.out HB4.out)
        have HBW4 := Lib.hid (Bt HBW.out HB4.out)
        refine Flow.wp_region_flow_tail 14 (Flow.specs [.inl (.int .i64 n), .inl (.int .u64 n), .inl (.string A), .inl (.string y), .inl (.int .i64 (y.size : Nat)), .inl (.int .i64 n), .inl (.int .i64 d), .inl (.int .u64 d), .inl (.string C), .inl (.string (A ++ C)), .inl (.string y), .inl (.int .i64 n), .inl (.string R), .inl (.string ((A ++ C) ++ R))]) (by kernel_rfl) (by kernel_rfl) ?_ ?_
        · apply Flow.specs_mono; intro s hs; simp only [List.mem_cons, List.not_mem_nil, or_false] at hs
          rcases hs with rfl | rfl | rfl | rfl | rfl | rfl | rfl | rfl | rfl | rfl | rfl | rfl | rfl | rfl
          all_goals exact Flow.mono_inl _
        iterate 2 (refine Flow.tree_valK rfl (fun K hK => ⟨fun w hw hG => ?_, ?_⟩); (clear hG hw; unfold Flow.Runs Flow.yields; go_simp); go_simp; refine hK _ ?_; clear hK K)
        (refine Flow.tree_valK rfl (fun K hK => ⟨fun w hw hG => ?_, ?_⟩); (clear hG hw; unfold Flow.Runs Flow.yields; go_simp; exact Calls.mono (C2.out _) (fun e w' ⟨he, hb⟩ => ⟨he, hb⟩)); go_simp; refine hK _ ?_; clear hK K)
        iterate 5 (refine Flow.tree_valK rfl (fun K hK => ⟨fun w hw hG => ?_, ?_⟩); (clear hG hw; unfold Flow.Runs Flow.yields; go_simp); go_simp; refine hK _ ?_; clear hK K)
        (refine Flow.tree_valK rfl (fun K hK => ⟨fun w hw hG => ?_, ?_⟩); (clear hG hw; unfold Flow.Runs Flow.yields; go_simp; exact Calls.mono (C3.out _) (fun e w' ⟨he, hb⟩ => ⟨he, hb⟩)); go_simp; refine hK _ ?_; clear hK K)
        iterate 5 (refine Flow.tree_valK rfl (fun K hK => ⟨fun w hw hG => ?_, ?_⟩); (clear hG hw; unfold Flow.Runs Flow.yields; go_simp); go_simp; refine hK _ ?_; clear hK K)
        refine Flow.tree_nil fun w5 hw5 hG => ?_
        clear hG
        have hb5 := builder_below HBD4.out hw5
        have hB5 := Bt HBW4.out hw5
        clear hw5
        simp only [List.drop_succ_cons, List.drop_zero]
        have hlw : (Lib.byteCells (Tess.putL l.length ++ Tess.encTo l k)).length + (A ++ C ++ R).size ≤ 140737488355328 := by
          rw [Lib.byteCells_length, List.length_append]
          have hplen : (Tess.putL l.length).length = (Tess.putW l.length).size := rfl
          have hsz3 : (A ++ C ++ R).size = A.size + C.size + R.size := by simp
          omega
        have hws := writeString_any w.heap.size w1.heap.size (Lib.byteCells (Tess.putL l.length ++ Tess.encTo l k)) (A ++ C ++ R) w5 hb5 hlw hB5.size
        have HWS := Lib.hid hws
        have HB5 := Lib.hid hB5
        clear hws hB5 hb5
        go_wp2_with (go_at_call 29; refine HWS.out.mono ?_; rintro e w6 ⟨rfl, hb6, hB6⟩; have HB6 := Lib.hid hb6; have HBW6 := Lib.hid (HB5.out.trans hB6); clear hb6 hB6)
        go_roundw
        case rel =>
          refine ⟨k + 1, by omega, by rw [Tess.lastOf_succ, HGD.out], by go_num, .inr ?_, HBW6.out⟩
          have := HB6.out
          rw [strCells_eq, ← HOW.out, HONE.out] at this
          rw [show Tess.encTo l (k + 1) = Tess.encTo l k ++ Tess.one (Tess.lastOf l k) (l.getD k Tess.w0) from rfl, ← HLX.out, HGD.out, ← List.append_assoc]
          unfold Lib.byteCells at *
          rw [List.map_append]
          exact this
        case measure => simp [intOf]; omega
      · have hki : ¬ (k : Int) < (l.length : Int) := by omega
        obtain rfl : k = l.length := by omega
        have hst := Tryd.Builder_String_any w.heap.size w1.heap.size (Tess.putL l.length ++ Tess.encTo l l.length) wr HBD.out HBW.out.size
        have HST := Lib.hid hst
        clear hst
        go_wp2_with (go_at_call 32; refine HST.out.mono ?_; rintro e w6 ⟨rfl, hB6⟩; have HB6 := Lib.hid hB6; clear hB6)
        go_ret2
        exact ⟨rfl, HBW.out.trans HB6.out⟩
end Go.Proofs.YtpbecldgoimkmaaDoor
