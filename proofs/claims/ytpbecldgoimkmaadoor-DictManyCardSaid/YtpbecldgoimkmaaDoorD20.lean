/- The document's Encode. -/
import Derived.Test.YtpbecldgoimkmaaDoorD19
namespace Tess
def sW (l : List ByteArray) (k : Nat) : ByteArray := ⟨(putL l.length ++ encTo l k).toArray⟩
theorem sW_zero (l : List ByteArray) : sW l 0 = putW l.length := by unfold sW putW; rw [show putL l.length ++ encTo l 0 = putL l.length from List.append_nil _]
theorem sW_succ (l : List ByteArray) (k : Nat) : sW l (k + 1) = sW l k ++ oneW (lastOf l k) (l.getD k w0) := by
  apply ByteArray.ext; apply Array.toList_inj.1
  rw [ByteArray.data_append, Array.toList_append, oneW_list]
  unfold sW
  simp only [show encTo l (k + 1) = encTo l k ++ one (lastOf l k) (l.getD k w0) from rfl, List.append_assoc]
theorem sW_size (l : List ByteArray) (h : right l = true) (k : Nat) (hk : k ≤ l.length) : (sW l k).size ≤ 10 + 120 * k := by
  have h1 := encTo_len l h k hk
  have h2 := putL_len l.length 9 (by have := right_len l h; omega)
  show (putL l.length ++ encTo l k).length ≤ _
  rw [List.length_append]; omega
theorem sW_end (l : List ByteArray) (h : right l = true) : encW l = (sW l l.length, 0) := by unfold encW; rw [h]; rfl
end Tess
namespace Go.Proofs.YtpbecldgoimkmaaDoor
open Go.RowKit Go.Sort Go.Shelf

set_option maxRecDepth 100000 in
set_option maxHeartbeats 4000000 in
theorem rencode_any (v : Value) (l : List ByteArray) (w : World) (hv : SlOf w v (l.map .string)) (hl : ∀ y ∈ l, y.size ≤ maxLen) : Calls Tryd.prog 13 #[v] w (EncPost l w) := by
  have hri := rright_any v l w hv hl
  unfold EncPost
  cases hr : Tess.right l
  · rw [hr] at hri
    have HR := Lib.hid hri
    clear hri hv
    unfold Tess.encW
    rw [hr]
    go_enter Tryd.func13, Tryd.ntmps13
    go_wp2_with (go_at_call 27; refine HR.out.mono ?_; rintro e w1 ⟨rfl, hB1⟩; have HB := Lib.hid hB1; clear hB1)
    go_ret2
    exact ⟨rfl, HB.out⟩
  · rw [hr] at hri
    have HR := Lib.hid hri
    have hlen := Tess.right_len l hr
    have HSZ := Lib.hid (Tess.right_size l hr)
    have HLS := Lib.hid (Tess.lastOf_size l hr)
    have HSS := Lib.hid (Tess.sW_size l hr)
    have HEND := Lib.hid (Tess.sW_end l hr)
    obtain ⟨a, cap, rfl, hlen2, hc⟩ := sls_open hv
    have HC := Lib.hid hc
    clear hri hv hc hr hl
    have hwl : IntKind.u64.wrap (l.length : Int) = (l.length : Int) := by go_bits; first | trivial | omega
    go_enter Tryd.func13, Tryd.ntmps13
    go_wp2_with (first
      | (go_at_call 27; refine HR.out.mono ?_; rintro e w1 ⟨rfl, hB1⟩; have HB := Lib.hid hB1; clear hB1)
      | (go_at_call 33; refine (rput_any 9 l.length _ (by omega) (by omega)).mono ?_; rintro e w2 ⟨rfl, hB2⟩; have HB := Lib.hid (Bt HB.out hB2); clear hB2))
    go_loopw [4, 5, 6] (fun s4 s5 i wr => ∃ k : Nat, k ≤ l.length ∧ s4 = .string (Tess.sW l k) ∧ s5 = .string (Tess.lastOf l k) ∧ i = .int .i64 k ∧ Below w.heap.size w wr) (fun _ _ i _ => l.length - (intOf i).toNat)
    case atStart => exact ⟨0, Nat.zero_le _, by rw [Tess.sW_zero], rfl, rfl, HB.out⟩
    case round =>
      clear HB
      obtain ⟨k, hk, rfl, rfl, rfl, hB⟩ := hrel
      have HBW := Lib.hid hB
      clear hB
      have hss := HSS.out k hk
      by_cases hlt : k < l.length
      · obtain ⟨b, off, rfl, hb, hcell⟩ := HC.out k hlt
        have hck : wr.cell? ⟨b, off + k, none⟩ = some (.string l[k]) := (HBW.out.cell (p := ⟨b, off + k, none⟩) hb).trans hcell
        have hki : (k : Int) < (l.length : Int) := by omega
        have hy100 := HSZ.out k hlt
        have hx100 := HLS.out k hk
        rw [Tess.getD_lt l k hlt] at hy100
        have hgd := Tess.getD_lt l k hlt
        obtain ⟨y, hy⟩ : ∃ y, y = l[k] := ⟨_, rfl⟩
        rw [← hy] at hck hy100 hgd
        obtain ⟨x, hx⟩ : ∃ x, x = Tess.lastOf l k := ⟨_, rfl⟩
        rw [← hx] at hx100
        have hsh := (Tess.shared_le x y).2
        have HGD := Lib.hid hgd
        have HLX := Lib.hid hx
        rw [← hx]
        have HSUC := Lib.hid (Tess.sW_succ l k)
        obtain ⟨S, hS⟩ : ∃ S, S = Tess.sW l k := ⟨_, rfl⟩
        rw [← hS] at hss
        rw [← hS]
        have HSS2 := Lib.hid hS
        clear hcell hy hgd hx hS
        have c1 := fun W => rshared_any x y W (by unfold maxLen; omega)
        obtain ⟨n, hn⟩ : ∃ n, n = Tess.shared x y := ⟨_, rfl⟩
        rw [← hn] at c1 hsh
        have c2 := fun W => rput_any 9 n W (by omega) (by omega)
        have c3 := fun W => rput_any 9 (y.size - n) W (by omega) (by omega)
        have hA := Tess.putW_size n (by omega)
        have hCC := Tess.putW_size (y.size - n) (by omega)
        have HOW := Lib.hid (show Tess.oneW x y = (Tess.putW n ++ Tess.putW (y.size - n)) ++ y.extract n y.size by unfold Tess.oneW; rw [← hn])
        clear hn
        obtain ⟨d, hd⟩ : ∃ d, d = y.size - n := ⟨_, rfl⟩
        rw [← hd] at c3 hCC HOW
        have hdi : (y.size : Int) - (n : Int) = (d : Int) := by omega
        have hdn : d ≤ 100 := by omega
        have hni : (n : Int) ≤ (y.size : Int) := by omega
        clear hd
        obtain ⟨R, hR⟩ : ∃ R, R = y.extract n y.size := ⟨_, rfl⟩
        have hRs : R.size = y.size - n := by rw [hR]; simp
        obtain ⟨A, hAA⟩ : ∃ A, A = Tess.putW n := ⟨_, rfl⟩
        obtain ⟨C, hCe⟩ : ∃ C, C = Tess.putW d := ⟨_, rfl⟩
        rw [← hAA] at c2 hA HOW
        rw [← hCe] at c3 hCC HOW
        rw [← hR] at HOW
        have hR' : y.extract n y.size = R := hR.symm
        clear hR hAA hCe
        have C1 := Lib.hid c1
        have C2 := Lib.hid c2
        have C3 := Lib.hid c3
        clear c1 c2 c3
        have hwn : IntKind.u64.wrap (n : Int) = (n : Int) := by go_bits; first | trivial | omega
        have hwd : IntKind.i64.wrap (d : Int) = (d : Int) := by go_bits; first | trivial | omega
        have hwd2 : IntKind.u64.wrap (d : Int) = (d : Int) := by go_bits; first | trivial | omega
        have hcat0 : ¬ 9223372036854775807 < S.size + A.size := by omega
        have hcat1 : ¬ 9223372036854775807 < S.size + A.size + C.size := by omega
        have hcat2 : ¬ 9223372036854775807 < S.size + A.size + C.size + (y.size - n) := by omega
        have hbr0 : b < wr.heap.size := Nat.lt_of_lt_of_le hb HBW.out.size
        go_wp2_with (go_at_call 34; refine (C1.out _).mono ?_; rintro e w4 ⟨rfl, hB4⟩; have HB4 := Lib.hid hB4; clear hB4)
        have HBW4 := Lib.hid (Bt HBW.out HB4.out)
        have HCK := Lib.hid ((HB4.out.cell (p := ⟨b, off + k, none⟩) hbr0).trans hck)
        have hbr : b < w4.heap.size := Nat.lt_of_lt_of_le hbr0 HB4.out.size
        clear hck
        refine Flow.wp_region_flow (Flow.specs [.inl (.string S), .inl (.int .i64 n), .inl (.int .u64 n), .inl (.string A), .inl (.string (S ++ A)), .inl (.slice (some ⟨b, off, none⟩) l.length cap), .inl (.int .i64 k), .inl (.pointer (some ⟨b, off + k, none⟩)), .inl (.string y), .inl (.int .i64 (y.size : Nat)), .inl (.int .i64 n), .inl (.int .i64 d), .inl (.int .u64 d), .inl (.string C), .inl (.string ((S ++ A) ++ C)), .inl (.slice (some ⟨b, off, none⟩) l.length cap), .inl (.int .i64 k), .inl (.pointer (some ⟨b, off + k, none⟩)), .inl (.string y), .inl (.int .i64 n), .inl (.string R), .inl (.string (((S ++ A) ++ C) ++ R)), .inl (.string (((S ++ A) ++ C) ++ R))]) (by kernel_rfl) (by kernel_rfl) ?_ ?_
        · apply Flow.specs_mono; intro s hs; simp only [List.mem_cons, List.not_mem_nil, or_false] at hs
          rcases hs with rfl | rfl | rfl | rfl | rfl | rfl | rfl | rfl | rfl | rfl | rfl | rfl | rfl | rfl | rfl | rfl | rfl | rfl | rfl | rfl | rfl | rfl | rfl
          all_goals exact Flow.mono_inl _
        iterate 3 (refine Flow.tree_valK rfl (fun K hK => ⟨fun w hw hG => ?_, ?_⟩); (clear hG hw; unfold Flow.Runs Flow.yields; go_simp); go_simp; refine hK _ ?_; clear hK K)
        (refine Flow.tree_valK rfl (fun K hK => ⟨fun w hw hG => ?_, ?_⟩); (clear hG hw; unfold Flow.Runs Flow.yields; go_simp; exact Calls.mono (C2.out _) (fun e w' ⟨he, hb⟩ => ⟨he, hb⟩)); go_simp; refine hK _ ?_; clear hK K)
        iterate 4 (refine Flow.tree_valK rfl (fun K hK => ⟨fun w hw hG => ?_, ?_⟩); (clear hG hw; unfold Flow.Runs Flow.yields; go_simp); go_simp; refine hK _ ?_; clear hK K)
        (refine Flow.tree_valK rfl (fun K hK => ⟨fun w hw hG => ?_, ?_⟩); (have hcw := (hw.cell (p := ⟨b, off + k, none⟩) hbr).trans HCK.out; clear hG hw; unfold Flow.Runs Flow.yields; go_simp); go_simp; refine hK _ ?_; clear hK K)
        iterate 4 (refine Flow.tree_valK rfl (fun K hK => ⟨fun w hw hG => ?_, ?_⟩); (clear hG hw; unfold Flow.Runs Flow.yields; go_simp); go_simp; refine hK _ ?_; clear hK K)
        (refine Flow.tree_valK rfl (fun K hK => ⟨fun w hw hG => ?_, ?_⟩); (clear hG hw; unfold Flow.Runs Flow.yields; go_simp; exact Calls.mono (C3.out _) (fun e w' ⟨he, hb⟩ => ⟨he, hb⟩)); go_simp; refine hK _ ?_; clear hK K)
        iterate 4 (refine Flow.tree_valK rfl (fun K hK => ⟨fun w hw hG => ?_, ?_⟩); (clear hG hw; unfold Flow.Runs Flow.yields; go_simp); go_simp; refine hK _ ?_; clear hK K)
        (refine Flow.tree_valK rfl (fun K hK => ⟨fun w hw hG => ?_, ?_⟩); (have hcw := (hw.cell (p := ⟨b, off + k, none⟩) hbr).trans HCK.out; clear hG hw; unfold Flow.Runs Flow.yields; go_simp); go_simp; refine hK _ ?_; clear hK K)
        iterate 4 (refine Flow.tree_valK rfl (fun K hK => ⟨fun w hw hG => ?_, ?_⟩); (clear hG hw; unfold Flow.Runs Flow.yields; go_simp); go_simp; refine hK _ ?_; clear hK K)
        refine Flow.tree_nil fun w5 hw5 hG => ?_
        clear hG
        have HB5 := Lib.hid (Bt HBW4.out hw5)
        have hck : w5.cell? ⟨b, off + k, none⟩ = some (.string y) := (hw5.cell (p := ⟨b, off + k, none⟩) hbr).trans HCK.out
        clear hw5
        go_wp2
        go_roundw
        case rel =>
          refine ⟨k + 1, by omega, ?_, by rw [Tess.lastOf_succ, HGD.out], by go_num, HB5.out⟩
          rw [HSUC.out, HGD.out, ← HLX.out, HOW.out, ← HSS2.out]
          simp only [ByteArray.append_assoc]
        case measure => simp [intOf]; omega
      · have hki : ¬ (k : Int) < (l.length : Int) := by omega
        obtain rfl : k = l.length := by omega
        go_wp2
        go_ret2
        exact ⟨by rw [HEND.out]; rfl, HBW.out⟩
end Go.Proofs.YtpbecldgoimkmaaDoor
