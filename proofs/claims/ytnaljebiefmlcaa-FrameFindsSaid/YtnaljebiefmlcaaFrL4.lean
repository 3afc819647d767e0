/- The law FrameFinds, walked. -/
import Derived.Test.YtnaljebiefmlcaaFr9
import Derived.Test.YtnaljebiefmlcaaFrP3
import Derived.OpenShut
namespace Go.Proofs.Ytnaljebiefmlcaa
open Go.RowKit Go.Sort

set_option maxHeartbeats 1000000 in
theorem FrameFinds_no (s : ByteArray) (n : Int) (ch : Int) (w : World) (hs : s.size ≤ maxLen) (h : n < 4 ∨ (8 + (cutS s).size : Int) ≤ n ∨ (4 ≤ n ∧ n < 8 + (cutS s).size ∧ ch = 0)) :
    Calls Try.prog 4 #[.string s, .int .i64 n, .int .u8 ch] w fun e w' => e = .returned (.bool true) ∧ Below w.heap.size w w' := by
  have hc := cutS_size s
  have hsz := Tess.mkf_size (cutS s)
  rcases h with h | h | ⟨h1, h2, rfl⟩
  all_goals
    go_enter Try.func4, Try.ntmps4
    go_wp2_with (first
      | (go_at_call 10; refine (shown_any _).mono ?_; rintro e w1 ⟨rfl, hB1⟩)
      | (go_at_call 11; refine (cut_any _ _ hs).mono ?_; rintro e w' ⟨rfl, rfl⟩; generalize cutS s = c at *)
      | (go_at_call 12; refine (make_yes c _ (by omega)).mono ?_; rintro e w2 ⟨rfl, hB2⟩))
    go_ret
    exact ⟨rfl, Bt hB1 hB2⟩

theorem finds_cells {w3 : World} {g k : Nat} {L : List UInt8} {x ch : UInt8} (HC : ∀ (j : Nat) (x : UInt8), L[j]? = some x → w3.cell? ⟨g, j, none⟩ = some (.int .u8 (x.toNat : Int)) ∧ w3.frozen? ⟨g, j, none⟩ = false)
    (hk : L[k]? = some x) (i : Nat) (hi : i < L.length) : (w3.setCell ⟨g, k, none⟩ (.int .u8 ((x.toNat ^^^ ch.toNat : Nat) : Int))).cell? ⟨g, 0 + i, none⟩ = some (.int .u8 (((L.set k (x ^^^ ch)).map fun b => (b.toNat : Int)).getD i 0)) := by
  rw [Nat.zero_add, getD_at _ (by simpa using hi), List.getElem_map]
  by_cases e : k = i
  · subst e
    rw [World.cell?_setCell_same' _ _ _ (by rw [(HC k x hk).1]; rfl)]
    simp [UInt8.toNat_xor]
  · have h1 := (HC i L[i] (by rw [List.getElem?_eq_getElem])).1
    rw [List.getElem_set_ne e, ← h1]
    exact World.cell?_setCell_other _ _ _ _ (fun h => e (congrArg Addr.off h))

set_option maxHeartbeats 1000000 in
theorem FrameFinds_yes (s : ByteArray) (k : Nat) (ch : UInt8) (w : World) (hs : s.size ≤ maxLen) (h4 : 4 ≤ k) (hk : k < 8 + (cutS s).size) (hch : ch ≠ 0) :
    Calls Try.prog 4 #[.string s, .int .i64 k, .int .u8 (ch.toNat : Int)] w fun e w' => e = .returned (.bool true) ∧ Below w.heap.size w w' := by
  have hc := cutS_size s
  have hsz := Tess.mkf_size (cutS s)
  obtain ⟨x, hx⟩ : ∃ x, (Tess.mkf (cutS s)).data.toList[k]? = some x := ⟨(Tess.mkf (cutS s)).data.toList[k]'(by rw [Tess.size_list]; omega), by rw [List.getElem?_eq_getElem]⟩
  obtain ⟨B, hBl⟩ : ∃ B : ByteArray, B.data.toList = (Tess.mkf (cutS s)).data.toList.set k (x ^^^ ch) := ⟨⟨((Tess.mkf (cutS s)).data.toList.set k (x ^^^ ch)).toArray⟩, rfl⟩
  have hrd := Tess.rd_set (cutS s) (by omega) k h4 ch hch B x hx hBl
  have hBs : B.size = 8 + (cutS s).size := by rw [← Tess.size_list, hBl, List.length_set, Tess.size_list, hsz]
  have hr : ∀ w, Calls Try.prog 14 #[.string B] w fun e w' => e = .returned (.tuple #[.string ⟨#[]⟩, .string B, .int .i64 31]) ∧ Below w.heap.size w w' :=
    fun w => (read_any B w (by unfold maxLen; omega)).mono fun _ _ ⟨he, hb⟩ => ⟨by rw [he, hrd]; rfl, hb⟩
  have HRR := Lib.hid hr
  have HX := Lib.hid hx
  have HBL := Lib.hid hBl
  have HBS := Lib.hid hBs
  have hn0 : (((ch.toNat : Nat) : Int) == 0) = false := by
    rw [beq_eq_false_iff_ne]
    intro e
    exact hch (UInt8.toNat_inj.1 (by show ch.toNat = 0; omega))
  have hxb := x.toNat_lt
  have hcb := ch.toNat_lt
  have exor := u8_xor_nat x.toNat ch.toNat (by omega) (by omega)
  have hk2 : k < (Tess.mkf (cutS s)).size := by omega
  clear hr hrd hx hBl hBs
  go_enter Try.func4, Try.ntmps4
  go_wp2_with (first
    | (go_at_call 10; refine (shown_any _).mono ?_; rintro e w1 ⟨rfl, hB1⟩)
    | (go_at_call 11; refine (cut_any _ _ hs).mono ?_; rintro e w' ⟨rfl, rfl⟩; generalize cutS s = c at *)
    | (go_at_call 12; refine (make_yes c _ (by omega)).mono ?_; rintro e w2 ⟨rfl, hB2⟩)
    | (refine wpList_string_bytes rfl _ _ 5 _ rfl Try.underlying9 Try.underlying32 Try.underlying5 _ rfl ?_; intro w3 cap hB3 hlt3 hcells; obtain ⟨hck, hfk⟩ := hcells k x HX.out; have HC := Lib.hid hcells; clear hcells)
    | (refine wpList_bytes_string rfl _ _ 5 _ rfl Try.underlying32 Try.underlying5 Try.underlying9 w2.heap.size 0 (8 + c.size) cap rfl (B.data.toList.map fun b => (b.toNat : Int)) ?_ ?_ ?_
       · rw [List.length_map, Tess.size_list, HBS.out]
       · first
           | exact fun i hi => (hB4.cell (p := ⟨w2.heap.size, 0 + i, none⟩) (by simp; omega)).trans (by rw [HBL.out]; exact finds_cells HC.out HX.out i (by rw [Tess.size_list]; omega))
           | exact fun i hi => by rw [HBL.out]; exact finds_cells HC.out HX.out i (by rw [Tess.size_list]; omega)
       rw [strOfNums_list])
    | (go_at_call 14; refine (HRR.out _).mono ?_; rintro e w4 ⟨rfl, hB4⟩))
  go_ret
  exact ⟨rfl, Bt ((Bt (Bt hB1 hB2) hB3).setCell (p := ⟨w2.heap.size, k, none⟩) (Bt hB1 hB2).size _) hB4⟩

theorem FrameFinds_any (s : ByteArray) (n : Int) (ch : Int) (w : World) (hs : s.size ≤ maxLen) (hn : (Lit.int .i64 n).wf = true) (hc : (Lit.int .u8 ch).wf = true) :
    Calls Try.prog 4 #[.string s, .int .i64 n, .int .u8 ch] w fun e w' => e = .returned (.bool true) ∧ Below w.heap.size w w' := by
  by_cases h : n < 4 ∨ (8 + (cutS s).size : Int) ≤ n ∨ (4 ≤ n ∧ n < 8 + (cutS s).size ∧ ch = 0)
  · exact FrameFinds_no s n ch w hs h
  · have hb := bounds_u8 hc
    obtain ⟨k, rfl⟩ := Int.eq_ofNat_of_zero_le (show 0 ≤ n by omega)
    obtain ⟨c, rfl⟩ := Int.eq_ofNat_of_zero_le hb.1
    have e : c = (UInt8.ofNat c).toNat := by simp; omega
    have := FrameFinds_yes s k (UInt8.ofNat c) w hs (by omega) (by omega) (by intro e2; have e3 := congrArg UInt8.toNat e2; rw [← e] at e3; have e4 : (0 : UInt8).toNat = 0 := rfl; omega)
    rw [← e] at this
    exact this
end Go.Proofs.Ytnaljebiefmlcaa
