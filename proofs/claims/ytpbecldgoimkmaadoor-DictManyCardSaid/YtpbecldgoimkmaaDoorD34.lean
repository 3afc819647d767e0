/- The program's Build. -/
import Derived.Test.YtpbecldgoimkmaaDoorD33
import Derived.Test.YtpbecldgoimkmaaDoorD34p
import Derived.Sort.OwnSorted
import Derived.Lib.OwnBridge
import Derived.Laws.CopyOwn
namespace Go.Proofs.YtpbecldgoimkmaaDoor
open Go.RowKit Go.Sort Go.Shelf

theorem sort_own (base g cap : Nat) (ss : List (List UInt8)) (w : World) (h : w.ownsRow base 9 1 (.slice (some ⟨g, 0, none⟩) ss.length cap) ss.length (ss.map encStr)) (hsz : ss.length < 4611686018427387904) :
    Calls Tryd.prog 50 #[.slice (some ⟨g, 0, none⟩) ss.length cap] w fun e w' => e = .returned (.tuple #[]) ∧ w'.ownsRow base 9 1 (.slice (some ⟨g, 0, none⟩) ss.length cap) ss.length ((ss.mergeSort fun x y => decide (x ≤ y)).map encStr) ∧ Below base w w' := by
  obtain ⟨_, ⟨hv, _⟩ | ⟨g', cap', cur, hv, hbase, hb, h1, h2, h3, h4⟩⟩ := h
  · cases hv
  · cases hv
    refine (Tryd.slices_Sort_string g 0 cap ss w (holds_of_block hb (by simpa using h4)) (Array.getElem?_eq_some_iff.1 hb).1 hsz).mono ?_
    rintro e w' ⟨rfl, n, os, rfl⟩
    exact ⟨rfl, ownsRow_sorted (by simp) hbase hb h1 h2 h3, (Below.refl _ _).grown (grownBy_sorted _) (Nat.le_trans hbase (Nat.le_of_lt (Array.getElem?_eq_some_iff.1 hb).1)) (fun k e => by cases e; exact hbase)⟩

theorem compact_own (base g cap : Nat) (ss : List (List UInt8)) (w : World) (h : w.ownsRow base 9 1 (.slice (some ⟨g, 0, none⟩) ss.length cap) ss.length (ss.map encStr)) (hsz : ss.length ≤ 9223372036854775807) :
    Calls Tryd.prog 51 #[.slice (some ⟨g, 0, none⟩) ss.length cap] w fun e w' => e = .returned (.slice (some ⟨g, 0, none⟩) (Lib.compact ss).length cap) ∧ w'.ownsRow base 9 1 (.slice (some ⟨g, 0, none⟩) (Lib.compact ss).length cap) (Lib.compact ss).length ((Lib.compact ss).map encStr) ∧ Below base w w' := by
  have h0 := h
  obtain ⟨g', cap', hv, hbase, hlt, hn, hm, hl, hH⟩ := Lib.holds_of_ownsRow h (by intro e; cases e)
  cases hv
  refine (Tryd.slices_Compact_string g 0 cap ss w hH hsz hn).mono ?_
  rintro e w' ⟨rfl, q, rfl⟩
  have hle := Lib.compact_length_le ss
  have h5 := Lib.ownsRow_putRow (q := q) (k := (Lib.compact ss).length) (ys := Lib.compact ss ++ List.replicate (ss.length - (Lib.compact ss).length) []) h0 (by simp; omega) hle
  rw [List.take_left] at h5
  exact ⟨rfl, h5, Lib.below_putRow (Below.refl _ _) hbase⟩

theorem enc_bytes (l : List ByteArray) : (Tess.bytesOf l).map encStr = l.map .string := Lib.map_encStr l
theorem enc_back (l : List (List UInt8)) : (l.map fun b => (⟨b.toArray⟩ : ByteArray)).map Value.string = l.map encStr := by rw [List.map_map]; rfl

set_option maxRecDepth 100000 in
set_option maxHeartbeats 4000000 in
theorem build_any (v : Value) (l : List ByteArray) (w : World) (hv : SlOf w v (l.map .string)) (hll : l.length ≤ 10000) : Calls Tryd.prog 25 #[v] w (BuildPost l w) := by
  obtain ⟨i0, hi, hz0, hz1, hz2⟩ := info_parts infoStr
  have HCL := Lib.hid (contains_long v l w hv)
  obtain ⟨a, cap, rfl, hlen, hc⟩ := sls_open hv
  have HV := Lib.hid hv
  clear hc hv
  unfold BuildPost
  go_enter Tryd.func25, Tryd.ntmps25
  go_wp2
  refine wp_scope_fwd 0 rfl ?_
  by_cases hlong : l.any Tess.isLong = true
  · rw [hlong] at HCL
    go_wp2_with (go_at_call 48; refine HCL.out.mono ?_; rintro e w2 ⟨rfl, hB⟩; have HB := Lib.hid hB; clear hB)
    go_step3
    refine Exit.then_goto (Exit.fwd_goto ?_)
    go_wp2
    rw [Exit.noGoto_ret]
    go_ret2
    have e : Tess.buildW l = ([], 50) := by unfold Tess.buildW; rw [if_pos hlong]
    rw [e]
    exact ⟨_, rfl, SlOf.nil _, HB.out⟩
  · have hlf : l.any Tess.isLong = false := by simpa using hlong
    rw [hlf] at HCL
    have hsz1 : (Tryd.prog.info? 9).map (·.size) = some 1 := by rw [hi]; simp [hz1]
    have hb16 : i0.bytes * l.length ≤ 281474976710656 := by rw [hz2]; omega
    have hml : l.length ≤ maxLen := by unfold maxLen; omega
    obtain ⟨cs, hcs⟩ : ∃ cs, cs = l.map Value.string := ⟨_, rfl⟩
    have hcsl : cs.length = l.length := by rw [hcs, List.length_map]
    have HCS := Lib.hid hcs
    have hone : ∀ v ∈ cs, v.oneCell' = true := by rw [hcs]; intro v hv; obtain ⟨x, _, rfl⟩ := List.mem_map.1 hv; rfl
    have HONE := Lib.hid hone
    clear hcs hone
    go_wp2_with (first
      | (go_at_call 48; refine HCL.out.mono ?_; rintro e w2 ⟨rfl, hB⟩; have HB := Lib.hid hB; have HV2 := Lib.hid (HV.out.below hB); clear hB)
      | (refine wpList_make_row (.tmp 8) (.tmp 8) 22 rfl 9 i0 (.string ByteArray.empty) Tryd.underlying22 hi hz0 hz1 rfl .i64 .i64 l.length rfl rfl hb16 hml ?_))
    intro w3 hB3 hlt3 hrow3
    have hsl3 := HV2.out.below hB3
    have hB30 := Bt HB.out hB3
    have hg2 : w.heap.size ≤ w2.heap.size := HB.out.size
    have HRW := Lib.hid (show w3.heap[w2.heap.size]? = some (.cells (List.replicate l.length (Value.string ByteArray.empty)).toArray 9 (0, 0)) by rw [hrow3]; simp)
    generalize w2.heap.size = g at *
    have HB3 := Lib.hid hB30
    have HV3 := Lib.hid hsl3
    clear HB HV2 hrow3 hsl3 hB30 hB3
    go_wp2_with (refine wpList_copy_splice rfl (.tmp 10) (.tmp 11) 22 22 rfl 9 Tryd.underlying22 hsz1 _ _ _ _ _ _ rfl rfl g 0 _ _ HRW.out cs ?_ ?_ ?_ HONE.out w.heap.size w HB3.out hg2 ?_)
    · simpa using hcsl
    · intro hpos
      obtain ⟨a', cap', hv', _, hc'⟩ := sls_open HV3.out
      obtain ⟨b, off, ha, _, _⟩ := hc' 0 (by omega)
      cases hv'
      try refine ⟨rfl, ?_⟩
      refine ⟨⟨b, off, none⟩, ha, fun j v hj => ?_⟩
      rw [HCS.out] at hj
      obtain ⟨hjl, rfl⟩ := List.getElem?_eq_some_iff.1 hj
      obtain ⟨b', off', ha', _, hcell⟩ := hc' j (by simpa using hjl)
      rw [ha] at ha'
      cases ha'
      rw [addr_add, hcell]
      simp
    · simp; omega
    intro w4 hr4 hB4
    have hsp : splice (List.replicate l.length (Value.string ByteArray.empty)) 0 cs = (Tess.bytesOf l).map encStr := by
      rw [enc_bytes, ← HCS.out]
      unfold splice
      simp; omega
    have hown4 : w4.ownsRow w.heap.size 9 1 (.slice (some ⟨g, 0, none⟩) (Tess.bytesOf l).length l.length) (Tess.bytesOf l).length ((Tess.bytesOf l).map encStr) := by
      have hl2 : (Tess.bytesOf l).length = l.length := by unfold Tess.bytesOf; simp
      refine ⟨by simp, .inr ⟨g, l.length, _, rfl, hg2, hr4.out, by omega, hml, ?_, ?_⟩⟩
      · rw [hsp]; simp [hl2]
      · rw [hsp, Nat.mul_one]; exact List.take_of_length_le (by simp)
    have hbl : (Tess.bytesOf l).length = l.length := by unfold Tess.bytesOf; simp
    have hso := sort_own w.heap.size g l.length (Tess.bytesOf l) w4 hown4 (by rw [hbl]; omega)
    rw [hbl] at hso
    have hco : ∀ W : World, W.ownsRow w.heap.size 9 1 (.slice (some ⟨g, 0, none⟩) l.length l.length) l.length ((Tess.sortB l).map encStr) →
        Calls Tryd.prog 51 #[.slice (some ⟨g, 0, none⟩) l.length l.length] W fun e w' => e = .returned (.slice (some ⟨g, 0, none⟩) (Tess.sortW l).length l.length) ∧ SlOf w' (.slice (some ⟨g, 0, none⟩) (Tess.sortW l).length l.length) ((Tess.sortW l).map .string) ∧ Below w.heap.size W w' := fun W hW => by
      have h := compact_own w.heap.size g l.length (Tess.sortB l) W (by rw [Tess.sortB_len]; exact hW) (by rw [Tess.sortB_len]; omega)
      rw [Tess.sortB_len, Tess.sortW_len] at h
      refine h.mono ?_
      rintro e w' ⟨he, ho, hb⟩
      refine ⟨he, ?_, hb⟩
      have hs := SlOf.owned ho
      rw [← enc_back] at hs
      exact hs
    have hsw : (Tess.sortW l).length ≤ l.length := by
      rw [← Tess.sortW_len, ← Tess.sortB_len]; exact Lib.compact_length_le _
    have HD := Lib.hid (show Tess.buildW l = if 1000 < (Tess.sortW l).length then ([], 50) else (Tess.sortW l, 0) by
      rw [← Tess.built_sort]; unfold Tess.buildW; rw [if_neg hlong])
    have HSO := Lib.hid (show Calls Tryd.prog 50 #[.slice (some ⟨g, 0, none⟩) l.length l.length] w4 fun e w' => e = .returned (.tuple #[]) ∧ w'.ownsRow w.heap.size 9 1 (.slice (some ⟨g, 0, none⟩) l.length l.length) l.length ((Tess.sortB l).map encStr) ∧ Below w.heap.size w4 w' from hso)
    have HCO := Lib.hid hco
    have HB4 := Lib.hid hB4
    clear hso hco hown4 hr4 hB4 hsp HRW HB3 HV3 HCS HONE HCL HV hlong hlf hcsl
    generalize Tess.sortW l = sl at *
    by_cases h1000 : 1000 < sl.length
    · have h1i : ¬ (sl.length : Int) ≤ 1000 := by omega
      rw [if_pos h1000] at HD
      go_wp2_with (first
        | (go_at_call 50; refine HSO.out.mono ?_; rintro e w5 ⟨rfl, hO, hB⟩; have HB5 := Lib.hid (HB4.out.trans hB); have HO5 := Lib.hid hO; clear hB hO)
        | (go_at_call 51; refine (HCO.out _ HO5.out).mono ?_; rintro e w6 ⟨rfl, hS, hB⟩; have HB6 := Lib.hid (HB5.out.trans hB); have HS6 := Lib.hid hS; clear hB hS))
      refine wp_label ?_
      go_wp2
      rw [Exit.fwd_ret]
      go_ret2
      rw [HD.out]
      exact ⟨_, rfl, SlOf.nil _, HB6.out⟩
    · have h1i : (sl.length : Int) ≤ 1000 := by omega
      rw [if_neg h1000] at HD
      go_wp2_with (first
        | (go_at_call 50; refine HSO.out.mono ?_; rintro e w5 ⟨rfl, hO, hB⟩; have HB5 := Lib.hid (HB4.out.trans hB); have HO5 := Lib.hid hO; clear hB hO)
        | (go_at_call 51; refine (HCO.out _ HO5.out).mono ?_; rintro e w6 ⟨rfl, hS, hB⟩; have HB6 := Lib.hid (HB5.out.trans hB); have HS6 := Lib.hid hS; clear hB hS))
      rw [Exit.fwd_ret]
      go_ret2
      rw [HD.out]
      exact ⟨_, rfl, HS6.out, HB6.out⟩
end Go.Proofs.YtpbecldgoimkmaaDoor
