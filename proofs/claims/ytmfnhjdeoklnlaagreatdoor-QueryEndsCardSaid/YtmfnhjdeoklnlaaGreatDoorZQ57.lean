/- Joined by mergeQ.py: Q57 -/
import Derived.Test.YtmfnhjdeoklnlaaGreatDoorZQI
namespace Go.Proofs.YtmfnhjdeoklnlaaGreatDoor
open Go.RowKit Go.Sort
open Tess (Tok Fil Que)
theorem cutN15 (n : Nat) (x : ByteArray) : (x.extract 0 (min (x.size : Int) n).toNat).size ≤ n := by
  have : (x.extract 0 (min (x.size : Int) n).toNat).size ≤ (min (x.size : Int) n).toNat := by simp; omega
  omega
def plainB (s : ByteArray) : Bool := decide (34 ∉ s.data.toList)
theorem plainB_no {s : ByteArray} {k : Nat} (h : k < s.size) (e : s[k] = 34) : plainB s = false := by
  unfold plainB
  rw [decide_eq_false_iff_not, Decidable.not_not]
  have hk : k < s.data.toList.length := by have h1 : s.data.toList.length = s.size := Array.length_toList; omega
  have : s.data.toList[k] = 34 := e
  exact this ▸ List.getElem_mem hk
theorem plainB_yes {s : ByteArray} (h : ∀ j (hj : j < s.size), s[j] ≠ 34) : plainB s = true := by
  unfold plainB
  rw [decide_eq_true_eq]
  intro hm
  obtain ⟨j, hj, e⟩ := List.getElem_of_mem hm
  have hj' : j < s.size := by have h1 : s.data.toList.length = s.size := Array.length_toList; omega
  exact h j hj' e
set_option maxRecDepth 100000 in
set_option maxHeartbeats 4000000 in
theorem plain15_any (s : ByteArray) (w : World) (hs : s.size ≤ 2000) : Calls Tryz.prog 14 #[.string s] w fun e w' => e = .returned (.bool (plainB s)) ∧ Below w.heap.size w w' := by
  go_enter Tryz.func14, Tryz.ntmps14
  go_wp2
  go_loopw [3] (fun i wr => ∃ k : Nat, k ≤ s.size ∧ i = .int .i64 k ∧ (∀ j (h : j < s.size), j < k → s[j] ≠ 34) ∧ Below w.heap.size w wr) (fun i _ => s.size - (intOf i).toNat)
  case atStart => exact ⟨0, Nat.zero_le _, rfl, fun j _ h => by omega, Below.refl _ _⟩
  case round =>
    obtain ⟨k, hk, rfl, hall, hB⟩ := hrel
    have HB := Lib.hid hB
    have HA := Lib.hid hall
    clear hB hall
    by_cases h1 : k < s.size
    · have h1i : (k : Int) < (s.size : Int) := by omega
      have HK := Lib.hid h1
      by_cases he : s[k] = 34
      · have he1 : ((s[k].toNat : Int) == 34) = true := by rw [he]; rfl
        have HN := Lib.hid (plainB_no h1 he)
        clear he
        go_wp2
        try (go_quiet (fail); go_wp2)
        go_ret
        first
          | exact ⟨by rw [HN.out]; rfl, HB.out⟩
          | exact ⟨by rw [HN.out]; rfl, below_drewN HB.out _⟩
      · have he1 : ((s[k].toNat : Int) == 34) = false := by
          rw [beq_eq_false_iff_ne]
          intro h
          exact he (UInt8.toNat_inj.1 (by show s[k].toNat = 34; omega))
        have HE := Lib.hid he
        clear he
        go_wp2
        try (go_quiet (fail); go_wp2)
        go_roundw
        case rel =>
          have hh : ∀ j (h : j < s.size), j < k + 1 → s[j] ≠ 34 := fun j h hj => by
            by_cases e : j = k
            · subst e; exact HE.out
            · exact HA.out j h (by omega)
          first
            | exact ⟨k + 1, by have := HK.out; omega, by go_num, hh, HB.out⟩
            | exact ⟨k + 1, by have := HK.out; omega, by go_num, hh, below_drewN HB.out _⟩
        case measure => have := HK.out; simp [intOf]; omega
    · have h1i : ¬ (k : Int) < (s.size : Int) := by omega
      have HN := Lib.hid (plainB_yes fun j h => HA.out j h (by omega))
      go_wp2
      go_ret
      exact ⟨by rw [HN.out]; rfl, HB.out⟩
theorem ends1 (s : ByteArray) : (s ++ ⟨#[32, 59]⟩).data.toList = s.data.toList ++ [32, 59] := by simp [ByteArray.data_append]
theorem ends2 (s m : ByteArray) : ((s ++ ⟨#[32, 59]⟩) ++ m).data.toList = s.data.toList ++ 32 :: 59 :: m.data.toList := by simp [ByteArray.data_append]
set_option maxRecDepth 100000 in
set_option maxHeartbeats 8000000 in
theorem QueryEnds_any (s more : ByteArray) (w : World) (hV : Vy w) (hs : s.size ≤ maxLen) (hm : more.size ≤ maxLen) : Calls Tryz.prog 6 #[.string s, .string more] w fun e w' => e = .returned (.bool true) ∧ Below w.heap.size w w' := by
  unfold maxLen at hs hm
  have hSz : (s.extract 0 (min (s.size : Int) 2000).toNat).size ≤ 2000 := cutN15 2000 s
  have hMz : (more.extract 0 (min (more.size : Int) 1900).toNat).size ≤ 1900 := cutN15 1900 more
  have HSH := Lib.hid (fun W (h : Below w.heap.size w W) => shown15_any W (hV.below h))
  have hSem : (⟨#[32, 59]⟩ : ByteArray).size = 2 := rfl
  have HP1 := Lib.hid (fun W (h : Below w.heap.size w W) => parse_any (s.extract 0 (min (s.size : Int) 2000).toNat ++ ⟨#[32, 59]⟩) W (hV.below h) (by rw [ByteArray.size_append]; omega))
  have HP2 := Lib.hid (fun W (h : Below w.heap.size w W) => parse_any ((s.extract 0 (min (s.size : Int) 2000).toNat ++ ⟨#[32, 59]⟩) ++ more.extract 0 (min (more.size : Int) 1900).toNat) W (hV.below h) (by rw [ByteArray.size_append, ByteArray.size_append]; omega))
  unfold ParsePost at HP1 HP2
  obtain ⟨S, hS⟩ : ∃ S, s.extract 0 (min (s.size : Int) 2000).toNat = S := ⟨_, rfl⟩
  obtain ⟨M, hM⟩ : ∃ M, more.extract 0 (min (more.size : Int) 1900).toNat = M := ⟨_, rfl⟩
  rw [hS] at HP1 hSz
  rw [hS, hM] at HP2
  rw [hM] at hMz
  have HPE := Lib.hid (fun (h : 34 ∉ S.data.toList) => Tess.Prs.parse_ends (ends1 S) (ends2 S M) hSz hMz h)
  have HPL := Lib.hid (fun W => plain15_any S W hSz)
  clear hV hSem
  go_enter Tryz.func6, Tryz.ntmps6
  go_wp2_with (fail)
  go_at_call 9
  refine (HSH.out _ (Below.refl _ _)).mono ?_
  rintro e w0 ⟨rfl, hB0⟩
  have HB0 := Lib.hid hB0
  clear hB0
  go_wp2_with (fail)
  try rw [hS]
  go_at_call 14
  refine (HPL.out _).mono ?_
  rintro e wp ⟨rfl, hBp⟩
  have HBp := Lib.hid (Bt HB0.out hBp)
  have Hb := Lib.hid (fun (h : plainB S = true) => of_decide_eq_true h)
  clear hBp
  cases hb : plainB S with
  | false =>
    go_wp2
    go_ret
    exact ⟨rfl, HBp.out⟩
  | true =>
    obtain ⟨p, hp, hp1, hp2⟩ := HPE.out (Hb.out hb)
    rw [hp1] at HP1
    rw [hp2] at HP2
    simp only at HP1 HP2
    clear hp1 hp2
    generalize Tess.Prs.noQue = q at *
    have HS := Lib.hid hS
    have HM := Lib.hid hM
    clear hS hM
    have f1 : (decide ((p : Int) < 0)) = false := by simp
    have f2 : (decide ((S.size : Int) + 1 < (p : Int))) = false := by simp; omega
    have f3 : (decide (S.size + 1 < p)) = false := by simp; omega
    go_wp2_with (fail)
    try rw [HS.out]
    go_at_call 12
    refine (HP1.out _ HBp.out).mono ?_
    rintro e w1 ⟨u0, u1, u2, u3, u4, u5, u6, u7, u8, u9, ua, rfl, hq1, hB1⟩
    have HQ1 := Lib.hid hq1
    obtain ⟨a1, ac1, a2, ac2, a3, ac3, a4, an4, ac4, a5, ac5, a6, ac6, a7, ac7, rfl, rfl, rfl, rfl, rfl, rfl, rfl, rfl, rfl, rfl, rfl⟩ := hq1.shapesS
    obtain ⟨m1, m2, m3⟩ := laid1 w1 (.cells #[.slice a1 q.aggs.length ac1, .slice a2 q.names.length ac2, .int .i64 q.mode, .slice a3 q.sets.length ac3, .int .i64 q.every, .int .i64 q.fil.kind, .string q.fil.name, .slice a4 an4 ac4, .int .i64 q.fil.frm, .int .i64 q.fil.to, .slice a5 q.fil.l.length ac5, .slice a6 q.conds.length ac6, .slice a7 q.keys.length ac7, .int .i64 q.limit] 33)
    obtain ⟨W1, hW1⟩ : ∃ W1, w1.alloc (.cells #[.slice a1 q.aggs.length ac1, .slice a2 q.names.length ac2, .int .i64 q.mode, .slice a3 q.sets.length ac3, .int .i64 q.every, .int .i64 q.fil.kind, .string q.fil.name, .slice a4 an4 ac4, .int .i64 q.fil.frm, .int .i64 q.fil.to, .slice a5 q.fil.l.length ac5, .slice a6 q.conds.length ac6, .slice a7 q.keys.length ac7, .int .i64 q.limit] 33) = W1 := ⟨_, rfl⟩
    rw [hW1] at m1 m2 m3
    have HK1 := Lib.hid m1
    have HB1 := Lib.hid (Bt HBp.out (hB1))
    have HC1 := Lib.hid (Bt HB1.out m3)
    have HM1 := Lib.hid m3
    clear hq1 hB1 m1 m2 m3
    obtain ⟨⟨c0, c1, c2, c3, c4, c5, c6, c7, c8, c9, ca, cb, cc, cd⟩, _⟩ := can14 HK1.out
    go_wp2_with (fail)
    try rw [HM.out]
    go_at_call 12
    refine (HP2.out _ HC1.out).mono ?_
    rintro e w4 ⟨u0, u1, u2, u3, u4, u5, u6, u7, u8, u9, ua, rfl, hq4, hB4⟩
    have HQ4 := Lib.hid hq4
    obtain ⟨b1, bc1, b2, bc2, b3, bc3, b4, bn4, bc4, b5, bc5, b6, bc6, b7, bc7, rfl, rfl, rfl, rfl, rfl, rfl, rfl, rfl, rfl, rfl, rfl⟩ := hq4.shapesS
    obtain ⟨m1, m2, m3⟩ := laid1 w4 (.cells #[.slice b1 q.aggs.length bc1, .slice b2 q.names.length bc2, .int .i64 q.mode, .slice b3 q.sets.length bc3, .int .i64 q.every, .int .i64 q.fil.kind, .string q.fil.name, .slice b4 bn4 bc4, .int .i64 q.fil.frm, .int .i64 q.fil.to, .slice b5 q.fil.l.length bc5, .slice b6 q.conds.length bc6, .slice b7 q.keys.length bc7, .int .i64 q.limit] 33)
    obtain ⟨W4, hW4⟩ : ∃ W4, w4.alloc (.cells #[.slice b1 q.aggs.length bc1, .slice b2 q.names.length bc2, .int .i64 q.mode, .slice b3 q.sets.length bc3, .int .i64 q.every, .int .i64 q.fil.kind, .string q.fil.name, .slice b4 bn4 bc4, .int .i64 q.fil.frm, .int .i64 q.fil.to, .slice b5 q.fil.l.length bc5, .slice b6 q.conds.length bc6, .slice b7 q.keys.length bc7, .int .i64 q.limit] 33) = W4 := ⟨_, rfl⟩
    rw [hW4] at m1 m2 m3
    have HK4 := Lib.hid m1
    have HB4 := Lib.hid (Bt HC1.out (hB4))
    have HC4 := Lib.hid (Bt HB4.out m3)
    have HM4 := Lib.hid m3
    clear hq4 hB4 m1 m2 m3
    go_wp2
    go_ret
    exact ⟨rfl, HC4.out⟩
end Go.Proofs.YtmfnhjdeoklnlaaGreatDoor
