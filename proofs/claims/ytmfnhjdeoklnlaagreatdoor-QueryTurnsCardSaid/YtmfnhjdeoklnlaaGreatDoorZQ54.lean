/- Joined by mergeQ.py: Q54 -/
import Derived.Test.YtmfnhjdeoklnlaaGreatDoorZQI
namespace Go.Proofs.YtmfnhjdeoklnlaaGreatDoor
open Go.RowKit Go.Sort
open Tess (Tok Fil Que)
theorem cut2000 (x : ByteArray) : (x.extract 0 (min (x.size : Int) 2000).toNat).size ≤ 2000 := by
  have : (x.extract 0 (min (x.size : Int) 2000).toNat).size ≤ (min (x.size : Int) 2000).toNat := by simp; omega
  omega
set_option maxRecDepth 100000 in
set_option maxHeartbeats 8000000 in
theorem QueryTurns_any (s : ByteArray) (w : World) (hV : Vy w) (hs : s.size ≤ maxLen) : Calls Tryz.prog 4 #[.string s] w fun e w' => e = .returned (.bool true) ∧ Below w.heap.size w w' := by
  unfold maxLen at hs
  have hSz := cut2000 s
  have HSH := Lib.hid (fun W (h : Below w.heap.size w W) => shown15_any W (hV.below h))
  have HP1 := Lib.hid (fun W (h : Below w.heap.size w W) => parse_any (s.extract 0 (min (s.size : Int) 2000).toNat) W (hV.below h) (by omega))
  unfold ParsePost at HP1
  obtain ⟨S, hS⟩ : ∃ S, s.extract 0 (min (s.size : Int) 2000).toNat = S := ⟨_, rfl⟩
  rw [hS] at HP1 hSz
  have HS := Lib.hid hS
  obtain ⟨⟨q, K, C⟩, hP⟩ : ∃ P, Tess.Prs.parse S = P := ⟨_, rfl⟩
  rw [hP] at HP1
  simp only at HP1
  by_cases hC : C = 0
  · subst hC
    obtain rfl := Tess.Prs.parse_ok hP
    obtain ⟨hg, hl⟩ := Tess.Prs.parse_good hSz hP
    have hsm := small_parsed hSz hP
    have hw := Tess.Prs.parse_written hg hl
    have hpr := Tess.Prs.print_some hw
    have HPR := Lib.hid (fun va vb vs f0 f1 f2 f3 f4 f5 vh vo v p W (h : Below w.heap.size w W) (hq : QueAt p 1000000 W v q va vb vs f0 f1 f2 f3 f4 f5 vh vo) => print_any p 1000000 v q va vb vs f0 f1 f2 f3 f4 f5 vh vo W (hV.below h) hq hsm)
    rw [hpr] at HPR
    have HP2 := Lib.hid (fun W (h : Below w.heap.size w W) => parse_any (Tok.ofL (Tess.Wr.written q)) W (hV.below h) (by rw [Tok.size_ofL]; omega))
    unfold ParsePost at HP2
    rw [hw] at HP2
    simp only at HP2 HPR
    generalize Tok.ofL (Tess.Wr.written q) = T at *
    clear hV hP hg hl hsm hw hpr hS hSz
    go_enter Tryz.func4, Tryz.ntmps4
    go_wp2_with (fail)
    go_at_call 9
    refine (HSH.out _ (Below.refl _ _)).mono ?_
    rintro e w0 ⟨rfl, hB0⟩
    have HB0 := Lib.hid hB0
    clear hB0
    have HE := Lib.hid HS.out
    go_wp2_with (fail)
    rw [HS.out]
    go_at_call 12
    refine (HP1.out _ HB0.out).mono ?_
    rintro e w1 ⟨u0, u1, u2, u3, u4, u5, u6, u7, u8, u9, ua, rfl, hq1, hB1⟩
    have HQ1 := Lib.hid hq1
    obtain ⟨a1, ac1, a2, ac2, a3, ac3, a4, an4, ac4, a5, ac5, a6, ac6, a7, ac7, rfl, rfl, rfl, rfl, rfl, rfl, rfl, rfl, rfl, rfl, rfl⟩ := hq1.shapesS
    obtain ⟨m1, m2, m3⟩ := laid1 w1 (.cells #[.slice a1 q.aggs.length ac1, .slice a2 q.names.length ac2, .int .i64 q.mode, .slice a3 q.sets.length ac3, .int .i64 q.every, .int .i64 q.fil.kind, .string q.fil.name, .slice a4 an4 ac4, .int .i64 q.fil.frm, .int .i64 q.fil.to, .slice a5 q.fil.l.length ac5, .slice a6 q.conds.length ac6, .slice a7 q.keys.length ac7, .int .i64 q.limit] 33)
    obtain ⟨W1, hW1⟩ : ∃ W1, w1.alloc (.cells #[.slice a1 q.aggs.length ac1, .slice a2 q.names.length ac2, .int .i64 q.mode, .slice a3 q.sets.length ac3, .int .i64 q.every, .int .i64 q.fil.kind, .string q.fil.name, .slice a4 an4 ac4, .int .i64 q.fil.frm, .int .i64 q.fil.to, .slice a5 q.fil.l.length ac5, .slice a6 q.conds.length ac6, .slice a7 q.keys.length ac7, .int .i64 q.limit] 33) = W1 := ⟨_, rfl⟩
    rw [hW1] at m1 m2 m3
    have HK1 := Lib.hid m1
    have HB1 := Lib.hid (Bt HB0.out (hB1))
    have HC1 := Lib.hid (Bt HB1.out m3)
    have HM1 := Lib.hid m3
    clear hq1 hB1 m1 m2 m3
    obtain ⟨⟨c0, c1, c2, c3, c4, c5, c6, c7, c8, c9, ca, cb, cc, cd⟩, _⟩ := can14 HK1.out
    go_wp2_with (fail)
    go_at_call 11
    refine (HPR.out _ _ _ _ _ _ _ _ _ _ _ _ _ W1 HC1.out (HQ1.out.ag (Ag.new _ HM1.out))).mono ?_
    rintro e w3 ⟨rfl, hB3⟩
    have HB3 := Lib.hid (Bt HC1.out hB3)
    have HM3 := Lib.hid (Bt HM1.out hB3)
    have HK3 := Lib.hid ((hB3.block _ (Array.getElem?_eq_some_iff.1 HK1.out).1).trans HK1.out)
    clear hB3 c0 c1 c2 c3 c4 c5 c6 c7 c8 c9 ca cb cc cd
    go_wp2_with (fail)
    go_at_call 12
    refine (HP2.out _ HB3.out).mono ?_
    rintro e w4 ⟨u0, u1, u2, u3, u4, u5, u6, u7, u8, u9, ua, rfl, hq4, hB4⟩
    have HQ4 := Lib.hid hq4
    obtain ⟨b1, bc1, b2, bc2, b3, bc3, b4, bn4, bc4, b5, bc5, b6, bc6, b7, bc7, rfl, rfl, rfl, rfl, rfl, rfl, rfl, rfl, rfl, rfl, rfl⟩ := hq4.shapesS
    obtain ⟨m1, m2, m3⟩ := laid1 w4 (.cells #[.slice b1 q.aggs.length bc1, .slice b2 q.names.length bc2, .int .i64 q.mode, .slice b3 q.sets.length bc3, .int .i64 q.every, .int .i64 q.fil.kind, .string q.fil.name, .slice b4 bn4 bc4, .int .i64 q.fil.frm, .int .i64 q.fil.to, .slice b5 q.fil.l.length bc5, .slice b6 q.conds.length bc6, .slice b7 q.keys.length bc7, .int .i64 q.limit] 33)
    obtain ⟨W4, hW4⟩ : ∃ W4, w4.alloc (.cells #[.slice b1 q.aggs.length bc1, .slice b2 q.names.length bc2, .int .i64 q.mode, .slice b3 q.sets.length bc3, .int .i64 q.every, .int .i64 q.fil.kind, .string q.fil.name, .slice b4 bn4 bc4, .int .i64 q.fil.frm, .int .i64 q.fil.to, .slice b5 q.fil.l.length bc5, .slice b6 q.conds.length bc6, .slice b7 q.keys.length bc7, .int .i64 q.limit] 33) = W4 := ⟨_, rfl⟩
    rw [hW4] at m1 m2 m3
    have HK4 := Lib.hid m1
    have hBX := hB4
    have HB4 := Lib.hid (Bt HB3.out (hB4))
    have HC4 := Lib.hid (Bt HB4.out m3)
    have HB4k := Lib.hid (Bt hBX m3)
    clear hBX
    have HM4 := Lib.hid m3
    clear hq4 hB4 m1 m2 m3
    obtain ⟨⟨c0, c1, c2, c3, c4, c5, c6, c7, c8, c9, ca, cb, cc, cd⟩, _⟩ := can14 HK4.out
    go_wp2_with (fail)
    go_at_call 11
    refine (HPR.out _ _ _ _ _ _ _ _ _ _ _ _ _ W4 HC4.out (HQ4.out.ag (Ag.new _ HM4.out))).mono ?_
    rintro e w5 ⟨rfl, hB5⟩
    have HB5 := Lib.hid (Bt HC4.out hB5)
    have HM5 := Lib.hid (Bt HM4.out hB5)
    have hM35 := Bt HB4k.out hB5
    have hM45 := Bt HM3.out hM35
    have hK5 := (hB5.block _ (Array.getElem?_eq_some_iff.1 HK4.out).1).trans HK4.out
    have hK6 := (hM35.block _ (Array.getElem?_eq_some_iff.1 HK3.out).1).trans HK3.out
    clear hB5 c0 c1 c2 c3 c4 c5 c6 c7 c8 c9 ca cb cc cd
    obtain ⟨⟨c0, c1, c2, c3, c4, c5, c6, c7, c8, c9, ca, cb, cc, cd⟩, _⟩ := can14 hK5
    obtain ⟨⟨d0, d1, d2, d3, d4, d5, d6, d7, d8, d9, da, db, dd, dd⟩, _⟩ := can14 hK6
    have HSM := Lib.hid (qsame_any _ _ 1000000 1000000 _ _ q q _ _ _ _ _ _ _ _ _ _ _ _ _ _ _ _ _ _ _ _ _ _ w5 (HQ4.out.ag (Ag.new _ HM5.out)) (HQ1.out.ag (Ag.new _ hM45)))
    rw [sameQ_true rfl] at HSM
    clear hK5 hK6 hM45 hM35
    go_wp2_with (go_at_call 13; refine HSM.out.mono ?_; rintro e w6 ⟨rfl, hb6⟩; have HB6 := Lib.hid (Bt HB5.out hb6); clear hb6)
    go_ret
    exact ⟨rfl, HB6.out⟩
  · obtain ⟨rfl, rfl, hK⟩ := Tess.Prs.parse_bad hSz hP hC
    have hz : ((Tess.Prs.noQue.aggs.length : Int) == 0) = true := rfl
    have hk1 : (decide ((K : Int) ≤ 2000)) = true := by simp; omega
    have hk2 : (decide ((0 : Int) ≤ (K : Int))) = true := by simp
    have hk3 : (decide (K ≤ 2000)) = true := by simp; omega
    generalize Tess.Prs.noQue = z at *
    clear hV hP hS hSz hC hK
    go_enter Tryz.func4, Tryz.ntmps4
    go_wp2_with (fail)
    go_at_call 9
    refine (HSH.out _ (Below.refl _ _)).mono ?_
    rintro e w0 ⟨rfl, hB0⟩
    have HB0 := Lib.hid hB0
    clear hB0
    go_wp2_with (fail)
    rw [HS.out]
    go_at_call 12
    refine (HP1.out _ HB0.out).mono ?_
    rintro e w1 ⟨u0, u1, u2, u3, u4, u5, u6, u7, u8, u9, ua, rfl, hq1, hB1⟩
    have HQ1 := Lib.hid hq1
    obtain ⟨a1, ac1, a2, ac2, a3, ac3, a4, an4, ac4, a5, ac5, a6, ac6, a7, ac7, rfl, rfl, rfl, rfl, rfl, rfl, rfl, rfl, rfl, rfl, rfl⟩ := hq1.shapesS
    obtain ⟨m1, m2, m3⟩ := laid1 w1 (.cells #[.slice a1 z.aggs.length ac1, .slice a2 z.names.length ac2, .int .i64 z.mode, .slice a3 z.sets.length ac3, .int .i64 z.every, .int .i64 z.fil.kind, .string z.fil.name, .slice a4 an4 ac4, .int .i64 z.fil.frm, .int .i64 z.fil.to, .slice a5 z.fil.l.length ac5, .slice a6 z.conds.length ac6, .slice a7 z.keys.length ac7, .int .i64 z.limit] 33)
    obtain ⟨W1, hW1⟩ : ∃ W1, w1.alloc (.cells #[.slice a1 z.aggs.length ac1, .slice a2 z.names.length ac2, .int .i64 z.mode, .slice a3 z.sets.length ac3, .int .i64 z.every, .int .i64 z.fil.kind, .string z.fil.name, .slice a4 an4 ac4, .int .i64 z.fil.frm, .int .i64 z.fil.to, .slice a5 z.fil.l.length ac5, .slice a6 z.conds.length ac6, .slice a7 z.keys.length ac7, .int .i64 z.limit] 33) = W1 := ⟨_, rfl⟩
    rw [hW1] at m1 m2 m3
    have HK1 := Lib.hid m1
    have HB1 := Lib.hid (Bt HB0.out (hB1))
    have HC1 := Lib.hid (Bt HB1.out m3)
    have HM1 := Lib.hid m3
    clear hq1 hB1 m1 m2 m3
    obtain ⟨⟨c0, c1, c2, c3, c4, c5, c6, c7, c8, c9, ca, cb, cc, cd⟩, _⟩ := can14 HK1.out
    go_wp2
    go_ret
    exact ⟨rfl, HC1.out⟩
end Go.Proofs.YtmfnhjdeoklnlaaGreatDoor
