/- The number that a text begins with: walked. What the tables and the package's errors read as: Vz. -/
import Derived.Test.YtmfnhjdeoklnlaaGreatDoorYPD
import Derived.Test.YtmfnhjdeoklnlaaGreatDoorYQ22
import Derived.Test.YtmfnhjdeoklnlaaGreatDoorYQA
import Derived.Test.YtmfnhjdeoklnlaaGreatDoorYSh
import Derived.Test.YtmfnhjdeoklnlaaGreatDoorYFF
namespace Go.Proofs.YtmfnhjdeoklnlaaGreatDoor
open Go.RowKit Go.Sort
open Tess (Tok)
structure Vz (w:World):Prop where
 syn:∃ ev,w.cell? ⟨5,0,none⟩=some ev∧(ev = .nilIface∨∃ te pe,ev = .iface te pe)
 ran:∃ ev,w.cell? ⟨6,0,none⟩=some ev∧(ev = .nilIface∨∃ te pe,ev = .iface te pe)
 cas:Lib.CaseVar 9 Lib.caseA w
 utf:Lib.Utf8Tabs 10 11 w
 pow : ∀ w2, Below w.heap.size w w2 → Lib.TabIs Tryz.prog w2 "internal/strconv.uint64pow10" .u64 Lib.pow10Tab
theorem Vz.below {w w':World} (h:Vz w) (hb:Below w.heap.size w w'):Vz w':=by
 have k:∀ {a:Addr} {v:Value},w.cell? a=some v→w'.cell? a=some v:=fun {a v} hc=>(hb.cell (World.block_lt_of_cell? w a hc)).trans hc
 obtain ⟨e1,c1,f1⟩:=h.syn
 obtain ⟨e2,c2,f2⟩:=h.ran
 exact ⟨⟨e1,k c1,f1⟩,⟨e2,k c2,f2⟩,Lib.CaseVar_below h.cas hb,⟨fun c hc=>k (h.utf.1 c hc),fun i hi=>⟨k (h.utf.2 i hi).1,k (h.utf.2 i hi).2⟩⟩,fun w2 h2=>h.pow w2 (hb.trans (h2.mono hb.size))⟩
theorem parseInt_any (s:ByteArray) (w:World) (hV:Vz w) (hs:s.size≤281474976710656) :
  Calls Tryz.prog 182 #[.string s,.int .i64 10,.int .i64 64] w fun e w'=>Below w.heap.size w w'∧∃ n:Int,-9223372036854775808≤n∧n≤9223372036854775807∧((∃ v,Tok.intOf (Lib.parseIntB 64 s.data.toList)=some v∧v=n∧e = .returned (.tuple #[.int .i64 n,.nilIface]))∨(Tok.intOf (Lib.parseIntB 64 s.data.toList)=none∧∃ N,e = .returned (.tuple #[.int .i64 n,.iface 272 (.pointer (some ⟨N,0,none⟩))]))):=by
 cases h:Lib.parseIntB 64 s.data.toList with
 | ok v=>
   have hb:=Lib.parseIntB_bounds h
   refine (Tryz.strconv_ParseInt_10_at64_ok s (by omega) v h w).mono ?_
   rintro e w' ⟨rfl,hW⟩
   refine ⟨?_,v,?_,?_,Or.inl ⟨v,rfl,rfl,rfl⟩⟩
   ·rcases hW with rfl | ⟨t,rfl⟩
    ·exact Below.refl _ _
    ·exact Lib.bytesWorld_below _ _ _
   ·have:=hb.1;simpa using this
   ·have:=hb.2;have e:((2 ^ (64 - 1):Nat):Int)=9223372036854775808:=by decide
    omega
 | range=>
   obtain ⟨ev,c,f⟩:=hV.ran
   refine (Tryz.strconv_ParseInt_10_at64_range s hs h ev w c f).mono ?_
   rintro e w' ⟨N,rfl,_,_,hB⟩
   refine ⟨hB,Lib.intSat 64 s.data.toList,?_,?_,Or.inr ⟨rfl,N,rfl⟩⟩
   ·unfold Lib.intSat;split <;> decide
   ·unfold Lib.intSat;split <;> decide
 | _=>
   obtain ⟨ev,c,f⟩:=hV.syn
   refine (Tryz.strconv_ParseInt_10_at64_syntax s hs (by first | exact h | exact h.trans (by kernel_rfl)) ev w c f).mono ?_
   rintro e w' ⟨N,rfl,_,_,hB⟩
   exact ⟨hB,0,by decide,by decide,Or.inr ⟨rfl,N,rfl⟩⟩
theorem whileL_lt (p:Nat→UInt8→Bool) (s:ByteArray):Tok.whileL p 0 s.data.toList≤s.size:=by
 have:=Tok.whileL_le p s.data.toList 0
 have h:s.data.toList.length=s.size:=Array.length_toList
 omega
theorem pure_nil {P:Program} {ops:Array Oper} {K:Act→Prop} {a:Act} (h:K a):FlowP.Pure P ops [] K a:=h
theorem tkOk_of {k p z:Nat} {t:ByteArray} {n:Int} (h1:k≤6) (h2:p≤maxLen) (h3:z≤maxLen) (h4:t.size≤maxLen) (h5:(-9223372036854775808:Int)≤n) (h6:n≤9223372036854775807):TkOk ⟨k,p,z,t,n⟩:=⟨h1,h2,h3,h4,h5,h6⟩
theorem data_take (s:ByteArray) (n:Nat):(s.extract 0 n).data.toList=s.data.toList.take n:=by
 rw [ByteArray.data_extract,Array.toList_extract,List.extract_eq_take_drop,List.drop_zero,Nat.sub_zero]
theorem data_drop (s:ByteArray) (n:Nat):(s.extract n s.size).data.toList=s.data.toList.drop n:=by
 have h:s.data.toList.length=s.size:=Array.length_toList
 rw [ByteArray.data_extract,Array.toList_extract,List.extract_eq_take_drop]
 exact List.take_of_length_le (by rw [List.length_drop];omega)
set_option maxRecDepth 100000 in
set_option maxHeartbeats 2000000 in
theorem number_any (s:ByteArray) (w:World) (hV:Vz w) (hs:s.size≤281474976710656) :
  Calls Tryz.prog 128 #[.string s] w fun e w'=>Below w.heap.size w w'∧∃ t:Tok,e = .returned (.tuple #[tkV t,.bool (Tok.number s.data.toList).isSome])∧TkOk t∧∀ sz n,Tok.number s.data.toList=some (sz,n)→t=⟨3,0,sz,ByteArray.empty,n⟩:=by
 have hle:=whileL_lt Tok.pNum s
 have hm:maxLen=9223372036854775807:=by decide
 have HW:=Lib.hid (fun W=>while_num s W)
 have HP:=Lib.hid (fun W (h:Vz W)=>parseInt_any (s.extract 0 (Tok.whileL Tok.pNum 0 s.data.toList)) W h (by
  have:(s.extract 0 (Tok.whileL Tok.pNum 0 s.data.toList)).size=min (Tok.whileL Tok.pNum 0 s.data.toList) s.size:=by simp
  omega))
 have HN:=(show Tok.number s.data.toList=(Tok.intOf (Lib.parseIntB 64 (s.extract 0 (Tok.whileL Tok.pNum 0 s.data.toList)).data.toList)).map fun n=>(Tok.whileL Tok.pNum 0 s.data.toList,n) by
  rw [data_take,Tok.num_same];rfl)
 generalize Tok.whileL Tok.pNum 0 s.data.toList=sz at *
 generalize Tok.number s.data.toList=N at *
 obtain ⟨W1,hW1⟩:∃ W1,w.alloc (.cells #[.int .i64 0,.int .i64 0,.int .i64 0,.string ⟨#[]⟩,.int .i64 0] 61)=W1:=⟨_,rfl⟩
 obtain ⟨l1,l2,l3⟩:=laid1 w (.cells #[.int .i64 0,.int .i64 0,.int .i64 0,.string ⟨#[]⟩,.int .i64 0] 61)
 rw [hW1] at l1 l2 l3
 have HV1:=Lib.hid (hV.below l3)
 have H3:=Lib.hid l3
 have H1:=Lib.hid l1
 clear l3 hV
 cases hI:Tok.intOf (Lib.parseIntB 64 (s.extract 0 sz).data.toList) with
 | some v=>
   rw [hI] at HP HN
   subst HN
   go_enter Tryz.func128,Tryz.ntmps128
   go_wp2_with (first | (go_at_call 63;refine (HW.out _).mono ?_;rintro e w2 ⟨rfl,hB2⟩;have HB2:=Lib.hid (H3.out.trans (hB2.mono (H3.out.size)));have HK2:=Lib.hid ((hB2.block _ (Array.getElem?_eq_some_iff.1 H1.out).1).trans H1.out);have HV2:=Lib.hid (HV1.out.below hB2);clear hB2) | (go_at_call 182;refine (HP.out _ HV2.out).mono ?_;rintro e w3 ⟨hB3,n,hn1,hn2,hE⟩;obtain rfl:n=v:=(hE.resolve_right (fun h=>by cases h.1)).elim (fun v' h=>by cases h.1;exact h.2.1.symm);obtain rfl:e = .returned (.tuple #[.int .i64 n,.nilIface]):=(hE.resolve_right (fun h=>by cases h.1)).elim (fun v' h=>by cases h.1;rw [h.2.2,← h.2.1]);have HK3:=Lib.hid ((hB3.block _ (Array.getElem?_eq_some_iff.1 HK2.out).1).trans HK2.out);obtain ⟨_,f0,f1,f2,f3,f4⟩:=can5 HK3.out;have HB3:=Lib.hid (HB2.out.trans (hB3.mono HB2.out.size));clear hE hB3))
   have HN1:=Lib.hid hn1
   have HN2:=Lib.hid hn2
   clear hn1 hn2
   refine FlowP.wp_region 0 5 [0,1,2,3,4] [5,6] (fun _ => .inl undef) (by kernel_rfl) (by kernel_rfl) (fun _=>Flow.mono_inl _) ?_
   refine ⟨_,.int .i64 sz,rfl,rfl,fun w=>by go_simp,?_⟩
   refine ⟨_,.int .i64 n,rfl,rfl,fun w=>by go_simp,?_⟩
   refine ⟨_,.agg #[.int .i64 3,.int .i64 0,.int .i64 sz,.string ⟨#[]⟩,.int .i64 n],rfl,rfl,fun w=>by go_simp,?_⟩
   refine ⟨_,.nilIface,rfl,rfl,fun w=>by go_simp,?_⟩
   refine ⟨_,.bool true,rfl,rfl,fun w=>by go_simp,?_⟩
   refine pure_nil ?_
   simp only [List.take_zero]
   refine Flow.tree_nil fun w4 hw4 hG => ?_
   clear hG
   have hK4:=(hw4.block _ (Array.getElem?_eq_some_iff.1 HK3.out).1).trans HK3.out
   obtain ⟨_,g0,g1,g2,g3,g4⟩:=can5 hK4
   obtain ⟨W3,hW3,b1,b2,b3,b4⟩:=box5 (.int .i64 3) (.int .i64 0) (.int .i64 sz) (.string ⟨#[]⟩) (.int .i64 n) hK4
   have HB4:=Lib.hid (b4 w (HB3.out.trans (hw4.mono HB3.out.size)) (Nat.le_refl _))
   obtain ⟨⟨c0,c1,c2,c3,c4⟩,_⟩:=can5 b1
   have HC:=Lib.hid (And.intro c0 (And.intro c1 (And.intro c2 (And.intro c3 c4))))
   clear c0 c1 c2 c3 c4 f0 f1 f2 f3 f4 hw4 b1 b2 b3 b4 hK4
   unfold FlowP.pick
   simp only [List.flatMap_cons,List.flatMap_nil,List.drop_succ_cons,List.drop_zero,List.take_succ_cons,List.take_zero,List.append_nil,List.cons_append,List.nil_append]
   go_wp2
   obtain ⟨c0,c1,c2,c3,c4⟩:=HC.out
   refine ⟨rfl,?_⟩
   go_wp2
   refine bodyPost_ret (v:=.tuple #[.agg #[.int .i64 3,.int .i64 0,.int .i64 sz,.string ⟨#[]⟩,.int .i64 n],.bool true]) (by simp [results,Tryz.results128,go_sem,c0,c1,c2,c3,c4]) rfl ⟨HB4.out,⟨3,0,sz,ByteArray.empty,n⟩,rfl,tkOk_of (by decide) (by decide) (by omega) (by decide) HN1.out HN2.out,?_⟩
   intro sz' n' he
   cases he
   rfl
 | none=>
   rw [hI] at HP HN
   subst HN
   go_enter Tryz.func128,Tryz.ntmps128
   go_wp2_with (first | (go_at_call 63;refine (HW.out _).mono ?_;rintro e w2 ⟨rfl,hB2⟩;have HB2:=Lib.hid (H3.out.trans (hB2.mono (H3.out.size)));have HK2:=Lib.hid ((hB2.block _ (Array.getElem?_eq_some_iff.1 H1.out).1).trans H1.out);have HV2:=Lib.hid (HV1.out.below hB2);clear hB2) | (go_at_call 182;refine (HP.out _ HV2.out).mono ?_;rintro e w3 ⟨hB3,n,hn1,hn2,hE⟩;obtain ⟨NN,rfl⟩:∃ NN,e = .returned (.tuple #[.int .i64 n,.iface 272 (.pointer (some ⟨NN,0,none⟩))]):=(hE.resolve_left (fun ⟨_,h,_⟩=>by cases h)).2;have HK3:=Lib.hid ((hB3.block _ (Array.getElem?_eq_some_iff.1 HK2.out).1).trans HK2.out);obtain ⟨_,f0,f1,f2,f3,f4⟩:=can5 HK3.out;have HB3:=Lib.hid (HB2.out.trans (hB3.mono HB2.out.size));clear hE hB3))
   have HN1:=Lib.hid hn1
   have HN2:=Lib.hid hn2
   clear hn1 hn2
   refine FlowP.wp_region 0 5 [0,1,2,3,4] [5,6] (fun _ => .inl undef) (by kernel_rfl) (by kernel_rfl) (fun _=>Flow.mono_inl _) ?_
   refine ⟨_,.int .i64 sz,rfl,rfl,fun w=>by go_simp,?_⟩
   refine ⟨_,.int .i64 n,rfl,rfl,fun w=>by go_simp,?_⟩
   refine ⟨_,.agg #[.int .i64 3,.int .i64 0,.int .i64 sz,.string ⟨#[]⟩,.int .i64 n],rfl,rfl,fun w=>by go_simp,?_⟩
   refine ⟨_,.iface 272 (.pointer (some ⟨NN,0,none⟩)),rfl,rfl,fun w=>by go_simp,?_⟩
   refine ⟨_,.bool false,rfl,rfl,fun w=>by go_simp,?_⟩
   refine pure_nil ?_
   simp only [List.take_zero]
   refine Flow.tree_nil fun w4 hw4 hG => ?_
   clear hG
   have hK4:=(hw4.block _ (Array.getElem?_eq_some_iff.1 HK3.out).1).trans HK3.out
   obtain ⟨_,g0,g1,g2,g3,g4⟩:=can5 hK4
   obtain ⟨W3,hW3,b1,b2,b3,b4⟩:=box5 (.int .i64 3) (.int .i64 0) (.int .i64 sz) (.string ⟨#[]⟩) (.int .i64 n) hK4
   have HB4:=Lib.hid (b4 w (HB3.out.trans (hw4.mono HB3.out.size)) (Nat.le_refl _))
   obtain ⟨⟨c0,c1,c2,c3,c4⟩,_⟩:=can5 b1
   have HC:=Lib.hid (And.intro c0 (And.intro c1 (And.intro c2 (And.intro c3 c4))))
   clear c0 c1 c2 c3 c4 f0 f1 f2 f3 f4 hw4 b1 b2 b3 b4 hK4
   unfold FlowP.pick
   simp only [List.flatMap_cons,List.flatMap_nil,List.drop_succ_cons,List.drop_zero,List.take_succ_cons,List.take_zero,List.append_nil,List.cons_append,List.nil_append]
   go_wp2
   obtain ⟨c0,c1,c2,c3,c4⟩:=HC.out
   refine ⟨rfl,?_⟩
   go_wp2
   refine bodyPost_ret (v:=.tuple #[.agg #[.int .i64 3,.int .i64 0,.int .i64 sz,.string ⟨#[]⟩,.int .i64 n],.bool false]) (by simp [results,Tryz.results128,go_sem,c0,c1,c2,c3,c4]) rfl ⟨HB4.out,⟨3,0,sz,ByteArray.empty,n⟩,rfl,tkOk_of (by decide) (by decide) (by omega) (by decide) HN1.out HN2.out,?_⟩
   intro sz' n' he
   cases he
end Go.Proofs.YtmfnhjdeoklnlaaGreatDoor
