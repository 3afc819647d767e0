/- Joined by mergeQ.py: Q23, Q24, Q25 -/
import Derived.Test.YtbbgjjjeecfnoaaGreatDoorXPD
import Derived.Test.YtbbgjjjeecfnoaaGreatDoorXQ22
import Derived.Test.YtbbgjjjeecfnoaaGreatDoorXQA
import Derived.Test.YtbbgjjjeecfnoaaGreatDoorXSh
import Derived.Test.YtbbgjjjeecfnoaaGreatDoorXFF
import Derived.Test.YtbbgjjjeecfnoaaGreatDoorXPB
namespace Go.Proofs.YtbbgjjjeecfnoaaGreatDoor
open Go.RowKit Go.Sort
open Tess (Tok)
structure Vz (w:World):Prop where
 syn:∃ ev,w.cell? ⟨5,0,none⟩=some ev∧(ev = .nilIface∨∃ te pe,ev = .iface te pe)
 ran:∃ ev,w.cell? ⟨6,0,none⟩=some ev∧(ev = .nilIface∨∃ te pe,ev = .iface te pe)
 cas:Lib.CaseVar 16 Lib.caseA w
 utf:Lib.Utf8Tabs 9 10 w
 pow : ∀ w2, Below w.heap.size w w2 → Lib.TabIs Tryz.prog w2 "internal/strconv.uint64pow10" .u64 Lib.pow10Tab
theorem Vz.below {w w':World} (h:Vz w) (hb:Below w.heap.size w w'):Vz w':=by
 have k:∀ {a:Addr} {v:Value},w.cell? a=some v→w'.cell? a=some v:=fun {a v} hc=>(hb.cell (World.block_lt_of_cell? w a hc)).trans hc
 obtain ⟨e1,c1,f1⟩:=h.syn
 obtain ⟨e2,c2,f2⟩:=h.ran
 exact ⟨⟨e1,k c1,f1⟩,⟨e2,k c2,f2⟩,Lib.CaseVar_below h.cas hb,⟨fun c hc=>k (h.utf.1 c hc),fun i hi=>⟨k (h.utf.2 i hi).1,k (h.utf.2 i hi).2⟩⟩,fun w2 h2=>h.pow w2 (hb.trans (h2.mono hb.size))⟩
theorem parseInt_any (s:ByteArray) (w:World) (hV:Vz w) (hs:s.size≤281474976710656) :
  Calls Tryz.prog 264 #[.string s,.int .i64 10,.int .i64 64] w fun e w'=>Below w.heap.size w w'∧∃ n:Int,-9223372036854775808≤n∧n≤9223372036854775807∧((∃ v,Tok.intOf (Lib.parseIntB 64 s.data.toList)=some v∧v=n∧e = .returned (.tuple #[.int .i64 n,.nilIface]))∨(Tok.intOf (Lib.parseIntB 64 s.data.toList)=none∧∃ N,e = .returned (.tuple #[.int .i64 n,.iface 394 (.pointer (some ⟨N,0,none⟩))]))):=by
 cases h:Lib.parseIntB 64 s.data.toList with
 | ok v=>
   have hb:=Lib.parseIntB_bounds h
   refine (Tryz.strconv_ParseInt_10_at64_ok s (by omega) v h w).mono ?_
   rintro e w' ⟨rfl,hW⟩
   refine ⟨?_,v,?_,?_,Or.inl ⟨v,rfl,rfl,rfl⟩⟩
   ·rcases hW with rfl | ⟨t,rfl⟩
    ·exact Below.refl _ _
    ·exact Lib.bytesWorld_below _ _ _
   ·have:=hb.1;simpa using this
   ·have:=hb.2;have e:((2 ^ (64 - 1):Nat):Int)=9223372036854775808:=by decide
    omega
 | range=>
   obtain ⟨ev,c,f⟩:=hV.ran
   refine (Tryz.strconv_ParseInt_10_at64_range s hs h ev w c f).mono ?_
   rintro e w' ⟨N,rfl,_,_,hB⟩
   refine ⟨hB,Lib.intSat 64 s.data.toList,?_,?_,Or.inr ⟨rfl,N,rfl⟩⟩
   ·unfold Lib.intSat;split <;> decide
   ·unfold Lib.intSat;split <;> decide
 | _=>
   obtain ⟨ev,c,f⟩:=hV.syn
   refine (Tryz.strconv_ParseInt_10_at64_syntax s hs (by first | exact h | exact h.trans (by kernel_rfl)) ev w c f).mono ?_
   rintro e w' ⟨N,rfl,_,_,hB⟩
   exact ⟨hB,0,by decide,by decide,Or.inr ⟨rfl,N,rfl⟩⟩
theorem whileL_lt (p:Nat→UInt8→Bool) (s:ByteArray):Tok.whileL p 0 s.data.toList≤s.size:=by
 have:=Tok.whileL_le p s.data.toList 0
 have h:s.data.toList.length=s.size:=Array.length_toList
 omega
theorem pure_nil {P:Program} {ops:Array Oper} {K:Act→Prop} {a:Act} (h:K a):FlowP.Pure P ops [] K a:=h
theorem tkOk_of {k p z:Nat} {t:ByteArray} {n:Int} (h1:k≤6) (h2:p≤maxLen) (h3:z≤maxLen) (h4:t.size≤maxLen) (h5:(-9223372036854775808:Int)≤n) (h6:n≤9223372036854775807):TkOk ⟨k,p,z,t,n⟩:=⟨h1,h2,h3,h4,h5,h6⟩
theorem data_take (s:ByteArray) (n:Nat):(s.extract 0 n).data.toList=s.data.toList.take n:=by
 rw [ByteArray.data_extract,Array.toList_extract,List.extract_eq_take_drop,List.drop_zero,Nat.sub_zero]
theorem data_drop (s:ByteArray) (n:Nat):(s.extract n s.size).data.toList=s.data.toList.drop n:=by
 have h:s.data.toList.length=s.size:=Array.length_toList
 rw [ByteArray.data_extract,Array.toList_extract,List.extract_eq_take_drop]
 exact List.take_of_length_le (by rw [List.length_drop];omega)
set_option maxRecDepth 100000 in
set_option maxHeartbeats 2000000 in
theorem number_any (s:ByteArray) (w:World) (hV:Vz w) (hs:s.size≤281474976710656) :
  Calls Tryz.prog 209 #[.string s] w fun e w'=>Below w.heap.size w w'∧∃ t:Tok,e = .returned (.tuple #[tkV t,.bool (Tok.number s.data.toList).isSome])∧TkOk t∧∀ sz n,Tok.number s.data.toList=some (sz,n)→t=⟨3,0,sz,ByteArray.empty,n⟩:=by
 have hle:=whileL_lt Tok.pNum s
 have hm:maxLen=9223372036854775807:=by decide
 have HW:=Lib.hid (fun W=>while_num s W)
 have HP:=Lib.hid (fun W (h:Vz W)=>parseInt_any (s.extract 0 (Tok.whileL Tok.pNum 0 s.data.toList)) W h (by
  have:(s.extract 0 (Tok.whileL Tok.pNum 0 s.data.toList)).size=min (Tok.whileL Tok.pNum 0 s.data.toList) s.size:=by simp
  omega))
 have HN:=(show Tok.number s.data.toList=(Tok.intOf (Lib.parseIntB 64 (s.extract 0 (Tok.whileL Tok.pNum 0 s.data.toList)).data.toList)).map fun n=>(Tok.whileL Tok.pNum 0 s.data.toList,n) by
  rw [data_take,Tok.num_same];rfl)
 generalize Tok.whileL Tok.pNum 0 s.data.toList=sz at *
 generalize Tok.number s.data.toList=N at *
 obtain ⟨W1,hW1⟩:∃ W1,w.alloc (.cells #[.int .i64 0,.int .i64 0,.int .i64 0,.string ⟨#[]⟩,.int .i64 0] 128)=W1:=⟨_,rfl⟩
 obtain ⟨l1,l2,l3⟩:=laid1 w (.cells #[.int .i64 0,.int .i64 0,.int .i64 0,.string ⟨#[]⟩,.int .i64 0] 128)
 rw [hW1] at l1 l2 l3
 have HV1:=Lib.hid (hV.below l3)
 have H3:=Lib.hid l3
 have H1:=Lib.hid l1
 clear l3 hV
 cases hI:Tok.intOf (Lib.parseIntB 64 (s.extract 0 sz).data.toList) with
 | some v=>
   rw [hI] at HP HN
   subst HN
   go_enter Tryz.func209,Tryz.ntmps209
   go_wp2_with (first | (go_at_call 133;refine (HW.out _).mono ?_;rintro e w2 ⟨rfl,hB2⟩;have HB2:=Lib.hid (H3.out.trans (hB2.mono (H3.out.size)));have HK2:=Lib.hid ((hB2.block _ (Array.getElem?_eq_some_iff.1 H1.out).1).trans H1.out);have HV2:=Lib.hid (HV1.out.below hB2);clear hB2) | (go_at_call 264;refine (HP.out _ HV2.out).mono ?_;rintro e w3 ⟨hB3,n,hn1,hn2,hE⟩;obtain rfl:n=v:=(hE.resolve_right (fun h=>by cases h.1)).elim (fun v' h=>by cases h.1;exact h.2.1.symm);obtain rfl:e = .returned (.tuple #[.int .i64 n,.nilIface]):=(hE.resolve_right (fun h=>by cases h.1)).elim (fun v' h=>by cases h.1;rw [h.2.2,← h.2.1]);have HK3:=Lib.hid ((hB3.block _ (Array.getElem?_eq_some_iff.1 HK2.out).1).trans HK2.out);obtain ⟨_,f0,f1,f2,f3,f4⟩:=can5 HK3.out;have HB3:=Lib.hid (HB2.out.trans (hB3.mono HB2.out.size));clear hE hB3))
   have HN1:=Lib.hid hn1
   have HN2:=Lib.hid hn2
   clear hn1 hn2
   refine FlowP.wp_region 0 5 [0,1,2,3,4] [5,6] (fun _ => .inl undef) (by kernel_rfl) (by kernel_rfl) (fun _=>Flow.mono_inl _) ?_
   refine ⟨_,.int .i64 sz,rfl,rfl,fun w=>by go_simp,?_⟩
   refine ⟨_,.int .i64 n,rfl,rfl,fun w=>by go_simp,?_⟩
   refine ⟨_,.agg #[.int .i64 3,.int .i64 0,.int .i64 sz,.string ⟨#[]⟩,.int .i64 n],rfl,rfl,fun w=>by go_simp,?_⟩
   refine ⟨_,.nilIface,rfl,rfl,fun w=>by go_simp,?_⟩
   refine ⟨_,.bool true,rfl,rfl,fun w=>by go_simp,?_⟩
   refine pure_nil ?_
   simp only [List.take_zero]
   refine Flow.tree_nil fun w4 hw4 hG => ?_
   clear hG
   have hK4:=(hw4.block _ (Array.getElem?_eq_some_iff.1 HK3.out).1).trans HK3.out
   obtain ⟨_,g0,g1,g2,g3,g4⟩:=can5 hK4
   obtain ⟨W3,hW3,b1,b2,b3,b4⟩:=box5 (.int .i64 3) (.int .i64 0) (.int .i64 sz) (.string ⟨#[]⟩) (.int .i64 n) hK4
   have HB4:=Lib.hid (b4 w (HB3.out.trans (hw4.mono HB3.out.size)) (Nat.le_refl _))
   obtain ⟨⟨c0,c1,c2,c3,c4⟩,_⟩:=can5 b1
   have HC:=Lib.hid (And.intro c0 (And.intro c1 (And.intro c2 (And.intro c3 c4))))
   clear c0 c1 c2 c3 c4 f0 f1 f2 f3 f4 hw4 b1 b2 b3 b4 hK4
   unfold FlowP.pick
   simp only [List.flatMap_cons,List.flatMap_nil,List.drop_succ_cons,List.drop_zero,List.take_succ_cons,List.take_zero,List.append_nil,List.cons_append,List.nil_append]
   go_wp2
   obtain ⟨c0,c1,c2,c3,c4⟩:=HC.out
   refine ⟨rfl,?_⟩
   go_wp2
   refine bodyPost_ret (v:=.tuple #[.agg #[.int .i64 3,.int .i64 0,.int .i64 sz,.string ⟨#[]⟩,.int .i64 n],.bool true]) (by simp [results,Tryz.results209,go_sem,c0,c1,c2,c3,c4]) rfl ⟨HB4.out,⟨3,0,sz,ByteArray.empty,n⟩,rfl,tkOk_of (by decide) (by decide) (by omega) (by decide) HN1.out HN2.out,?_⟩
   intro sz' n' he
   cases he
   rfl
 | none=>
   rw [hI] at HP HN
   subst HN
   go_enter Tryz.func209,Tryz.ntmps209
   go_wp2_with (first | (go_at_call 133;refine (HW.out _).mono ?_;rintro e w2 ⟨rfl,hB2⟩;have HB2:=Lib.hid (H3.out.trans (hB2.mono (H3.out.size)));have HK2:=Lib.hid ((hB2.block _ (Array.getElem?_eq_some_iff.1 H1.out).1).trans H1.out);have HV2:=Lib.hid (HV1.out.below hB2);clear hB2) | (go_at_call 264;refine (HP.out _ HV2.out).mono ?_;rintro e w3 ⟨hB3,n,hn1,hn2,hE⟩;obtain ⟨NN,rfl⟩:∃ NN,e = .returned (.tuple #[.int .i64 n,.iface 394 (.pointer (some ⟨NN,0,none⟩))]):=(hE.resolve_left (fun ⟨_,h,_⟩=>by cases h)).2;have HK3:=Lib.hid ((hB3.block _ (Array.getElem?_eq_some_iff.1 HK2.out).1).trans HK2.out);obtain ⟨_,f0,f1,f2,f3,f4⟩:=can5 HK3.out;have HB3:=Lib.hid (HB2.out.trans (hB3.mono HB2.out.size));clear hE hB3))
   have HN1:=Lib.hid hn1
   have HN2:=Lib.hid hn2
   clear hn1 hn2
   refine FlowP.wp_region 0 5 [0,1,2,3,4] [5,6] (fun _ => .inl undef) (by kernel_rfl) (by kernel_rfl) (fun _=>Flow.mono_inl _) ?_
   refine ⟨_,.int .i64 sz,rfl,rfl,fun w=>by go_simp,?_⟩
   refine ⟨_,.int .i64 n,rfl,rfl,fun w=>by go_simp,?_⟩
   refine ⟨_,.agg #[.int .i64 3,.int .i64 0,.int .i64 sz,.string ⟨#[]⟩,.int .i64 n],rfl,rfl,fun w=>by go_simp,?_⟩
   refine ⟨_,.iface 394 (.pointer (some ⟨NN,0,none⟩)),rfl,rfl,fun w=>by go_simp,?_⟩
   refine ⟨_,.bool false,rfl,rfl,fun w=>by go_simp,?_⟩
   refine pure_nil ?_
   simp only [List.take_zero]
   refine Flow.tree_nil fun w4 hw4 hG => ?_
   clear hG
   have hK4:=(hw4.block _ (Array.getElem?_eq_some_iff.1 HK3.out).1).trans HK3.out
   obtain ⟨_,g0,g1,g2,g3,g4⟩:=can5 hK4
   obtain ⟨W3,hW3,b1,b2,b3,b4⟩:=box5 (.int .i64 3) (.int .i64 0) (.int .i64 sz) (.string ⟨#[]⟩) (.int .i64 n) hK4
   have HB4:=Lib.hid (b4 w (HB3.out.trans (hw4.mono HB3.out.size)) (Nat.le_refl _))
   obtain ⟨⟨c0,c1,c2,c3,c4⟩,_⟩:=can5 b1
   have HC:=Lib.hid (And.intro c0 (And.intro c1 (And.intro c2 (And.intro c3 c4))))
   clear c0 c1 c2 c3 c4 f0 f1 f2 f3 f4 hw4 b1 b2 b3 b4 hK4
   unfold FlowP.pick
   simp only [List.flatMap_cons,List.flatMap_nil,List.drop_succ_cons,List.drop_zero,List.take_succ_cons,List.take_zero,List.append_nil,List.cons_append,List.nil_append]
   go_wp2
   obtain ⟨c0,c1,c2,c3,c4⟩:=HC.out
   refine ⟨rfl,?_⟩
   go_wp2
   refine bodyPost_ret (v:=.tuple #[.agg #[.int .i64 3,.int .i64 0,.int .i64 sz,.string ⟨#[]⟩,.int .i64 n],.bool false]) (by simp [results,Tryz.results209,go_sem,c0,c1,c2,c3,c4]) rfl ⟨HB4.out,⟨3,0,sz,ByteArray.empty,n⟩,rfl,tkOk_of (by decide) (by decide) (by omega) (by decide) HN1.out HN2.out,?_⟩
   intro sz' n' he
   cases he
end Go.Proofs.YtbbgjjjeecfnoaaGreatDoor
namespace Go.Proofs.YtbbgjjjeecfnoaaGreatDoor
open Go.RowKit Go.Sort
open Tess (Tok)
theorem lower_any (c:Int) (w:World):Calls Tryz.prog 341 #[.int .u8 c] w fun e w'=>e = .returned (.int .u8 (bits .or .u8 c 32))∧w'=w:=by
 go_enter Tryz.func341,Tryz.ntmps341
 go_wp2
 go_ret
 exact ⟨rfl,rfl⟩
def hexG (c:UInt8):Option Nat:=if 48≤c.toNat∧c.toNat≤57 then some (c.toNat - 48) else if (65≤c.toNat∧c.toNat≤70) then some (c.toNat - 55) else if 97≤c.toNat∧c.toNat≤102 then some (c.toNat - 87) else none
theorem hexG_lt {c:UInt8} {x:Nat} (h:hexG c=some x):x < 16:=by
 unfold hexG at h
 split at h
 ·cases h;omega
 ·split at h
  ·cases h;omega
  ·split at h
   ·cases h;omega
   ·cases h
set_option maxRecDepth 100000 in
theorem low_all:∀ n:Fin 256,let lo:=bits .or .u8 (n.val:Int) 32
  (65≤n.val∧n.val≤70→lo=(n.val + 32:Nat))∧(97≤n.val∧n.val≤102→lo=(n.val:Nat))∧(¬ (65≤n.val∧n.val≤70)→¬ (97≤n.val∧n.val≤102)→lo < 97∨102 < lo∧lo≤122∨122 < lo):=by decide
theorem hex_class (c:UInt8):(∃ x,hexG c=some x∧48≤c.toNat∧c.toNat≤57∧x=c.toNat - 48) ∨
  (∃ L:Nat,hexG c=some (L - 87)∧57 < c.toNat∧c.toNat≠95∧97≤L∧L≤102∧bits .or .u8 (c.toNat:Int) 32=(L:Int)) ∨
  (hexG c=none∧¬ (48≤c.toNat∧c.toNat≤57)∧(bits .or .u8 (c.toNat:Int) 32 < 97∨(102 < bits .or .u8 (c.toNat:Int) 32∧bits .or .u8 (c.toNat:Int) 32≤122)∨122 < bits .or .u8 (c.toNat:Int) 32)):=by
 have h256:=c.toNat_lt
 obtain ⟨l1,l2,l3⟩:=low_all ⟨c.toNat,h256⟩
 simp only at l1 l2 l3
 unfold hexG
 by_cases h1:48≤c.toNat∧c.toNat≤57
 ·exact Or.inl ⟨c.toNat - 48,by rw [if_pos h1],h1.1,h1.2,rfl⟩
 ·rw [if_neg h1]
  by_cases h2:65≤c.toNat∧c.toNat≤70
  ·refine Or.inr (Or.inl ⟨c.toNat + 32,by rw [if_pos h2];congr 1,by omega,by omega,by omega,by omega,l1 h2⟩)
  ·rw [if_neg h2]
   by_cases h3:97≤c.toNat∧c.toNat≤102
   ·refine Or.inr (Or.inl ⟨c.toNat,by rw [if_pos h3],by omega,by omega,by omega,by omega,l2 h3⟩)
   ·exact Or.inr (Or.inr ⟨by rw [if_neg h3],h1,l3 h2 h3⟩)
def hexT (a b:UInt8):Value:=match hexG a,hexG b with
 | some x,some y => .tuple #[.int .u64 (16 * x + y:Nat),.nilIface]
 | _,_ => .tuple #[.int .u64 0,.iface 393 (.int .i64 2)]
set_option maxRecDepth 100000 in
set_option maxHeartbeats 2000000 in
theorem parseU_any (a b:UInt8) (w:World):Calls Tryz.prog 319 #[.string ⟨#[a,b]⟩,.int .i64 16,.int .i64 8] w fun e w'=>e = .returned (hexT a b)∧Below w.heap.size w w':=by
 have HB:Below w.heap.size w (Lib.bytesWorld w 5 ⟨#[a,b]⟩):=Lib.bytesWorld_below _ _ _
 have HL:=Lib.hid lower_any
 have c0:(Lib.bytesWorld w 5 ⟨#[a,b]⟩).cell? ⟨w.heap.size,0,none⟩=some (.int .u8 a.toNat):=Lib.bytesWorld_cell w 5 ⟨#[a,b]⟩ 0 (show 0 < 2 by decide)
 have c1:(Lib.bytesWorld w 5 ⟨#[a,b]⟩).cell? ⟨w.heap.size,1,none⟩=some (.int .u8 b.toNat):=Lib.bytesWorld_cell w 5 ⟨#[a,b]⟩ 1 (show 1 < 2 by decide)
 obtain ⟨cap,hcv⟩:∃ cap,(convert 9 276 (.string ⟨#[a,b]⟩)).run Tryz.prog w = .ok (.slice (some ⟨w.heap.size,0,none⟩) 2 cap) (Lib.bytesWorld w 5 ⟨#[a,b]⟩):=⟨_,Lib.run_convert_string_bytes w _ _ _ _ Tryz.underlying9 Tryz.underlying276 Tryz.underlying5⟩
 have HB:=Lib.hid HB
 generalize Lib.bytesWorld w 5 ⟨#[a,b]⟩=W1 at *
 go_enter Tryz.func319,Tryz.ntmps319
 go_wp2
 go_loopg [12,13,101] 2 (fun gk x12 x13 x101 wx=>wx=W1∧x12 = .bool false∧∃ (i n:Nat),x13 = .int .u64 n∧x101 = .int .i64 i∧2≤i + gk∧(i=0∧n=0∨i=1∧hexG a=some n∨∃ x y,i=2∧hexG a=some x∧hexG b=some y∧n=16 * x + y))
 case atStart=>exact ⟨rfl,rfl,0,0,rfl,rfl,by omega,Or.inl ⟨rfl,rfl⟩⟩
 case round=>
  obtain ⟨rfl,rfl,i,n,rfl,rfl,hfu,hcase⟩:=hrel
  rcases hcase with ⟨rfl,rfl⟩ | ⟨rfl,hxa⟩ | ⟨x,y,rfl,hxa,hxb,rfl⟩
  ·obtain ⟨g',rfl⟩:∃ g',gk=g' + 1:=⟨gk - 1,by omega⟩
   have hA:=a.toNat_lt
   rcases hex_class a with ⟨x,hx,h1,h2,rfl⟩ | ⟨x,hx,h5,h6,h2,h3,h4⟩ | ⟨hx,h1,h2⟩
   ·have HX:=Lib.hid hx
    clear hx
    generalize hAA:a.toNat=A at *
    go_wp2
    go_roundg g' <;> first | omega | exact ⟨rfl,rfl,1,A - 48,by first | rfl | (congr 1;omega),rfl,by omega,Or.inr (Or.inl ⟨rfl,HX.out⟩)⟩
   ·have HX:=Lib.hid hx
    clear hx
    generalize hAA:a.toNat=A at *
    have HE:=Lib.hid h4
    clear h4
    go_wp2_with (go_at_call 341;refine (HL.out _ _).mono ?_;rintro e w2 ⟨rfl,rfl⟩;try rw [HE.out])
    go_roundg g' <;> first | omega | exact ⟨rfl,rfl,1,x - 87,by first | rfl | (congr 1;omega),rfl,by omega,Or.inr (Or.inl ⟨rfl,HX.out⟩)⟩
   ·have HX:=Lib.hid hx
    clear hx
    generalize hAA:a.toNat=A at *
    by_cases h6:A=95
    ·subst h6
     clear h2
     go_wp2_with (go_at_call 341;refine (HL.out _ _).mono ?_;rintro e w2 ⟨rfl,rfl⟩)
     refine bodyPost_ret (v:=.tuple #[.int .u64 0,.iface 393 (.int .i64 2)]) (by simp [results,Tryz.results319,go_sem]) rfl ⟨?_,HB.out⟩
     unfold hexT;rw [HX.out]
    ·generalize hE:bits .or .u8 (A:Int) 32=lo at *
     have HE:=Lib.hid hE
     clear hE
     have h5:A < 48∨57 < A:=by omega
     rcases h5 with h5 | h5 <;> rcases h2 with h2 | ⟨h2,h3⟩ | h2
     all_goals
      go_wp2_with (go_at_call 341;refine (HL.out _ _).mono ?_;rintro e w2 ⟨rfl,rfl⟩;try rw [HE.out])
      refine bodyPost_ret (v:=.tuple #[.int .u64 0,.iface 393 (.int .i64 2)]) (by simp [results,Tryz.results319,go_sem]) rfl ⟨?_,HB.out⟩
      unfold hexT;rw [HX.out]
  ·obtain ⟨g',rfl⟩:∃ g',gk=g' + 1:=⟨gk - 1,by omega⟩
   have hn:=hexG_lt hxa
   have HA:=Lib.hid hxa
   clear hxa
   have hz0:(0:Int)≤(n:Int):=by omega
   have hz1:(n:Int) < 16:=by omega
   generalize hz:(n:Int)=z at *
   have HZ:=Lib.hid hz
   clear hz hn
   have hA:=b.toNat_lt
   rcases hex_class b with ⟨x,hx,h1,h2,rfl⟩ | ⟨x,hx,h5,h6,h2,h3,h4⟩ | ⟨hx,h1,h2⟩
   ·have HX:=Lib.hid hx
    clear hx
    generalize hAA:b.toNat=A at *
    go_wp2
    go_roundg g' <;> first | omega | exact ⟨rfl,rfl,2,16 * n + (A - 48),by have hz:=HZ.out;congr 1;omega,rfl,by omega,Or.inr (Or.inr ⟨n,A - 48,rfl,HA.out,HX.out,rfl⟩)⟩
   ·have HX:=Lib.hid hx
    clear hx
    generalize hAA:b.toNat=A at *
    have HE:=Lib.hid h4
    clear h4
    go_wp2_with (go_at_call 341;refine (HL.out _ _).mono ?_;rintro e w2 ⟨rfl,rfl⟩;try rw [HE.out])
    go_roundg g' <;> first | omega | exact ⟨rfl,rfl,2,16 * n + (x - 87),by have hz:=HZ.out;congr 1;omega,rfl,by omega,Or.inr (Or.inr ⟨n,x - 87,rfl,HA.out,HX.out,rfl⟩)⟩
   ·have HX:=Lib.hid hx
    clear hx
    generalize hAA:b.toNat=A at *
    by_cases h6:A=95
    ·subst h6
     clear h2
     go_wp2_with (go_at_call 341;refine (HL.out _ _).mono ?_;rintro e w2 ⟨rfl,rfl⟩)
     refine bodyPost_ret (v:=.tuple #[.int .u64 0,.iface 393 (.int .i64 2)]) (by simp [results,Tryz.results319,go_sem]) rfl ⟨?_,HB.out⟩
     unfold hexT;rw [HA.out,HX.out]
    ·generalize hE:bits .or .u8 (A:Int) 32=lo at *
     have HE:=Lib.hid hE
     clear hE
     have h5:A < 48∨57 < A:=by omega
     rcases h5 with h5 | h5 <;> rcases h2 with h2 | ⟨h2,h3⟩ | h2
     all_goals
      go_wp2_with (go_at_call 341;refine (HL.out _ _).mono ?_;rintro e w2 ⟨rfl,rfl⟩;try rw [HE.out])
      refine bodyPost_ret (v:=.tuple #[.int .u64 0,.iface 393 (.int .i64 2)]) (by simp [results,Tryz.results319,go_sem]) rfl ⟨?_,HB.out⟩
      unfold hexT;rw [HA.out,HX.out]
  ·have HA:=Lib.hid hxa
   have HX:=Lib.hid hxb
   clear hxa hxb
   go_wp2
   refine bodyPost_ret (v:=.tuple #[.int .u64 (16 * x + y:Nat),.nilIface]) (by simp [results,Tryz.results319,go_sem]) rfl ⟨?_,HB.out⟩
   unfold hexT
   rw [HA.out,HX.out]
end Go.Proofs.YtbbgjjjeecfnoaaGreatDoor
namespace Go.Proofs.YtbbgjjjeecfnoaaGreatDoor
open Go.RowKit Go.Sort
open Tess (Tok)
def hexN (a b:UInt8):Option Nat:=(hexG a).bind fun x=>(hexG b).map fun y=>16 * x + y
theorem hexT_some {a b:UInt8} {n:Nat} (h:hexN a b=some n):hexT a b = .tuple #[.int .u64 n,.nilIface]∧n < 256:=by
 unfold hexN at h
 unfold hexT
 cases ha:hexG a with
 | none=>rw [ha] at h;cases h
 | some x=>
   rw [ha] at h
   cases hb:hexG b with
   | none=>rw [hb] at h;cases h
   | some y=>
     rw [hb] at h
     cases h
     have:=hexG_lt ha
     have:=hexG_lt hb
     exact ⟨rfl,by show 16 * x + y < 256;omega⟩
theorem hexT_none {a b:UInt8} (h:hexN a b=none):hexT a b = .tuple #[.int .u64 0,.iface 393 (.int .i64 2)]:=by
 unfold hexN at h
 unfold hexT
 cases ha:hexG a with
 | none=>rfl
 | some x=>
   rw [ha] at h
   cases hb:hexG b with
   | none=>rfl
   | some y=>rw [hb] at h;cases h
set_option maxRecDepth 100000 in
set_option maxHeartbeats 2000000 in
theorem parseUint_some (a b:UInt8) (n:Nat) (w:World) (hn:hexN a b=some n):Calls Tryz.prog 294 #[.string ⟨#[a,b]⟩,.int .i64 16,.int .i64 8] w fun e w'=>e = .returned (.tuple #[.int .u64 n,.nilIface])∧Below w.heap.size w w':=by
 have HP:=Lib.hid (parseU_any a b w)
 rw [(hexT_some hn).1] at HP
 go_enter Tryz.func294,Tryz.ntmps294
 go_wp2_with (go_at_call 319;refine HP.out.mono ?_;rintro e w2 ⟨rfl,hB⟩;have HB:=Lib.hid hB;clear hB)
 refine bodyPost_ret (v:=.tuple #[.int .u64 n,.nilIface]) (by simp [results,Tryz.results294,go_sem]) rfl ⟨rfl,HB.out⟩
set_option maxRecDepth 100000 in
set_option maxHeartbeats 2000000 in
theorem parseUint_none (a b:UInt8) (w:World) (hV:Vz w) (hn:hexN a b=none):Calls Tryz.prog 294 #[.string ⟨#[a,b]⟩,.int .i64 16,.int .i64 8] w fun e w' => ∃ N,e = .returned (.tuple #[.int .u64 0,.iface 394 (.pointer (some ⟨N,0,none⟩))])∧Below w.heap.size w w':=by
 have HP:=Lib.hid (parseU_any a b w)
 rw [hexT_none hn] at HP
 have HT:=Lib.hid (fun W (h:Vz W)=>(by
  obtain ⟨ev,c,f⟩:=h.syn
  refine (Tryz.strconv_toError_syntax ⟨#[80,97,114,115,101,85,105,110,116]⟩ ⟨#[a,b]⟩ 16 8 ev W (by show 2≤_;omega) c f).mono ?_
  rintro e w' ⟨N,he,_,_,hB⟩
  exact ⟨N,he,hB⟩:Calls Tryz.prog 296 #[.string ⟨#[80,97,114,115,101,85,105,110,116]⟩,.string ⟨#[a,b]⟩,.int .i64 16,.int .i64 8,.iface 393 (.int .i64 2)] W fun e w' => ∃ N,e = .returned (.iface 394 (.pointer (some ⟨N,0,none⟩)))∧Below W.heap.size W w'))
 have HV:=Lib.hid hV
 clear hV
 go_enter Tryz.func294,Tryz.ntmps294
 go_wp2_with (first | (go_at_call 319;refine HP.out.mono ?_;rintro e w2 ⟨rfl,hB⟩;have HB:=Lib.hid hB;have HV2:=Lib.hid (HV.out.below hB);clear hB) | (go_at_call 296;refine (HT.out _ HV2.out).mono ?_;rintro e w3 ⟨N,rfl,hB⟩;have HB3:=Lib.hid (HB.out.trans (hB.mono HB.out.size));clear hB))
 refine bodyPost_ret (v:=.tuple #[.int .u64 0,.iface 394 (.pointer (some ⟨N,0,none⟩))]) (by simp [results,Tryz.results294,go_sem]) rfl ⟨N,rfl,HB3.out⟩
set_option maxRecDepth 100000 in
theorem hexOf_all:∀ n:Fin 256,(Tok.hexOf (UInt8.ofNat n.val)).isSome=((hexG (UInt8.ofNat n.val)).isSome && Lib.lowerB (UInt8.ofNat n.val) == UInt8.ofNat n.val)∧((Tok.hexOf (UInt8.ofNat n.val)).isSome→Tok.hexOf (UInt8.ofNat n.val)=hexG (UInt8.ofNat n.val))∧((hexG (UInt8.ofNat n.val)).isSome→n.val < 128):=by decide
theorem hexOf_byte (c:UInt8):(Tok.hexOf c).isSome=((hexG c).isSome && Lib.lowerB c == c)∧((Tok.hexOf c).isSome→Tok.hexOf c=hexG c)∧((hexG c).isSome→c.toNat < 128):=by
 have:=hexOf_all ⟨c.toNat,c.toNat_lt⟩
 simpa using this
def isLow (a b:UInt8):Bool:=decide ((⟨(Lib.toLowerD [120,a,b]).toArray⟩:ByteArray)=⟨#[120,a,b]⟩)
theorem isLow_hex {a b:UInt8} (ha:(hexG a).isSome) (hb:(hexG b).isSome):isLow a b=(Lib.lowerB a == a && Lib.lowerB b == b):=by
 unfold isLow
 have:=(hexOf_byte a).2.2 ha
 have:=(hexOf_byte b).2.2 hb
 rw [Lib.toLowerD_ascii _ (fun c hc=>by
  simp only [List.mem_cons,List.not_mem_nil,or_false] at hc
  rcases hc with rfl | rfl | rfl
  ·decide
  ·omega
  ·omega)]
 rw [Bool.eq_iff_iff,decide_eq_true_iff,Bool.and_eq_true,beq_iff_eq,beq_iff_eq]
 constructor
 ·intro h
  have h2:[Lib.lowerB 120,Lib.lowerB a,Lib.lowerB b]=[120,a,b]:=by
   have:=congrArg (fun s:ByteArray=>s.data.toList) h
   simpa [Lib.toLowerA] using this
  simp only [List.cons.injEq,and_true] at h2
  exact h2.2
 ·rintro ⟨h1,h2⟩
  simp only [Lib.toLowerA,List.map_cons,List.map_nil,h1,h2]
  rfl
theorem esc_some {a b:UInt8} {r:List UInt8} {n:Nat} (h1:isLow a b=true) (h2:hexN a b=some n):Tok.escaped (120 :: a :: b :: r)=(UInt8.ofNat n,3):=by
 unfold hexN at h2
 cases ha:hexG a with
 | none=>rw [ha] at h2;cases h2
 | some x=>
   cases hb:hexG b with
   | none=>rw [ha,hb] at h2;cases h2
   | some y=>
     rw [ha,hb] at h2
     cases h2
     rw [isLow_hex (by rw [ha];rfl) (by rw [hb];rfl),Bool.and_eq_true] at h1
     have sa:(Tok.hexOf a).isSome:=by rw [(hexOf_byte a).1,ha,h1.1];rfl
     have sb:(Tok.hexOf b).isSome:=by rw [(hexOf_byte b).1,hb,h1.2];rfl
     have ea:=(hexOf_byte a).2.1 sa
     have eb:=(hexOf_byte b).2.1 sb
     rw [ha] at ea
     rw [hb] at eb
     show (match Tok.hexOf a,Tok.hexOf b with | some x,some y=>(UInt8.ofNat (16 * x + y),3) | _,_=>((0:UInt8),0))=_
     rw [ea,eb]
theorem esc_none {a b:UInt8} {r:List UInt8} (h:isLow a b=false∨hexN a b=none):Tok.escaped (120 :: a :: b :: r)=(0,0):=by
 show (match Tok.hexOf a,Tok.hexOf b with | some x,some y=>(UInt8.ofNat (16 * x + y),3) | _,_=>((0:UInt8),0))=_
 cases ea:Tok.hexOf a with
 | none=>rfl
 | some x=>
   cases eb:Tok.hexOf b with
   | none=>rfl
   | some y=>
     exfalso
     have sa:(Tok.hexOf a).isSome:=by rw [ea];rfl
     have sb:(Tok.hexOf b).isSome:=by rw [eb];rfl
     have ha:=(hexOf_byte a).2.1 sa
     have hb:=(hexOf_byte b).2.1 sb
     have la:=(hexOf_byte a).1
     have lb:=(hexOf_byte b).1
     rw [sa] at la
     rw [sb] at lb
     have la:=(Bool.and_eq_true _ _ ▸ la.symm:_∧_)
     have lb:=(Bool.and_eq_true _ _ ▸ lb.symm:_∧_)
     rcases h with h | h
     ·rw [isLow_hex la.1 lb.1,la.2,lb.2] at h;cases h
     ·rw [ea] at ha
      rw [eb] at hb
      unfold hexN at h
      rw [← ha,← hb] at h
      cases h
theorem head1 (s:ByteArray) (h:0 < s.size):∃ r,s.data.toList=s[0] :: r:=by
 obtain ⟨⟨l⟩⟩:=s
 cases l with
 | nil=>exact absurd h (Nat.lt_irrefl _)
 | cons c r=>exact ⟨r,rfl⟩
theorem head3 (s:ByteArray) (h:2 < s.size):∃ r,s.data.toList=s[0] :: s[1] :: s[2] :: r:=by
 obtain ⟨⟨l⟩⟩:=s
 match l,h with
 | c :: a :: b :: r,h=>exact ⟨r,rfl⟩
 | [c,a],h=>exact absurd h (Nat.lt_irrefl _)
 | [c],h=>exact absurd h (by show ¬ 2 < 1;omega)
 | [],h=>exact absurd h (by show ¬ 2 < 0;omega)
theorem ext03 (s:ByteArray) (h:2 < s.size):s.extract 0 3=⟨#[s[0],s[1],s[2]]⟩:=by
 have e:(s.extract 0 3).data.toList=[s[0],s[1],s[2]]:=by
  obtain ⟨r,hr⟩:=head3 s h
  rw [data_take,hr];rfl
 generalize s.extract 0 3=t at *
 obtain ⟨⟨l⟩⟩:=t
 have e:l=[s[0],s[1],s[2]]:=e
 rw [e]
theorem ext13 (s:ByteArray) (h:2 < s.size):s.extract 1 3=⟨#[s[1],s[2]]⟩:=by
 have e:(s.extract 1 3).data.toList=[s[1],s[2]]:=by
  obtain ⟨r,hr⟩:=head3 s h
  rw [ByteArray.data_extract,Array.toList_extract,hr];rfl
 generalize s.extract 1 3=t at *
 obtain ⟨⟨l⟩⟩:=t
 have e:l=[s[1],s[2]]:=e
 rw [e]
theorem low_eq (t:ByteArray) (a b:UInt8):(t.toList == [120,a,b])=decide (t=⟨#[120,a,b]⟩):=by
 have e:(⟨#[120,a,b]⟩:ByteArray).toList=[120,a,b]:=by rw [ByteArray.toList_eq]
 rw [Bool.eq_iff_iff,decide_eq_true_iff,← Lib.bytes_beq_iff,e]
def escV (p:UInt8×Nat):Value:=.tuple #[.int .u8 p.1.toNat,.int .i64 p.2]
set_option maxRecDepth 100000 in
set_option maxHeartbeats 4000000 in
theorem escaped_any (s:ByteArray) (w:World) (hV:Vz w) (hs:s.size≤281474976710656) :
  Calls Tryz.prog 262 #[.string s] w fun e w'=>e = .returned (escV (Tok.escaped s.data.toList))∧Below w.heap.size w w':=by
 by_cases h0:s.size=0
 ·obtain rfl:s=⟨#[]⟩:=by
   obtain ⟨⟨l⟩⟩:=s
   cases l with
   | nil=>rfl
   | cons c r=>exact absurd h0 (by show ¬ (r.length + 1=0);omega)
  go_enter Tryz.func262,Tryz.ntmps262
  go_wp2
  go_quiet (fail)
  go_wp2
  exact bodyPost_ret (v:=escV (0,0)) (by simp [results,Tryz.results262,go_sem,escV]) rfl ⟨rfl,below_drewN (Below.refl _ _) _⟩
 ·have hpos:0 < s.size:=by omega
  have hposi:(0:Int) < (s.size:Int):=by omega
  obtain ⟨r,hr⟩:=head1 s hpos
  obtain ⟨c,hc⟩:∃ c,s[0]=c:=⟨_,rfl⟩
  rw [hc] at hr
  have h256:=c.toNat_lt
  by_cases h1:c=34
  ·subst h1
   have HE:=Lib.hid (show Tok.escaped s.data.toList=(34,1) by rw [hr];rfl)
   clear hr
   go_enter Tryz.func262,Tryz.ntmps262
   go_wp2
   exact bodyPost_ret (v:=escV (34,1)) (by simp [results,Tryz.results262,go_sem,escV]) rfl ⟨by rw [HE.out],Below.refl _ _⟩
  ·by_cases h2:c=92
   ·subst h2
    have HE:=Lib.hid (show Tok.escaped s.data.toList=(92,1) by rw [hr];rfl)
    clear hr
    go_enter Tryz.func262,Tryz.ntmps262
    go_wp2
    exact bodyPost_ret (v:=escV (92,1)) (by simp [results,Tryz.results262,go_sem,escV]) rfl ⟨by rw [HE.out],Below.refl _ _⟩
   ·have n34:c.toNat≠34:=fun e=>h1 (UInt8.toNat_inj.1 e)
    have n92:c.toNat≠92:=fun e=>h2 (UInt8.toNat_inj.1 e)
    have e34:((c.toNat:Int) == 34)=false:=by rw [beq_eq_false_iff_ne];omega
    have e92:((c.toNat:Int) == 92)=false:=by rw [beq_eq_false_iff_ne];omega
    have hno:¬ (c=34∨c=92):=fun h=>h.elim h1 h2
    by_cases h3:s.size≤2
    ·have HE:=Lib.hid (show Tok.escaped s.data.toList=(0,0) by
      rw [hr]
      show (if c=34∨c=92 then _ else _)=_
      rw [if_neg hno]
      have hlen:=congrArg List.length hr
      have hl:s.data.toList.length=s.size:=Array.length_toList
      split
      ·split
       ·rename_i hx
        exfalso
        simp only [List.length_cons] at hlen
        omega
       ·rfl
      ·rfl)
     have hd:decide ((2:Int) < (s.size:Int))=false:=decide_eq_false (by omega)
     have hd2:¬ ((2:Int) < (s.size:Int)):=by omega
     clear hr h1 h2 hno
     generalize hC:c.toNat=C at *
     go_enter Tryz.func262,Tryz.ntmps262
     go_wp2
     go_quiet (fail)
     go_wp2
     exact bodyPost_ret (v:=escV (0,0)) (by simp [results,Tryz.results262,go_sem,escV]) rfl ⟨by rw [HE.out],below_drewN (Below.refl _ _) _⟩
    ·have h3':2 < s.size:=by omega
     have hd:decide ((2:Int) < (s.size:Int))=true:=decide_eq_true (by omega)
     have hd2:(2:Int) < (s.size:Int):=by omega
     by_cases h4:c=120
     ·obtain ⟨r3,hr3⟩:=head3 s h3'
      have x03:=ext03 s h3'
      have x13:=ext13 s h3'
      rw [hc,h4] at hr3 x03
      generalize s[1]=a at *
      generalize s[2]=b at *
      have HLW:=Lib.hid (fun W (h:Vz W)=>Tryz.strings_ToLower_any ⟨#[120,a,b]⟩ W (by show 3 < _;omega) h.cas h.utf)
      have HIL:=show decide ((⟨(Lib.toLowerD [120,a,b]).toArray⟩:ByteArray)=⟨#[120,a,b]⟩)=isLow a b from rfl
      have HPN:=Lib.hid (fun W (h:Vz W) (hn:hexN a b=none)=>parseUint_none a b W h hn)
      have HPS:=Lib.hid (fun W n (hn:hexN a b=some n)=>parseUint_some a b n W hn)
      have HES:=Lib.hid (fun n=>@esc_some a b r3 n)
      have HEN:=Lib.hid (@esc_none a b r3)
      rw [hr3]
      clear hr hr3 h1 h2 hno
      subst h4
      have HV:=Lib.hid hV
      clear hV n34 n92 e34 e92 h256 h0 h3
      generalize hT:(⟨(Lib.toLowerD [120,a,b]).toArray⟩:ByteArray)=t at *
      have HIL:=(low_eq t a b).trans HIL
      have h3i:(3:Int)≤(s.size:Int):=by omega
      clear hT
      cases hIL:isLow a b with
      | false=>
        have HE:=Lib.hid (HEN.out (Or.inl hIL))
        rw [hIL] at HIL
        clear hIL
        go_enter Tryz.func262,Tryz.ntmps262
        go_wp2_with (fail)
        refine Flow.wp_region_flow (Flow.specs [.inl ?_,.inl ?_,.inl ?_,.inl ?_,.inl ?_,.inl ?_,.inl ?_,.inl ?_,.inl ?_,.inl ?_,.inl ?_,.inl (.string t),.inl ?_,.inl ?_,.inl ?_,.inl ?_,.inl ?_]) (by kernel_rfl) (by kernel_rfl) ?_ ?_
        rotate_left 16
        ·refine Flow.specs_mono ?_
         repeat (first | exact Flow.lmono_nil | refine Flow.lmono_inl ?_)
        iterate 11 (refine Flow.tree_valK rfl (fun K hK=>⟨fun w hw hG => ?_,?_⟩);(clear hG hw;unfold Flow.Runs Flow.yields;go_simp;try rfl);go_simp;refine hK _ ?_;clear hK K)
        (refine Flow.tree_valK rfl (fun K hK=>⟨fun w hw hG => ?_,?_⟩);(have HW:=Lib.hid hw;clear hG hw;unfold Flow.Runs Flow.yields;go_simp;refine (HLW.out _ (HV.out.below HW.out)).mono ?_;rintro e w3 ⟨rfl,hb3⟩;exact ⟨rfl,hb3⟩);go_simp;refine hK _ ?_;clear hK K)
        iterate 5 (refine Flow.tree_valK rfl (fun K hK=>⟨fun w hw hG => ?_,?_⟩);(clear hG hw;unfold Flow.Runs Flow.yields;go_simp;try rfl);go_simp;refine hK _ ?_;clear hK K)
        refine Flow.tree_nil fun wB hwB hG => ?_
        have HBB:=Lib.hid hwB
        have HVB:=Lib.hid (HV.out.below hwB)
        clear hG hwB
        go_wp2
        exact bodyPost_ret (v:=escV (0,0)) (by simp [results,Tryz.results262,go_sem,escV]) rfl ⟨by rw [HE.out],HBB.out⟩
      | true=>
        rw [hIL] at HIL
        have HX:=Lib.hid (HES.out)
        cases hN:hexN a b with
        | none=>
          have HE:=Lib.hid (HEN.out (Or.inr hN))
          have HPN:=Lib.hid (fun W (h:Vz W)=>HPN.out W h hN)
          clear hIL hN
          go_enter Tryz.func262,Tryz.ntmps262
          go_wp2_with (fail)
          refine Flow.wp_region_flow (Flow.specs [.inl ?_,.inl ?_,.inl ?_,.inl ?_,.inl ?_,.inl ?_,.inl ?_,.inl ?_,.inl ?_,.inl ?_,.inl ?_,.inl (.string t),.inl ?_,.inl ?_,.inl ?_,.inl ?_,.inl ?_]) (by kernel_rfl) (by kernel_rfl) ?_ ?_
          rotate_left 16
          ·refine Flow.specs_mono ?_
           repeat (first | exact Flow.lmono_nil | refine Flow.lmono_inl ?_)
          iterate 11 (refine Flow.tree_valK rfl (fun K hK=>⟨fun w hw hG => ?_,?_⟩);(clear hG hw;unfold Flow.Runs Flow.yields;go_simp;try rfl);go_simp;refine hK _ ?_;clear hK K)
          (refine Flow.tree_valK rfl (fun K hK=>⟨fun w hw hG => ?_,?_⟩);(have HW:=Lib.hid hw;clear hG hw;unfold Flow.Runs Flow.yields;go_simp;refine (HLW.out _ (HV.out.below HW.out)).mono ?_;rintro e w3 ⟨rfl,hb3⟩;exact ⟨rfl,hb3⟩);go_simp;refine hK _ ?_;clear hK K)
          iterate 5 (refine Flow.tree_valK rfl (fun K hK=>⟨fun w hw hG => ?_,?_⟩);(clear hG hw;unfold Flow.Runs Flow.yields;go_simp;try rfl);go_simp;refine hK _ ?_;clear hK K)
          refine Flow.tree_nil fun wB hwB hG => ?_
          have HBB:=Lib.hid hwB
          have HVB:=Lib.hid (HV.out.below hwB)
          clear hG hwB
          go_wp2_with (go_at_call 294;refine (HPN.out _ HVB.out).mono ?_;rintro e w2 ⟨N,rfl,hB⟩;have HB2:=Lib.hid (HBB.out.trans (hB.mono HBB.out.size));clear hB)
          exact bodyPost_ret (v:=escV (0,0)) (by simp [results,Tryz.results262,go_sem,escV]) rfl ⟨by rw [HE.out],HB2.out⟩
        | some n=>
          have HE:=Lib.hid (HES.out n hIL hN)
          have HPS:=Lib.hid (fun W=>HPS.out W n hN)
          have hn:=(hexT_some hN).2
          clear hIL hN
          go_enter Tryz.func262,Tryz.ntmps262
          go_wp2_with (fail)
          refine Flow.wp_region_flow (Flow.specs [.inl ?_,.inl ?_,.inl ?_,.inl ?_,.inl ?_,.inl ?_,.inl ?_,.inl ?_,.inl ?_,.inl ?_,.inl ?_,.inl (.string t),.inl ?_,.inl ?_,.inl ?_,.inl ?_,.inl ?_]) (by kernel_rfl) (by kernel_rfl) ?_ ?_
          rotate_left 16
          ·refine Flow.specs_mono ?_
           repeat (first | exact Flow.lmono_nil | refine Flow.lmono_inl ?_)
          iterate 11 (refine Flow.tree_valK rfl (fun K hK=>⟨fun w hw hG => ?_,?_⟩);(clear hG hw;unfold Flow.Runs Flow.yields;go_simp;try rfl);go_simp;refine hK _ ?_;clear hK K)
          (refine Flow.tree_valK rfl (fun K hK=>⟨fun w hw hG => ?_,?_⟩);(have HW:=Lib.hid hw;clear hG hw;unfold Flow.Runs Flow.yields;go_simp;refine (HLW.out _ (HV.out.below HW.out)).mono ?_;rintro e w3 ⟨rfl,hb3⟩;exact ⟨rfl,hb3⟩);go_simp;refine hK _ ?_;clear hK K)
          iterate 5 (refine Flow.tree_valK rfl (fun K hK=>⟨fun w hw hG => ?_,?_⟩);(clear hG hw;unfold Flow.Runs Flow.yields;go_simp;try rfl);go_simp;refine hK _ ?_;clear hK K)
          refine Flow.tree_nil fun wB hwB hG => ?_
          have HBB:=Lib.hid hwB
          have HVB:=Lib.hid (HV.out.below hwB)
          clear hG hwB
          go_wp2_with (go_at_call 294;refine (HPS.out _).mono ?_;rintro e w2 ⟨rfl,hB⟩;have HB2:=Lib.hid (HBB.out.trans (hB.mono HBB.out.size));clear hB)
          have e8:((UInt8.ofNat n).toNat:Int)=n:=by rw [UInt8.toNat_ofNat'];omega
          refine bodyPost_ret (v:=escV (UInt8.ofNat n,3)) (by simp [results,Tryz.results262,go_sem,escV];omega) rfl ⟨by rw [HE.out],HB2.out⟩
     ·have HE:=Lib.hid (show Tok.escaped s.data.toList=(0,0) by
       rw [hr]
       show (if c=34∨c=92 then _ else if c=120 then _ else _)=_
       rw [if_neg hno,if_neg h4])
      have n120:c.toNat≠120:=fun e=>h4 (UInt8.toNat_inj.1 e)
      have e120:((c.toNat:Int) == 120)=false:=by rw [beq_eq_false_iff_ne];omega
      clear hr h1 h2 hno h4
      generalize hC:c.toNat=C at *
      go_enter Tryz.func262,Tryz.ntmps262
      go_wp2
      go_quiet (fail)
      go_wp2
      exact bodyPost_ret (v:=escV (0,0)) (by simp [results,Tryz.results262,go_sem,escV]) rfl ⟨by rw [HE.out],below_drewN (Below.refl _ _) _⟩
end Go.Proofs.YtbbgjjjeecfnoaaGreatDoor
