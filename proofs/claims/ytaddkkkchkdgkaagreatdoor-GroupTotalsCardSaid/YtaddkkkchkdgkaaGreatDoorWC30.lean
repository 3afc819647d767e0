/- Groups put to groups: walked. -/
import Derived.Test.YtaddkkkchkdgkaaGreatDoorWC28
import Derived.Test.YtaddkkkchkdgkaaGreatDoorWC29
import Derived.Test.YtaddkkkchkdgkaaGreatDoorWC16
namespace Go.Proofs.YtaddkkkchkdgkaaGreatDoor
open Go.RowKit Go.Sort
open Tess (CK Pay PayOk)
theorem infoInt6:(Tryz.prog.info? 3).map (fun i=>(i.zero,i.size,i.bytes))=some (some (.int .i64 0),1,8):=by kernel_rfl
def app0 (G:Option Nat) (N M k:Nat) (e:TypeId) (xs:List Value) (v:Value) (W:World):Prop:=W.ownsRow N e 1 v (k + 1) xs∧∀ b,v.ownBlock=some b→G=some b∨M≤b
theorem app0_mono {G:Option Nat} {k N M:Nat} {x y:Value} {e:TypeId} {xs:List Value} (hxs:xs.length=k):FlowR.Spec.mono (tw G none k x y) (.inr (app0 G N M k e (xs ++ [x]))):=by
 rintro v a b ⟨h1,h2⟩ hr
 exact ⟨tw_owns1 h1 hxs hr (fun _ _ _=>rfl) (fun c hc hH=>by cases hH),h2⟩
def isGrp (q:Nat→Prop) (y:Grp) (v:Value) (W:World):Prop:=∃ cs,v = .agg cs.toArray∧GrpAt q W cs y
theorem isGrp_mono (q:Nat→Prop) (y:Grp):Flow.Spec.mono (.inr (isGrp q y)):=fun _ _ _ ⟨cs,h1,h2⟩ hb=>⟨cs,h1,h2.ag (Ag.new _ hb)⟩
def newGrp (q:Nat→Prop) (y:Grp) (v:Value) (W:World):Prop:=∃ g cs,v = .slice (some ⟨g,0,none⟩) 1 1∧g < W.heap.size∧(∀ j u,cs[j]? = some u→W.cell? ⟨g,j,none⟩=some u)∧GrpAt q W cs y
theorem newGrp_mono (q:Nat→Prop) (y:Grp):Flow.Spec.mono (.inr (newGrp q y)):=fun _ _ _ ⟨g,cs,h1,h2,h3,h4⟩ hb=>⟨g,cs,h1,Nat.lt_of_lt_of_le h2 hb.size,fun j u h=>(hb.cell (p:=⟨g,j,none⟩) h2).trans (h3 j u h),h4.ag (Ag.new _ hb)⟩
theorem newGrp_mk {q:Nat→Prop} {y:Grp} {cs:List Value} (w:World) (t:TypeId) (h:GrpAt q w cs y):newGrp q y (.slice (some ⟨w.heap.size,0,none⟩) 1 1) (w.alloc (.cells cs.toArray t)):=
 ⟨_,cs,rfl,by simp,fun j u h=>by rw [cell_of_row _ _ j _ _ _ (heap_alloc_new _ _)];simpa using h,h.ag (Ag.new _ (laid1 _ _).2.2)⟩
theorem infoGrp6:(Tryz.prog.info? 56).map (fun i=>(i.zero,i.size,i.bytes))=some (some (.agg #[.int .i64 0,.int .i64 0,.slice none 0 0,.int .i64 0,.slice none 0 0,.slice none 0 0,.slice none 0 0]),7,120):=by kernel_rfl
structure Put (T:Lib.PrintTabs) (N gb mb:Nat) (v:Value) (V:ByteArray→RowV) (w W:World) (v':Value) (us':List (List Value)) (V':ByteArray→RowV) (L':List Grp):Prop where
 gs:GS T N gb mb W v' us' V' L'
 tch:Tch (GS.S gb mb v V) w W
 own:∀ b,GS.S gb mb v' V' b→GS.S gb mb v V b∨w.heap.size≤b
set_option maxRecDepth 100000 in
set_option maxHeartbeats 4000000 in
theorem addG_any {T:Lib.PrintTabs} (N gb mb B M:Nat) (p:Nat→Prop) (A:List Grp) (va v:Value) (us:List (List Value)) (V:ByteArray→RowV) (L:List Grp) (w:World) (hG:GS T N gb mb w v us V L) (hA:GrpsAt p w va A) (hp:∀ b,p b→¬ GS.S gb mb v V b)
  (hAo:∀ x ∈ A,GrpOk M x) (hLo:∀ y ∈ L,GrpOk M y) (hM:M≤1000) (htot:totG L + totG A≤1000000) (hBw:B≤w.heap.size) (hgb:B≤gb) (hmb:B≤mb) (hV:∀ w',Below B w w'→Vn T w') :
  Calls Tryz.prog 39 #[.pointer (some ⟨gb,0,none⟩),va] w fun e w' => ∃ u v' us' V',e = .returned u∧Put T N gb mb v V w w' v' us' V' (A.foldl putG L):=by
 obtain ⟨a,cap,rfl,_,hl,_,hc⟩:=ListAt.open hA
 have hl:A.length≤9223372036854775807:=by unfold maxLen at hl;omega
 have HC:=Lib.hid hc
 have HS:=Lib.hid (show ∀ b,GS.S gb mb v V b→B≤b from fun b hb=>hG.S_le hgb hmb hb)
 have HG0:=Lib.hid hG
 have HP:=Lib.hid hp
 have HAo:=Lib.hid hAo
 have HLo:=Lib.hid hLo
 have HV:=Lib.hid hV
 have HTot:=Lib.hid htot
 clear hc hG hp hAo hLo hV htot hA
 go_enter Tryz.func39,Tryz.ntmps39
 go_wp2
 refine wp_scope_straight ?_
 go_wp2
 refine wp_label ?_
 go_wp2
 go_loopw [11] (fun i wr => ∃ (k:Nat) (v':Value) (us':List (List Value)) (V':ByteArray→RowV),k≤A.length∧i = .int .i64 k∧Put T N gb mb v V w wr v' us' V' ((A.take k).foldl putG L)) (fun i _=>A.length - (intOf i).toNat)
 case atStart=>exact ⟨0,v,us,V,Nat.zero_le _,rfl,HG0.out,Tch.refl _ _,fun b hb => .inl hb⟩
 case round=>
  obtain ⟨k,v',us',V',hk,rfl,hput⟩:=hrel
  obtain ⟨wa,hwa⟩:∃ wa,wa=wr:=⟨_,rfl⟩
  subst hwa
  by_cases hlt:k < A.length
  ·have hki:(k:Int) < (A.length:Int):=by omega
   obtain ⟨b,off,rfl,hb,hpb,cs,_,hR,hcell⟩:=HC.out k hlt
   have hkeep:=hput.tch.block b hb (HP.out b hpb)
   have hag:Ag p w wa:=hput.tch.ag HP.out
   have HX:=Lib.hid ((grp_nest.lt hR).ag (hag.weak fun b hb=>hb.1))
   have HTB:=Lib.hid (show Below B w wa from hput.tch.below hBw HS.out)
   have hxo:=HAo.out _ (List.getElem_mem hlt)
   have HLo':=Lib.hid (show ∀ y ∈ (A.take k).foldl putG L,GrpOk M y from foldG_ok (fun x hx=>HAo.out x (List.mem_of_mem_take hx)) HLo.out)
   have HTo':=Lib.hid (show totG ((A.take k).foldl putG L) + A[k].2.2.n≤1000000 from by
    have:=takeG_tot HAo.out hlt
    have:=HTot.out
    rw [foldG_tot];omega)
   have HNX:=Lib.hid (takeG_fold (L:=L) hlt)
   have HPU:=Lib.hid hput
   obtain ⟨vd,vs,vm,vx,rfl,hd,hps⟩:=hR
   obtain ⟨a2,c2,rfl⟩:=hd.shape
   obtain ⟨a4,c4,rfl⟩:=hps.sums.shape
   obtain ⟨a5,c5,rfl⟩:=hps.mins.shape
   obtain ⟨a6,c6,rfl⟩:=hps.maxs.shape
   have kc:∀ o,wa.cell? ⟨b,o,none⟩=w.cell? ⟨b,o,none⟩:=fun o=>World.cell?_of_block (a:=⟨b,o,none⟩) hkeep
   have e0:=(kc _).trans (hcell 0 (by omega))
   have e1:=(kc _).trans (hcell 1 (by omega))
   have e2:=(kc _).trans (hcell 2 (by omega))
   have e3:=(kc _).trans (hcell 3 (by omega))
   have e4:=(kc _).trans (hcell 4 (by omega))
   have e5:=(kc _).trans (hcell 5 (by omega))
   have e6:=(kc _).trans (hcell 6 (by omega))
   simp only [Nat.add_zero,List.getElem?_cons_zero,List.getElem?_cons_succ] at e0 e1 e2 e3 e4 e5 e6
   have hbw:b < wa.heap.size:=Nat.lt_of_lt_of_le hb hput.tch.size
   clear hcell hkeep hag hd hps hput kc hpb
   generalize (A.take k).foldl putG L=L' at *
   have HXO:=Lib.hid hxo
   clear hxo
   generalize A[k]=x at *
   obtain ⟨n2,hn2⟩:∃ n2,(x.2.1.2.map Tess.valOf).length=n2:=⟨_,rfl⟩
   obtain ⟨n4,hn4⟩:∃ n4,x.2.2.sums.length=n4:=⟨_,rfl⟩
   obtain ⟨n5,hn5⟩:∃ n5,x.2.2.mins.length=n5:=⟨_,rfl⟩
   obtain ⟨n6,hn6⟩:∃ n6,x.2.2.maxs.length=n6:=⟨_,rfl⟩
   rw [hn2] at HX e2
   rw [hn4] at HX e4
   rw [hn5] at HX e5
   rw [hn6] at HX e6
   clear hn2 hn4 hn5 hn6
   obtain ⟨W1,hW1⟩:∃ W1,wa.alloc (.cells #[.int .i64 x.1,.int .i64 x.2.1.1,.slice a2 n2 c2,.int .i64 x.2.2.n,.slice a4 n4 c4,.slice a5 n5 c5,.slice a6 n6 c6] 56)=W1:=⟨_,rfl⟩
   obtain ⟨k1,kS,kB⟩:=laid1 wa (.cells #[.int .i64 x.1,.int .i64 x.2.1.1,.slice a2 n2 c2,.int .i64 x.2.2.n,.slice a4 n4 c4,.slice a5 n5 c5,.slice a6 n6 c6] 56)
   rw [hW1] at k1 kS kB
   obtain ⟨⟨x0,x1,x2,x3,x4,x5,x6⟩,_⟩:=can7 k1
   have HK1:=Lib.hid k1
   have HKS:=Lib.hid kS
   have HKB:=Lib.hid kB
   have HNM:=Lib.hid (show Calls Tryz.prog 74 #[.agg #[.int .i64 x.1,.int .i64 x.2.1.1,.slice a2 n2 c2,.int .i64 x.2.2.n,.slice a4 n4 c4,.slice a5 n5 c5,.slice a6 n6 c6]] W1 fun e w'=>e = .returned (.string (nameG T x))∧Below W1.heap.size W1 w' from
    name_any _ _ x W1 (HV.out _ (HTB.out.trans (kB.mono (by have:=HTB.out.size;omega)))) (HX.out.ag (Ag.new _ kB)) HXO.out.set HXO.out.time HXO.out.size HXO.out.len)
   clear k1 kS kB
   have HNS:=Lib.hid (nameG_size T HXO.out)
   go_wp2_with (fail)
   go_at_call 74
   refine HNM.out.mono ?_
   rintro e w3 ⟨rfl,hb3⟩
   have hB13:=Bt HKB.out hb3
   have HG3:=Lib.hid (HPU.out.gs.below hB13)
   have HB3:=Lib.hid hb3
   have k13:=(hb3.block wa.heap.size (by rw [HKS.out];omega)).trans HK1.out
   have HK3:=Lib.hid k13
   obtain ⟨⟨y0,y1⟩,_⟩:=can2 HG3.out.box
   obtain ⟨ra,rc,hrl⟩:=HG3.out.len (nameG T x)
   have HLK:=HG3.out.map.look HNS.out
   obtain ⟨idx,hidx⟩:∃ idx,idxF T (nameG T x) 0 L'=idx:=⟨_,rfl⟩
   have HID:=Lib.hid hidx
   rw [hidx] at hrl
   rw [hrl] at HLK
   have hL6:L'.length≤1000000:=by
    have h1:=(totG_le HLo'.out).1
    have h2:=HTo'.out
    have h3:=HXO.out.pay.one
    omega
   have hm6:idx.length≤1000000:=by
    have:=idxF_len (T:=T) (s:=nameG T x) L' 0
    rw [hidx] at this;omega
   have HRL:=Lib.hid hrl
   have hgbw:gb < w3.heap.size:=(Array.getElem?_eq_some_iff.1 HG3.out.box).1
   clear hb3 hB13 k13 x0 x1 x2 x3 x4 x5 x6 e0 e1 e2 e3 e4 e5 e6 hW1
   go_wp2_with (fail)
   clear HLK hrl hidx y0 y1
   go_loopw [24] (fun i wr => ∃ (j:Nat),j≤idx.length∧i = .int .i64 j∧(∀ j' (h:j' < idx.length),j' < j→∀ h':idx[j'] < L'.length,oneB L'[idx[j']] x=false)∧Below w3.heap.size w3 wr) (fun i _=>idx.length - (intOf i).toNat)
   case atStart=>exact ⟨0,Nat.zero_le _,rfl,fun j' _ h=>absurd h (Nat.not_lt_zero _),Below.refl _ _⟩
   case round=>
    obtain ⟨j,hj,rfl,hno,hB2⟩:=hrel
    have HNO:=Lib.hid hno
    have HB2:=Lib.hid hB2
    have hk2:=(hB2.block wa.heap.size (by have:=HB3.out.size;have:=HKS.out;omega)).trans HK3.out
    have HG2:=Lib.hid (HG3.out.below hB2)
    have hgb2:gb < wr.heap.size:=(Array.getElem?_eq_some_iff.1 HG2.out.box).1
    have hbx2:wa.heap.size < wr.heap.size:=(Array.getElem?_eq_some_iff.1 hk2).1
    by_cases hjl:j < idx.length
    ·have hji:(j:Int) < (idx.length:Int):=by omega
     have hmem:=List.getElem_mem hjl
     obtain ⟨hiL,hin⟩:=idxF_in (T:=T) (s:=nameG T x) (L:=L') (i:=idx[j]) (by rw [HID.out];exact hmem)
     obtain ⟨gr,cr,hrl,hgr,_,hic⟩:=HG2.out.idx (s:=nameG T x) (j:=j) (by rw [HID.out];exact hjl)
     simp only [HID.out,HRL.out,Value.slice.injEq,true_and] at hrl hic
     obtain ⟨rfl,rfl⟩:=hrl
     obtain ⟨g,cp,q0,q1,q2,q3,q4,q5,q6,rfl,hgl,hNg,⟨d0,d1,d2,d3,d4,d5,d6⟩,hfz,hgrp⟩:=HG2.out.at hiL
     have HGRP:=Lib.hid hgrp
     have HFZ:=Lib.hid hfz
     have HIN:=Lib.hid hin
     have HJL:=Lib.hid hjl
     have hii:((idx[j]:Nat):Int) < (L'.length:Int):=by omega
     have HBW:=Lib.hid (Bt (Bt HKB.out HB3.out) HB2.out)
     have HONE:=Lib.hid (fun W (hB:Below wr.heap.size wr W)=>isOne_any _ _ _ _ L'[idx[j]] x W (hgrp.ag (Ag.new _ hB)) (HX.out.ag (Ag.new _ (Bt HBW.out hB))))
     obtain ⟨⟨y0,y1⟩,_⟩:=can2 HG2.out.box
     obtain ⟨⟨x0,x1,x2,x3,x4,x5,x6⟩,_⟩:=can7 hk2
     have HK2:=Lib.hid hk2
     have hL9:L'.length≤9223372036854775807:=by omega
     clear hgrp hfz hin hmem hno hk2 hB2
     generalize hi:idx[j]=i at *
     have HI:=Lib.hid (show ∃ h:j < idx.length,idx[j]=i from ⟨hjl,hi⟩)
     clear hi HJL hjl
     go_wp2_with (fail)
     refine Flow.wp_region_flow_tail 8 (Flow.specs [.inl ?_,.inl ?_,.inl ?_,.inl ?_,.inl ?_,.inl ?_,.inl ?_,.inl ?_]) (by kernel_rfl) (by kernel_rfl) ?_ ?_
     rotate_left 8
     ·refine Flow.specs_mono ?_
      repeat (first | exact Flow.lmono_nil | refine Flow.lmono_inl ?_)
     all_goals try simp only [List.take_succ_cons,List.take_zero,List.drop_succ_cons,List.drop_zero]
     iterate 8 (refine Flow.tree_valK rfl (fun K hK=>⟨fun w hw hG => ?_,?_⟩);(have hcl:=Flow.bcell hw;clear hG hw;unfold Flow.Runs Flow.yields;go_simp;try rfl);go_simp;refine hK _ ?_;clear hK K)
     refine Flow.tree_nil fun w5 hw5 hG => ?_
     clear hG
     go_simp
     go_wp2_with (fail)
     go_at_call 40
     refine (HONE.out _ hw5).mono ?_
     rintro e w6 ⟨rfl,hb6⟩
     have HB6:=Lib.hid (Bt hw5 hb6)
     clear hw5 hb6 x0 x1 x2 x3 x4 x5 x6 y0 y1 d0 d1 d2 d3 d4 d5 d6 hic HONE
     cases hone:oneB L'[i] x
     ·go_wp2_with (fail)
      go_roundw
      case rel=>
       refine ⟨j + 1,by omega,by go_num,fun j' hj' hjj hl' => ?_,Bt HB2.out HB6.out⟩
       by_cases hlt':j' < j
       ·exact HNO.out j' hj' hlt' hl'
       ·obtain rfl:j'=j:=by omega
        obtain ⟨_,hi⟩:=HI.out
        simp only [hi];exact hone
      case measure=>simp [intOf];omega
     ·go_wp2_with (fail)
      have HONE:=Lib.hid hone
      clear hone
      have HG6:=Lib.hid (HG2.out.below HB6.out)
      have hk6:=(HB6.out.block wa.heap.size hbx2).trans HK2.out
      obtain ⟨g6,cp6,r0,r1,r2,r3,r4,r5,r6,hv6,hgl6,_,⟨d0,d1,d2,d3,d4,d5,d6⟩,_,hgrp6⟩:=HG6.out.at hiL
      obtain rfl:g=g6:=by have:=congrArg Value.ownBlock hv6;simpa [Value.ownBlock] using this
      have hyo:=HLo'.out _ (List.getElem_mem hiL)
      have hxo:=HXO.out
      have hyn:=(totG_le HLo'.out).2 _ (List.getElem_mem hiL)
      have htt:=HTo'.out
      have hy1:=hyo.pay.one
      have hx1:=hxo.pay.one
      have HBOTH:=Lib.hid (show ∀ W,Below w6.heap.size w6 W→Calls Tryz.prog 75 #[.agg #[r0,r1,r2,r3,r4,r5,r6],.agg #[.int .i64 x.1,.int .i64 x.2.1.1,.slice a2 n2 c2,.int .i64 x.2.2.n,.slice a4 n4 c4,.slice a5 n5 c5,.slice a6 n6 c6]] W fun e w' => ∃ v',e = .returned v'∧isGrp (fun b=>((N≤b∧offRow V' b)∧b≠g)∨w6.heap.size≤b) (L'[i].1,L'[i].2.1,L'[i].2.2.add x.2.2) v' w'∧Below W.heap.size W w' from fun W hB=>by
       refine (both_any _ _ _ _ L'[i] x M W (hgrp6.ag (Ag.new _ hB)) (HX.out.ag (Ag.new _ (Bt HBW.out (Bt HB6.out hB)))) hyo.pay.len hxo.pay.len hM ⟨by omega,by omega⟩ (fun j h1 h2=>Tess.pay_sum hyo.pay hxo.pay (by omega) j h1 h2)).mono ?_
       rintro e w' ⟨cs',rfl,h1,h2⟩
       exact ⟨_,rfl,⟨cs',rfl,h1.weak fun b hb=>hb.imp id fun h=>by have:=hB.size;omega⟩,h2⟩)
      obtain ⟨⟨y0,y1⟩,_⟩:=can2 HG6.out.box
      obtain ⟨⟨x0,x1,x2,x3,x4,x5,x6⟩,_⟩:=can7 hk6
      have hgb6:gb < w6.heap.size:=(Array.getElem?_eq_some_iff.1 HG6.out.box).1
      have hbx6:wa.heap.size < w6.heap.size:=(Array.getElem?_eq_some_iff.1 hk6).1
      clear hk6 hgrp6 hyo hxo hyn htt hy1 hx1 hv6
      refine Flow.wp_region_flow_tail 14 (Flow.specs [.inl ?_,.inl ?_,.inl ?_,.inl ?_,.inl ?_,.inl ?_,.inl ?_,.inl ?_,.inl ?_,.inl ?_,.inl ?_,.inl ?_,.inl ?_,.inr (isGrp (fun b=>((N≤b∧offRow V' b)∧b≠g)∨w6.heap.size≤b) (L'[i].1,L'[i].2.1,L'[i].2.2.add x.2.2))]) (by kernel_rfl) (by kernel_rfl) ?_ ?_
      rotate_left 13
      ·refine Flow.specs_mono ?_
       repeat (first | exact Flow.lmono_nil | refine Flow.lmono_inl ?_ | refine Flow.lmono_inr (isGrp_mono _ _) ?_)
      all_goals try simp only [List.take_succ_cons,List.take_zero,List.drop_succ_cons,List.drop_zero]
      iterate 13 (refine Flow.tree_valK rfl (fun K hK=>⟨fun w hw hG => ?_,?_⟩);(have hcl:=Flow.bcell hw;clear hG hw;unfold Flow.Runs Flow.yields;go_simp;try rfl);go_simp;refine hK _ ?_;clear hK K)
      (refine Flow.tree_varK rfl (fun K hK=>⟨fun w hw hG => ?_,?_⟩);(have HW:=Lib.hid hw;clear hG hw;unfold Flow.Runs Flow.yields;go_simp;refine (HBOTH.out _ HW.out).mono ?_;rintro e w7 ⟨v7,rfl,hf7,hb7⟩;exact ⟨v7,rfl,hb7,hf7⟩);intro vb;go_simp;refine hK _ _ ?_;clear hK K)
      refine Flow.tree_nil fun w8 hw8 hG => ?_
      obtain ⟨cs',rfl,hg8⟩:=(show isGrp (fun b=>((N≤b∧offRow V' b)∧b≠g)∨w6.heap.size≤b) (L'[i].1,L'[i].2.1,L'[i].2.2.add x.2.2) vb w8 by simpa [Flow.upd] using hG 13)
      clear hG
      obtain ⟨Y,hY⟩:∃ Y:Grp,(L'[i].1,L'[i].2.1,L'[i].2.2.add x.2.2)=Y:=⟨_,rfl⟩
      rw [hY] at hg8
      have HY:=Lib.hid hY
      have HG8:=Lib.hid (HG6.out.below hw8)
      have hNW:=HG6.out.NW
      have HGR:=Lib.hid (show GrpAt (fun b=>(N≤b∧offRow V' b)∧b≠g) w8 cs' Y from hg8.weak fun b hb=>by
       rcases hb with hb | hb
       ·exact hb
       ·exact ⟨⟨by omega,fun s r hr e=>by have:=(HG6.out.rowLt hr).2;omega⟩,by omega⟩)
      obtain ⟨vd',vs',vm',vx',rfl,hd',hps'⟩:=hg8
      obtain ⟨b2,f2,rfl⟩:=hd'.shape
      obtain ⟨b4,f4,rfl⟩:=hps'.sums.shape
      obtain ⟨b5,f5,rfl⟩:=hps'.mins.shape
      obtain ⟨b6,f6,rfl⟩:=hps'.maxs.shape
      clear hd' hps' hY
      generalize (Y.2.1.2.map Tess.valOf).length=m2 at *
      generalize Y.2.2.sums.length=m4 at *
      generalize Y.2.2.mins.length=m5 at *
      generalize Y.2.2.maxs.length=m6 at *
      obtain ⟨g8,cp8,s0,s1,s2,s3,s4,s5,s6,hv8,hgl8,_,⟨t0,t1,t2,t3,t4,t5,t6⟩,hfz8,_⟩:=HG8.out.at hiL
      obtain rfl:g=g8:=by have:=congrArg Value.ownBlock hv8;simpa [Value.ownBlock] using this
      have z0:=hfz8 (i * 7)
      have z1:=hfz8 (i * 7 + 1)
      have z2:=hfz8 (i * 7 + 2)
      have z3:=hfz8 (i * 7 + 3)
      have z4:=hfz8 (i * 7 + 4)
      have z5:=hfz8 (i * 7 + 5)
      have z6:=hfz8 (i * 7 + 6)
      obtain ⟨W9,hW9⟩:∃ W9,set7 w8 g i (.int .i64 Y.1) (.int .i64 Y.2.1.1) (.slice b2 m2 f2) (.int .i64 Y.2.2.n) (.slice b4 m4 f4) (.slice b5 m5 f5) (.slice b6 m6 f6)=W9:=⟨_,rfl⟩
      have HW9:=Lib.hid hW9
      unfold set7 at hW9
      have HB8:=Lib.hid hw8
      clear hw8 hv8 hfz8 x0 x1 x2 x3 x4 x5 x6 y0 y1 d0 d1 d2 d3 d4 d5 d6 HBOTH
      go_simp
      go_wp2_with (fail)
      go_roundw
      case rel=>
       refine ⟨k + 1,.slice (some ⟨g,0,none⟩) L'.length cp,us'.set i [.int .i64 Y.1,.int .i64 Y.2.1.1,.slice b2 m2 f2,.int .i64 Y.2.2.n,.slice b4 m4 f4,.slice b5 m5 f5,.slice b6 m6 f6],V',by omega,by go_num,?_⟩
       have hfo:putG L' x=L'.set i Y:=by
        obtain ⟨hjl,hi⟩:=HI.out
        have:=first_one (T:=T) (x:=x) (L:=L') (j:=j) (by rw [HID.out];exact hjl) (fun j' h hjj h'=>by simp only [HID.out] at h' ⊢;exact HNO.out j' (by rw [← HID.out];exact h) hjj h') (by simp only [HID.out,hi];exact hiL) (by simp only [HID.out,hi];exact HONE.out)
        simp only [HID.out,hi] at this
        rw [this,← HY.out]
       have hgs:=HG8.out.set hiL HGR.out (by rw [← HY.out];rfl)
       rw [HW9.out] at hgs
       rw [← HNX.out,hfo]
       refine ⟨hgs,tch_step HPU.out.tch HPU.out.own ((Tch.new (Bt HBW.out (Bt HB6.out HB8.out))).trans (by rw [← HW9.out];exact set7_tch (.inr (.inr (.inl rfl))))),HPU.out.own⟩
      case measure=>simp [intOf];omega
    ·have hji:¬ (j:Int) < (idx.length:Int):=by omega
     go_wp2_with (fail)
     have HPE:=Lib.hid (show putG L' x=L' ++ [x] from putG_end (none_one (T:=T) fun i hi h=>by
      rw [HID.out] at hi
      obtain ⟨j',hj',rfl⟩:=List.mem_iff_getElem.1 hi
      exact HNO.out j' hj' (by omega) h))
     obtain ⟨va',vc',rfl⟩:=HG2.out.shape
     have hrow:=HG2.out.rowAt (nameG T x)
     rw [HID.out,HRL.out] at hrow
     obtain ⟨G,hG⟩:∃ G,(Value.slice ra idx.length rc).ownBlock=G:=⟨_,rfl⟩
     have hbk:∀ b,G=some b→N≤b∧b < wr.heap.size∧(Value.slice va' L'.length vc').ownBlock≠some b:=fun b hb=>HG2.out.rowBlk (s:=nameG T x) (by rw [HRL.out,hG];exact hb)
     have hgbG:G≠some gb:=fun e=>by have:=(hbk gb e).1;have:=HG2.out.gbN;omega
     have hmbG:G≠some mb:=fun e=>by have:=(hbk mb e).1;have:=HG2.out.mbN;omega
     obtain ⟨⟨y0,y1⟩,_⟩:=can2 HG2.out.box
     have HVV:=Lib.hid (show ∀ V2,(tw G none idx.length (.int .i64 (L'.length:Nat)) undef).r wr V2→V2.cell? ⟨gb,0,none⟩=some (.slice va' L'.length vc')∧V2.cell? ⟨gb,1,none⟩=some (.map (some mb))∧(Instr.lookup 99 (.map (some mb)) (.string (nameG T x)) false).run Tryz.prog V2 = .ok (.slice ra idx.length rc) V2 from fun V2 hr=>by
      refine ⟨(tw_at hr hgb2 hgbG (by simp)).trans y0,(tw_at hr hgb2 hgbG (by simp)).trans y1,?_⟩
      rw [← HRL.out]
      exact (HG2.out.map.keep (tw_block hr (by have:=HG2.out.mbN;have:=HG2.out.NW;omega) hmbG (by simp))).look HNS.out)
     have HBK:=Lib.hid hbk
     have HGe:=Lib.hid hG
     have HLX:=Lib.hid (show (idx.map fun i=>Value.int .i64 (i:Nat)).length=idx.length by simp)
     obtain ⟨j0,hjj,hw0,hw1,hw2⟩:=info_parts infoInt6
     have HAP:=Lib.hid (show ∀ V2,(tw G none idx.length (.int .i64 (L'.length:Nat)) undef).r wr V2→∀ u,newOne G none (.int .i64 (L'.length:Nat)) u V2→∃ v' V3,(Builtin.append_ #[65,65] 65 #[.slice ra idx.length rc,u]).run Tryz.prog V2 = .ok v' V3∧(tw G none idx.length (.int .i64 (L'.length:Nat)) undef).r V2 V3∧app0 G N wr.heap.size idx.length 3 ((idx.map fun i=>Value.int .i64 (i:Nat)) ++ [.int .i64 (L'.length:Nat)]) v' V3 from fun V2 hr u hu=>by
      obtain ⟨h,rfl,_,_,_,hc⟩:=hu
      have hNW:=HG2.out.NW
      obtain ⟨v',V3,hrun,h2,h5,⟨q1,q2,q3,q4⟩,h6⟩:=app_own (ty:=65) (z:=.int .i64 (L'.length:Nat)) Tryz.underlying65 hjj hw0 hw1 hw2 rfl (tw_owns hrow hr) h hc rfl (by unfold maxLen;omega) (by omega) (by have:=hr.2.2.2.1;omega)
      refine ⟨v',V3,hrun,⟨q1,q2,q3,q4,fun b hb=>(h6 b hb).imp id fun ⟨e1,e2⟩ => .inl ⟨by rw [← HGe.out];exact e1,e2⟩⟩,h2,fun b hb => ?_⟩
      rcases h5 with e | e
      ·rw [e,HGe.out] at hb;exact .inl hb
      ·rw [e] at hb
       have e1:=Option.some.inj hb
       have:=hr.2.2.2.1
       exact .inr (by omega))
     clear hrow hG hbk y0 y1
     refine FlowR.wp_region_flow_tail (R:=tw G none idx.length (.int .i64 (L'.length:Nat)) undef) 18 (FlowR.specs 44 (fun _ => .inl undef) (.inl ?_ :: .inl ?_ :: .inl ?_ :: .inl ?_ :: .inl ?_ :: .inl ?_ :: .inl ?_ :: .inl ?_ :: .inl ?_ :: .inl ?_ :: .inl ?_ :: .inl ?_ :: .inl ?_ :: .inl ?_ :: .inl ?_ :: .inl ?_ :: .inr (newOne G none (.int .i64 (L'.length:Nat))) :: .inr (app0 G N wr.heap.size idx.length 3 ((idx.map fun i=>Value.int .i64 (i:Nat)) ++ [.int .i64 (L'.length:Nat)])) :: [])) (fun _=>0) (FlowR.specs_ok (by kernel_rfl)) (by kernel_rfl) (by kernel_rfl) ?_ ?_
     rotate_left 16
     ·refine FlowR.specs_mono (fun _=>FlowR.mono_inl undef) ?_
      repeat (first | exact FlowR.lmono_nil | refine FlowR.lmono_inl ?_ | refine FlowR.lmono_inr (newOne_mono _) ?_ | refine FlowR.lmono_inr (app0_mono HLX.out) ?_)
     all_goals try simp only [List.take_succ_cons,List.take_zero,List.drop_succ_cons,List.drop_zero]
     iterate 16 (refine FlowR.tree_valK rfl (fun K hK=>⟨fun V hw hG => ?_,?_⟩);(obtain ⟨t1,t2,t3⟩:=HVV.out V hw;clear hG hw;unfold FlowR.Runs FlowR.yields;go_simp;try rfl);go_simp;refine hK _ ?_;clear hK K)
     (refine FlowR.tree_varK rfl (fun K hK=>⟨fun V hw hG => ?_,?_⟩);(have hVs:=hw.2.2.2.1;have hg1:G≠some V.heap.size:=fun e=>(by have:=(HBK.out _ e).2.1;omega);clear hG hw;unfold FlowR.Runs FlowR.yields;go_simp;exact ⟨tw_alloc _,(⟨V.heap.size,rfl,by simp,hg1,by simp,cell_of_row _ _ 0 _ _ _ (heap_alloc_new V _)⟩:newOne G none (.int .i64 (L'.length:Nat)) (.slice (some ⟨V.heap.size,0,none⟩) 1 1) (V.alloc _))⟩);intro vn1;go_simp;refine hK _ _ ?_;clear hK K)
     (refine FlowR.tree_varK rfl (fun K hK=>⟨fun V hw hG => ?_,?_⟩);(have hno:=(show newOne G none (.int .i64 (L'.length:Nat)) vn1 V by simpa [FlowR.upd] using hG 16 (by kernel_rfl));obtain ⟨v',V2,hrun,hR2,hT2⟩:=HAP.out V hw vn1 hno;clear hG hw hno;exact runs_append (t:=65) (.tmp 63) (.tmp 69) rfl rfl rfl rfl hrun hR2 hT2);intro v17;go_simp;refine hK _ _ ?_;clear hK K)
     refine FlowR.tree_nil fun w5 hw5 hG => ?_
     obtain ⟨ho17,hloc17⟩:=(show app0 G N wr.heap.size idx.length 3 ((idx.map fun i=>Value.int .i64 (i:Nat)) ++ [.int .i64 (L'.length:Nat)]) v17 w5 by simpa [FlowR.upd] using hG 17)
     clear hG
     have hg5:wr.grownBy w5 (valO (V' (nameG T x))).ownBlock:=by
      rw [HRL.out,HGe.out]
      exact ⟨hw5.1,hw5.2.1,hw5.2.2.1,hw5.2.2.2.1,fun b hb hne=>tw_block hw5 hb (fun e=>hne e.symm) (by simp)⟩
     obtain ⟨gx,cx,rfl,hgxN,hgx,_⟩:=owns_cell_any ho17 (by omega)
     obtain ⟨W6,hrun,hm6,hg6⟩:=(HG2.out.map.keep (tw_block hw5 (by have:=HG2.out.mbN;have:=HG2.out.NW;omega) hmbG (by simp))).store (by unfold maxLen;omega) HNS.out (gx,idx.length + 1,cx)
     have hrun:(Instr.mapUpdate 99 (.map (some mb)) (.string (nameG T x)) (.slice (some ⟨gx,0,none⟩) (idx.length + 1) cx)).run Tryz.prog w5 = .ok () W6:=hrun
     have HRUN:=Lib.hid hrun
     have hpS:∀ b,p b∧b < w.heap.size→¬ GS.S gb mb (.slice va' L'.length vc') V' b:=fun b hb h=>(HPU.out.own b h).elim (HP.out b hb.1) (fun h=>by have:=hb.2;omega)
     have hX6:GrpAt (fun b=>p b∧b < w.heap.size) W6 _ x:=((HX.out.ag (Ag.new _ (Bt (Bt HKB.out HB3.out) HB2.out))).ag ⟨hg5.size,fun b hb hq=>hg5.block b hb fun e=>hpS b hq (GS.S_row e.symm)⟩).ag ⟨hg6.size,fun b hb hq=>hg6.block b hb fun e=>hpS b hq (.inr (.inl (Option.some.inj e)))⟩
     have hk6:W6.heap[wa.heap.size]? = _:=(hg6.block _ (by have:=hg5.size;omega) (fun e=>by have:=HPU.out.gs.mbN;have:=HPU.out.gs.NW;have:=Option.some.inj e;omega)).trans ((hg5.block _ hbx2 (fun e=>by have:=(HPU.out.gs.rowBlk e.symm).2.1;omega)).trans hk2)
     have hxo:=HXO.out
     have HOWN:=Lib.hid (show ∀ W,Below W6.heap.size W6 W→Calls Tryz.prog 76 #[.agg #[.int .i64 x.1,.int .i64 x.2.1.1,.slice a2 n2 c2,.int .i64 x.2.2.n,.slice a4 n4 c4,.slice a5 n5 c5,.slice a6 n6 c6]] W fun e w' => ∃ v',e = .returned v'∧isGrp (fun b=>W6.heap.size≤b) x v' w'∧Below W.heap.size W w' from fun W hB=>by
      refine (own7_any _ _ x W (hX6.ag (Ag.new _ hB)) ⟨by have:=hxo.len;omega,by have:=hxo.pay.len.1;omega,by have:=hxo.pay.len.2.1;omega,by have:=hxo.pay.len.2.2;omega⟩).mono ?_
      rintro e w' ⟨cs',rfl,h1,h2⟩
      exact ⟨_,rfl,⟨cs',rfl,h1.weak fun b hb=>by have:=hB.size;omega⟩,h2⟩)
     have hb6:=(HG2.out.ownAt hg5 hg6 (Below.refl _ _)).2
     have HG5:=Lib.hid hg5
     have HG6:=Lib.hid hg6
     have HM6:=Lib.hid hm6
     have HO17:=Lib.hid ho17
     have HLC:=Lib.hid hloc17
     obtain ⟨⟨y0,y1⟩,_⟩:=can2 hb6
     obtain ⟨⟨x0,x1,x2,x3,x4,x5,x6⟩,_⟩:=can7 hk6
     have hgb6:gb < W6.heap.size:=(Array.getElem?_eq_some_iff.1 hb6).1
     have hbx6:wa.heap.size < W6.heap.size:=(Array.getElem?_eq_some_iff.1 hk6).1
     obtain ⟨i0,hi,hz0,hz1,hz2⟩:=info_parts infoGrp6
     clear hg5 hg6 hm6 ho17 hloc17 hpS hX6 hk6 hb6 hxo hw5 hw0 hw1 hw2 hjj hk2
     go_wp2_with (refine wpList_mapUpdate_run rfl _ _ _ _ rfl rfl rfl rfl HRUN.out ?_)
     refine FlowQ.wp_region 8 [8,9,10,11] (.pointer (some ⟨gb,0,none⟩)) (Flow.specs [.inl undef,.inl ?_,.inl ?_,.inl ?_,.inl ?_,.inl ?_,.inr (isGrp (fun b=>W6.heap.size≤b) x),.inr (newGrp (fun b=>W6.heap.size≤b) x)]) (by kernel_rfl) (by kernel_rfl) ?_ rfl (fun w' _=>by go_simp) ?_
     rotate_left 5
     ·refine Flow.specs_mono ?_
      repeat (first | exact Flow.lmono_nil | refine Flow.lmono_inl ?_ | refine Flow.lmono_inr (isGrp_mono _ _) ?_ | refine Flow.lmono_inr (newGrp_mono _ _) ?_)
     all_goals try simp only [Nat.reduceSub,List.take_succ_cons,List.take_zero]
     iterate 5 (refine Flow.tree_valK rfl (fun K hK=>⟨fun w hw hG => ?_,?_⟩);(have hcl:=Flow.bcell hw;clear hG hw;unfold Flow.Runs Flow.yields;go_simp;try rfl);go_simp;refine hK _ ?_;clear hK K)
     (refine Flow.tree_varK rfl (fun K hK=>⟨fun w hw hG => ?_,?_⟩);(have HW:=Lib.hid hw;clear hG hw;unfold Flow.Runs Flow.yields;go_simp;refine (HOWN.out _ HW.out).mono ?_;rintro e w7 ⟨v7,rfl,hf7,hb7⟩;exact ⟨v7,rfl,hb7,hf7⟩);intro v6;go_simp;refine hK _ _ ?_;clear hK K)
     (refine Flow.tree_varK rfl (fun K hK=>⟨fun w hw hG => ?_,?_⟩);(obtain ⟨cs',rfl,hg7⟩:=(show isGrp (fun b=>W6.heap.size≤b) x v6 w by simpa [Flow.upd] using hG 6 (by kernel_rfl));have HGS:=Lib.hid hg7;obtain ⟨vd',vs',vm',vx',rfl,hd',hps'⟩:=hg7;obtain ⟨b2,f2,rfl⟩:=hd'.shape;obtain ⟨b4,f4,rfl⟩:=hps'.sums.shape;obtain ⟨b5,f5,rfl⟩:=hps'.mins.shape;obtain ⟨b6,f6,rfl⟩:=hps'.maxs.shape;clear hG hw hd' hps';unfold Flow.Runs Flow.yields;generalize (x.2.1.2.map Tess.valOf).length=m2 at *;generalize x.2.2.sums.length=m4 at *;generalize x.2.2.mins.length=m5 at *;generalize x.2.2.maxs.length=m6 at *;go_simp;exact ⟨(laid1 _ _).2.2,newGrp_mk _ _ HGS.out⟩);intro v7;go_simp;refine hK _ _ ?_;clear hK K)
     refine Flow.tree_nil fun w8 hw8 hG => ?_
     obtain ⟨gn,cs',rfl,hgn,hcn,hgx8⟩:=(show newGrp (fun b=>W6.heap.size≤b) x v7 w8 by simpa [Flow.upd] using hG 7)
     have HCS:=Lib.hid hgx8
     obtain ⟨vd',vs',vm',vx',rfl,hd',hps'⟩:=hgx8
     obtain ⟨b2,f2,rfl⟩:=hd'.shape
     obtain ⟨b4,f4,rfl⟩:=hps'.sums.shape
     obtain ⟨b5,f5,rfl⟩:=hps'.mins.shape
     obtain ⟨b6,f6,rfl⟩:=hps'.maxs.shape
     generalize (x.2.1.2.map Tess.valOf).length=m2 at *
     generalize x.2.2.sums.length=m4 at *
     generalize x.2.2.mins.length=m5 at *
     generalize x.2.2.maxs.length=m6 at *
     obtain ⟨ho8,hb8⟩:=HG2.out.ownAt HG5.out HG6.out hw8
     have HO8:=Lib.hid ho8
     have HB8:=Lib.hid hb8
     have HW8:=Lib.hid hw8
     have HCN:=Lib.hid hcn
     have hus:us'.length≤1000000:=by have:=HG2.out.own.len;omega
     have hN8:N≤w8.heap.size:=by have:=HG2.out.NW;have:=HG5.out.size;have:=HG6.out.size;have:=hw8.size;omega
     have hgbN:gb < N:=HG2.out.gbN
     clear hG hd' hps' ho8 hb8 hw8 hcn x0 x1 x2 x3 x4 x5 x6 y0 y1 HOWN
     refine ⟨?_,?_⟩
     all_goals
      go_wp2_with (at_builtin;refine wpList_append_own_at _ rfl _ _ 45 rfl N 56 i0 (.agg #[.int .i64 0,.int .i64 0,.slice none 0 0,.int .i64 0,.slice none 0 0,.slice none 0 0,.slice none 0 0]) 7 120 Tryz.underlying45 hi hz0 hz1 hz2 rfl (by decide) _ _ _ rfl HO8.out ⟨gn,0,none⟩ 1 1 [.int .i64 x.1,.int .i64 x.2.1.1,.slice b2 m2 f2,.int .i64 x.2.2.n,.slice b4 m4 f4,.slice b5 m5 f5,.slice b6 m6 f6] rfl rfl ?c1 (grp_nest.one HCS.out) ?c2 ?c3 ?c4 ?_)
      case c1=>intro j u hj;rw [show (⟨gn,0,none⟩:Addr).add j=⟨gn,j,none⟩ by unfold Addr.add;split <;> simp_all];exact HCN.out j u hj
      case c2=>unfold maxLen;omega
      case c3=>omega
      case c4=>exact hN8
      intro v9 w9 hown9 hgrow9 hnil9 hloc9
      have hb9:=(hgrow9.block gb (Array.getElem?_eq_some_iff.1 HB8.out).1 (fun e=>by have:=(HO8.out.lt gb e.symm).1;omega)).trans HB8.out
      obtain ⟨⟨y0,y1⟩,z0,z1⟩:=can2 hb9
      obtain ⟨g9,cp9,rfl,_,_,_⟩:=owns_cell_any hown9 (by omega)
      have HOWN9:=Lib.hid hown9
      have HGR9:=Lib.hid hgrow9
      have HLC9:=Lib.hid hloc9
      clear hown9 hgrow9 hnil9 hloc9 hb9
      go_wp2_with (fail)
      refine ⟨rfl,?_⟩
      go_wp2
      go_roundw
      case rel=>
       have hgs:=HG2.out.more (x:=x) (s:=nameG T x) (r':=(gx,idx.length + 1,cx)) rfl HG5.out (by rw [HID.out]) (by rw [HID.out];exact HO17.out) (by rw [HRL.out,HGe.out];exact HLC.out gx rfl) HG6.out HM6.out HW8.out HCS.out HGR9.out HOWN9.out HLC9.out
       refine ⟨k + 1,.slice (some ⟨g9,0,none⟩) (us'.length + 1) cp9,us' ++ [[.int .i64 x.1,.int .i64 x.2.1.1,.slice b2 m2 f2,.int .i64 x.2.2.n,.slice b4 m4 f4,.slice b5 m5 f5,.slice b6 m6 f6]],(fun s'=>if s'=nameG T x then some (gx,idx.length + 1,cx) else V' s'),by omega,by go_num,?_⟩
       rw [← HNX.out,HPE.out]
       have hwr:w.heap.size≤wr.heap.size:=by have:=HPU.out.tch.size;have:=HKB.out.size;have:=HB3.out.size;have:=HB2.out.size;have:=HKS.out;omega
       have hw8s:wr.heap.size≤w8.heap.size:=by have:=HG5.out.size;have:=HG6.out.size;have:=HW8.out.size;omega
       refine ⟨hgs,tch_step HPU.out.tch HPU.out.own ((Tch.new (Bt (Bt HKB.out HB3.out) HB2.out)).trans ((Tch.grown HG5.out fun b e=>GS.S_row e).trans ((Tch.grown HG6.out fun b e => .inr (.inl (Option.some.inj e).symm)).trans ((Tch.new HW8.out).trans ((Tch.grown HGR9.out fun b e => .inr (.inr (.inl e))).trans (Tch.set _ _ _ (.inl rfl))))))),fun b hb => ?_⟩
       rcases hb with rfl | rfl | hb | ⟨s2,r2,hr2,rfl⟩
       ·exact HPU.out.own _ (.inl rfl)
       ·exact HPU.out.own _ (.inr (.inl rfl))
       ·rcases HLC9.out with e | e
        ·rw [e] at hb;exact HPU.out.own _ (.inr (.inr (.inl hb)))
        ·rw [e] at hb
         have:=Option.some.inj hb
         exact .inr (by omega)
       ·by_cases e:s2=nameG T x
        ·simp only [if_pos e,Option.some.injEq] at hr2
         subst hr2
         rcases HLC.out gx rfl with h5 | h5
         ·exact HPU.out.own _ (GS.S_row (s:=nameG T x) (by rw [HRL.out,HGe.out];exact h5))
         ·exact .inr (by show w.heap.size≤gx;omega)
        ·simp only [if_neg e] at hr2
         exact HPU.out.own _ (.inr (.inr (.inr ⟨s2,r2,hr2,rfl⟩)))
      case measure=>simp [intOf];omega
  ·have hki:¬ (k:Int) < (A.length:Int):=by omega
   obtain rfl:k=A.length:=by omega
   rw [List.take_length] at hput
   have HPU:=Lib.hid hput
   clear hput
   go_wp2
   go_end0
   exact ⟨_,_,_,_,rfl,HPU.out⟩
end Go.Proofs.YtaddkkkchkdgkaaGreatDoor
