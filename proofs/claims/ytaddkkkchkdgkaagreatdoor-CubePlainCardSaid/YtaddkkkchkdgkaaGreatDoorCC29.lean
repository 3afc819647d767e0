/- Groups put to groups: walked. -/
import Derived.Test.YtaddkkkchkdgkaaGreatDoorCC27
import Derived.Test.YtaddkkkchkdgkaaGreatDoorCC28
import Derived.Test.YtaddkkkchkdgkaaGreatDoorCC15
namespace Go.Proofs.YtaddkkkchkdgkaaGreatDoor
open Go.RowKit Go.Sort
open Tess (CK Pay PO)
theorem infoInt6:(Tryz.prog.info? 3).map (fun i=>(i.zero,i.size,i.bytes))=some (some (.int .i64 0),1,8):=by kernel_rfl
def app0 (G:Option Nat) (N M k:Nat) (e:TypeId) (xs:List Value) (v:Value) (W:World):Prop:=W.ownsRow N e 1 v (k + 1) xs∧∀ b,v.ownBlock=some b→G=some b∨M≤b
theorem app0_mono {G:Option Nat} {k N M:Nat} {x y:Value} {e:TypeId} {xs:List Value} (hxs:xs.length=k):FlowR.Spec.mono (tw G none k x y) (.inr (app0 G N M k e (xs ++ [x]))):=by
 rintro v a b ⟨h1,h2⟩ hr
 exact ⟨tw_owns1 h1 hxs hr (fun _ _ _=>rfl) (fun c hc hH=>by cases hH),h2⟩
def isGrp (q:Nat→Prop) (y:Grp) (v:Value) (W:World):Prop:=∃ cs,v = .agg cs.toArray∧GA2 q W cs y
theorem iGm (q:Nat→Prop) (y:Grp):Flow.Spec.mono (.inr (isGrp q y)):=fun _ _ _ ⟨cs,h1,h2⟩ hb=>⟨cs,h1,h2.ag (Ag.new _ hb)⟩
def newGrp (q:Nat→Prop) (y:Grp) (v:Value) (W:World):Prop:=∃ g cs,v = .slice (some ⟨g,0,none⟩) 1 1∧g < W.heap.size∧(∀ j u,cs[j]? = some u→W.cell? ⟨g,j,none⟩=some u)∧GA2 q W cs y
theorem newGrp_mono (q:Nat→Prop) (y:Grp):Flow.Spec.mono (.inr (newGrp q y)):=fun _ _ _ ⟨g,cs,h1,h2,h3,h4⟩ hb=>⟨g,cs,h1,Nat.lt_of_lt_of_le h2 hb.size,fun j u h=>(hb.cell (p:=⟨g,j,none⟩) h2).trans (h3 j u h),h4.ag (Ag.new _ hb)⟩
theorem newGrp_mk {q:Nat→Prop} {y:Grp} {cs:List Value} (w:World) (t:TypeId) (h:GA2 q w cs y):newGrp q y (.slice (some ⟨w.heap.size,0,none⟩) 1 1) (w.alloc (.cells cs.toArray t)):=
 ⟨_,cs,rfl,by simp,fun j u h=>by rw [cell_of_row _ _ j _ _ _ (heap_alloc_new _ _)];simpa using h,h.ag (Ag.new _ (la2 _ _).2.2)⟩
theorem infoGrp6:(Tryz.prog.info? 56).map (fun i=>(i.zero,i.size,i.bytes))=some (some (.agg #[.int .i64 0,.int .i64 0,.slice none 0 0,.int .i64 0,.slice none 0 0,.slice none 0 0,.slice none 0 0]),7,120):=by kernel_rfl
structure Put (T:Lib.PrintTabs) (N gb mb:Nat) (v:Value) (V:ByteArray→RowV) (w W:World) (v':Value) (us':List (List Value)) (V':ByteArray→RowV) (L':List Grp):Prop where
 gs:GS T N gb mb W v' us' V' L'
 tch:Tch (GS.S gb mb v V) w W
 own:∀ b,GS.S gb mb v' V' b→GS.S gb mb v V b∨w.heap.size≤b
set_option maxRecDepth 100000 in
set_option maxHeartbeats 4000000 in
theorem addG_any {T:Lib.PrintTabs} (N gb mb B M:Nat) (p:Nat→Prop) (A:List Grp) (va v:Value) (us:List (List Value)) (V:ByteArray→RowV) (L:List Grp) (w:World) (hG:GS T N gb mb w v us V L) (hA:GA3 p w va A) (hp:∀ b,p b→¬ GS.S gb mb v V b)
  (hAo:∀ x ∈ A,GO2 M x) (hLo:∀ y ∈ L,GO2 M y) (hM:M≤1000) (htot:totG L + totG A≤1000000) (hBw:B≤w.heap.size) (hgb:B≤gb) (hmb:B≤mb) (hV:∀ w',Below B w w'→Vn T w') :
  Calls Tryz.prog 39 #[.pointer (some ⟨gb,0,none⟩),va] w fun e w' => ∃ u v' us' V',e = .returned u∧Put T N gb mb v V w w' v' us' V' (A.foldl putG L):=by
 obtain ⟨a,E5,rfl,_,hl,_,hc⟩:=LA.open hA
 have hl:A.length≤9223372036854775807:=by unfold maxLen at hl;omega
 have HC:=Hd hc
 have HS:=Hd (show ∀ b,GS.S gb mb v V b→B≤b from fun b hb=>hG.S_le hgb hmb hb)
 have D0:=Hd hG
 have HP:=Hd hp
 have Cb:=Hd hAo
 have Dv:=Hd hLo
 have HV:=Hd hV
 have Cg:=Hd htot
 clear hc hG hp hAo hLo hV htot hA
 go_enter Tryz.func39,Tryz.ntmps39
 go_wp2
 refine wp_scope_straight ?_
 go_wp2
 refine wp_label ?_
 go_wp2
 go_loopw [11] (fun i wr => ∃ (k:Nat) (v':Value) (us':List (List Value)) (V':ByteArray→RowV),k≤A.length∧i = .int .i64 k∧Put T N gb mb v V w wr v' us' V' ((A.take k).foldl putG L)) (fun i _=>A.length - (intOf i).toNat)
 case atStart=>exact ⟨0,v,us,V,Nat.zero_le _,rfl,D0.out,Tch.refl _ _,fun b hb => .inl hb⟩
 case round=>
  obtain ⟨k,v',us',V',hk,rfl,Ad⟩:=hrel
  obtain ⟨wa,Dp⟩:∃ wa,wa=wr:=⟨_,rfl⟩
  subst Dp
  by_cases hlt:k < A.length
  ·have Dt:(k:Int) < (A.length:Int):=by omega
   obtain ⟨b,Ew,rfl,hb,Do,cs,_,hR,Ab⟩:=HC.out k hlt
   have Au:=Ad.tch.block b hb (HP.out b Do)
   have Dk:Ag p w wa:=Ad.tch.ag HP.out
   have HX:=Hd ((gn2.lt hR).ag (Dk.weak fun b hb=>hb.1))
   have Cw:=Hd (show Below B w wa from Ad.tch.below hBw HS.out)
   have Ak:=Cb.out _ (List.getElem_mem hlt)
   have Ax:=Hd (show ∀ y ∈ (A.take k).foldl putG L,GO2 M y from fGo (fun x hx=>Cb.out x (List.mem_of_mem_take hx)) Dv.out)
   have Bb:=Hd (show totG ((A.take k).foldl putG L) + A[k].2.2.n≤1000000 from by
    have:=takeG_tot Cb.out hlt
    have:=Cg.out
    rw [fGt];omega)
   have C8:=Hd (takeG_fold (L:=L) hlt)
   have Ae:=Hd Ad
   obtain ⟨vd,vs,vm,vx,rfl,hd,B4⟩:=hR
   obtain ⟨a2,c2,rfl⟩:=hd.shape
   obtain ⟨a4,c4,rfl⟩:=B4.sums.shape
   obtain ⟨a5,c5,rfl⟩:=B4.mins.shape
   obtain ⟨a6,c6,rfl⟩:=B4.maxs.shape
   have kc:∀ o,wa.cell? ⟨b,o,none⟩=w.cell? ⟨b,o,none⟩:=fun o=>World.cell?_of_block (a:=⟨b,o,none⟩) Au
   have e0:=(kc _).trans (Ab 0 (by omega))
   have e1:=(kc _).trans (Ab 1 (by omega))
   have e2:=(kc _).trans (Ab 2 (by omega))
   have e3:=(kc _).trans (Ab 3 (by omega))
   have e4:=(kc _).trans (Ab 4 (by omega))
   have e5:=(kc _).trans (Ab 5 (by omega))
   have e6:=(kc _).trans (Ab 6 (by omega))
   simp only [Nat.add_zero,List.getElem?_cons_zero,List.getElem?_cons_succ] at e0 e1 e2 e3 e4 e5 e6
   have E7:b < wa.heap.size:=Nat.lt_of_lt_of_le hb Ad.tch.size
   clear Ab Au Dk hd B4 Ad kc Do
   generalize (A.take k).foldl putG L=L' at *
   have Aq:=Hd Ak
   clear Ak
   generalize A[k]=x at *
   obtain ⟨n2,Cs⟩:∃ n2,(x.2.1.2.map Tess.valOf).length=n2:=⟨_,rfl⟩
   obtain ⟨n4,Cx⟩:∃ n4,x.2.2.sums.length=n4:=⟨_,rfl⟩
   obtain ⟨n5,C0⟩:∃ n5,x.2.2.mins.length=n5:=⟨_,rfl⟩
   obtain ⟨n6,C6⟩:∃ n6,x.2.2.maxs.length=n6:=⟨_,rfl⟩
   rw [Cs] at HX e2
   rw [Cx] at HX e4
   rw [C0] at HX e5
   rw [C6] at HX e6
   clear Cs Cx C0 C6
   obtain ⟨W1,Dd⟩:∃ W1,wa.alloc (.cells #[.int .i64 x.1,.int .i64 x.2.1.1,.slice a2 n2 c2,.int .i64 x.2.2.n,.slice a4 n4 c4,.slice a5 n5 c5,.slice a6 n6 c6] 56)=W1:=⟨_,rfl⟩
   obtain ⟨k1,kS,kB⟩:=la2 wa (.cells #[.int .i64 x.1,.int .i64 x.2.1.1,.slice a2 n2 c2,.int .i64 x.2.2.n,.slice a4 n4 c4,.slice a5 n5 c5,.slice a6 n6 c6] 56)
   rw [Dd] at k1 kS kB
   obtain ⟨⟨x0,x1,x2,x3,x4,x5,x6⟩,_⟩:=can7 k1
   have D5:=Hd k1
   have Ci:=Hd kS
   have Bo:=Hd kB
   have D1:=Hd (show Calls Tryz.prog 74 #[.agg #[.int .i64 x.1,.int .i64 x.2.1.1,.slice a2 n2 c2,.int .i64 x.2.2.n,.slice a4 n4 c4,.slice a5 n5 c5,.slice a6 n6 c6]] W1 fun e w'=>e = .returned (.string (nG T x))∧Below W1.heap.size W1 w' from
    name_any _ _ x W1 (HV.out _ (Cw.out.trans (kB.mono (by have:=Cw.out.size;omega)))) (HX.out.ag (Ag.new _ kB)) Aq.out.set Aq.out.time Aq.out.size Aq.out.len)
   clear k1 kS kB
   have Ce:=Hd (nameG_size T Aq.out)
   go_wp2_with (fail)
   go_at_call 74
   refine D1.out.mono ?_
   rintro e w3 ⟨rfl,B1⟩
   have Bs:=Bt Bo.out B1
   have Bj:=Hd (Ae.out.gs.below Bs)
   have Ba:=Hd B1
   have Dm:=(B1.block wa.heap.size (by rw [Ci.out];omega)).trans D5.out
   have Dr:=Hd Dm
   obtain ⟨⟨y0,y1⟩,_⟩:=can2 Bj.out.box
   obtain ⟨ra,rc,A3⟩:=Bj.out.len (nG T x)
   have C3:=Bj.out.map.look Ce.out
   obtain ⟨idx,Ap⟩:∃ idx,idxF T (nG T x) 0 L'=idx:=⟨_,rfl⟩
   have Aj:=Hd Ap
   rw [Ap] at A3
   rw [A3] at C3
   have Eu:L'.length≤1000000:=by
    have h1:=(tGl Ax.out).1
    have h2:=Bb.out
    have h3:=Aq.out.pay.one
    omega
   have Cj:idx.length≤1000000:=by
    have:=idxF_len (T:=T) (s:=nG T x) L' 0
    rw [Ap] at this;omega
   have A2:=Hd A3
   have D4:gb < w3.heap.size:=(Array.getElem?_eq_some_iff.1 Bj.out.box).1
   clear B1 Bs Dm x0 x1 x2 x3 x4 x5 x6 e0 e1 e2 e3 e4 e5 e6 Dd
   go_wp2_with (fail)
   clear C3 A3 Ap y0 y1
   go_loopw [24] (fun i wr => ∃ (j:Nat),j≤idx.length∧i = .int .i64 j∧(∀ j' (h:j' < idx.length),j' < j→∀ h':idx[j'] < L'.length,oneB L'[idx[j']] x=false)∧Below w3.heap.size w3 wr) (fun i _=>idx.length - (intOf i).toNat)
   case atStart=>exact ⟨0,Nat.zero_le _,rfl,fun j' _ h=>absurd h (Nat.not_lt_zero _),Below.refl _ _⟩
   case round=>
    obtain ⟨j,hj,rfl,Bw,B3⟩:=hrel
    have Cf:=Hd Bw
    have Bf:=Hd B3
    have A8:=(B3.block wa.heap.size (by have:=Ba.out.size;have:=Ci.out;omega)).trans Dr.out
    have Ac:=Hd (Bj.out.below B3)
    have Bn:gb < wr.heap.size:=(Array.getElem?_eq_some_iff.1 Ac.out.box).1
    have Bd:wa.heap.size < wr.heap.size:=(Array.getElem?_eq_some_iff.1 A8).1
    by_cases A1:j < idx.length
    ·have D2:(j:Int) < (idx.length:Int):=by omega
     have Bu:=List.getElem_mem A1
     obtain ⟨A4,De⟩:=idxF_in (T:=T) (s:=nG T x) (L:=L') (i:=idx[j]) (by rw [Aj.out];exact Bu)
     obtain ⟨gr,cr,A3,Fb,_,Co⟩:=Ac.out.idx (s:=nG T x) (j:=j) (by rw [Aj.out];exact A1)
     simp only [Aj.out,A2.out,Value.slice.injEq,true_and] at A3 Co
     obtain ⟨rfl,rfl⟩:=A3
     obtain ⟨g,cp,q0,q1,q2,q3,q4,q5,q6,rfl,E2,E0,⟨d0,d1,d2,d3,d4,d5,d6⟩,Cu,A6⟩:=Ac.out.at A4
     have Dz:=Hd A6
     have Ev:=Hd Cu
     have E1:=Hd De
     have Et:=Hd A1
     have E8:((idx[j]:Nat):Int) < (L'.length:Int):=by omega
     have B5:=Hd (Bt (Bt Bo.out Ba.out) Bf.out)
     have Ao:=Hd (fun W (hB:Below wr.heap.size wr W)=>isOne_any _ _ _ _ L'[idx[j]] x W (A6.ag (Ag.new _ hB)) (HX.out.ag (Ag.new _ (Bt B5.out hB))))
     obtain ⟨⟨y0,y1⟩,_⟩:=can2 Ac.out.box
     obtain ⟨⟨x0,x1,x2,x3,x4,x5,x6⟩,_⟩:=can7 A8
     have Ee:=Hd A8
     have E6:L'.length≤9223372036854775807:=by omega
     clear A6 Cu De Bu Bw A8 B3
     generalize hi:idx[j]=i at *
     have HI:=Hd (show ∃ h:j < idx.length,idx[j]=i from ⟨A1,hi⟩)
     clear hi Et A1
     go_wp2_with (fail)
     refine Flow.wrf 8 (Flow.sp3 [.inl ?_,.inl ?_,.inl ?_,.inl ?_,.inl ?_,.inl ?_,.inl ?_,.inl ?_]) (by kernel_rfl) (by kernel_rfl) ?_ ?_
     rotate_left 8
     ·refine Flow.sm2 ?_
      repeat (first | exact Flow.ln2 | refine Flow.li2 ?_)
     all_goals try simp only [List.take_succ_cons,List.take_zero,List.drop_succ_cons,List.drop_zero]
     iterate 8 (refine Flow.tvK rfl (fun K hK=>⟨fun w hw hG => ?_,?_⟩);(have Dh:=Flow.bc4 hw;clear hG hw;unfold Flow.Runs Flow.yields;go_simp;try rfl);go_simp;refine hK _ ?_;clear hK K)
     refine Flow.tn2 fun w5 hw5 hG => ?_
     clear hG
     go_simp
     go_wp2_with (fail)
     go_at_call 40
     refine (Ao.out _ hw5).mono ?_
     rintro e w6 ⟨rfl,A7⟩
     have Bk:=Hd (Bt hw5 A7)
     clear hw5 A7 x0 x1 x2 x3 x4 x5 x6 y0 y1 d0 d1 d2 d3 d4 d5 d6 Co Ao
     cases hone:oneB L'[i] x
     ·go_wp2_with (fail)
      go_roundw
      case rel=>
       refine ⟨j + 1,by omega,by go_num,fun j' Cd Bl hl' => ?_,Bt Bf.out Bk.out⟩
       by_cases hlt':j' < j
       ·exact Cf.out j' Cd hlt' hl'
       ·obtain rfl:j'=j:=by omega
        obtain ⟨_,hi⟩:=HI.out
        simp only [hi];exact hone
      case measure=>simp [intOf];omega
     ·go_wp2_with (fail)
      have Ao:=Hd hone
      clear hone
      have Al:=Hd (Ac.out.below Bk.out)
      have A5:=(Bk.out.block wa.heap.size Bd).trans Ee.out
      obtain ⟨g6,E9,r0,r1,r2,r3,r4,r5,r6,Di,Ei,_,⟨d0,d1,d2,d3,d4,d5,d6⟩,_,As⟩:=Al.out.at A4
      obtain rfl:g=g6:=by have:=congrArg Value.ownBlock Di;simpa [Value.ownBlock] using this
      have Bz:=Ax.out _ (List.getElem_mem A4)
      have Ak:=Aq.out
      have Dy:=(tGl Ax.out).2 _ (List.getElem_mem A4)
      have Eb:=Bb.out
      have Eh:=Bz.pay.one
      have D9:=Ak.pay.one
      have At:=Hd (show ∀ W,Below w6.heap.size w6 W→Calls Tryz.prog 75 #[.agg #[r0,r1,r2,r3,r4,r5,r6],.agg #[.int .i64 x.1,.int .i64 x.2.1.1,.slice a2 n2 c2,.int .i64 x.2.2.n,.slice a4 n4 c4,.slice a5 n5 c5,.slice a6 n6 c6]] W fun e w' => ∃ v',e = .returned v'∧isGrp (fun b=>((N≤b∧oR2 V' b)∧b≠g)∨w6.heap.size≤b) (L'[i].1,L'[i].2.1,L'[i].2.2.add x.2.2) v' w'∧Below W.heap.size W w' from fun W hB=>by
       refine (both_any _ _ _ _ L'[i] x M W (As.ag (Ag.new _ hB)) (HX.out.ag (Ag.new _ (Bt B5.out (Bt Bk.out hB)))) Bz.pay.len Ak.pay.len hM ⟨by omega,by omega⟩ (fun j h1 h2=>Tess.pay_sum Bz.pay Ak.pay (by omega) j h1 h2)).mono ?_
       rintro e w' ⟨Aw,rfl,h1,h2⟩
       exact ⟨_,rfl,⟨Aw,rfl,h1.weak fun b hb=>hb.imp id fun h=>by have:=hB.size;omega⟩,h2⟩)
      obtain ⟨⟨y0,y1⟩,_⟩:=can2 Al.out.box
      obtain ⟨⟨x0,x1,x2,x3,x4,x5,x6⟩,_⟩:=can7 A5
      have Ca:gb < w6.heap.size:=(Array.getElem?_eq_some_iff.1 Al.out.box).1
      have B7:wa.heap.size < w6.heap.size:=(Array.getElem?_eq_some_iff.1 A5).1
      clear A5 As Bz Ak Dy Eb Eh D9 Di
      refine Flow.wrf 14 (Flow.sp3 [.inl ?_,.inl ?_,.inl ?_,.inl ?_,.inl ?_,.inl ?_,.inl ?_,.inl ?_,.inl ?_,.inl ?_,.inl ?_,.inl ?_,.inl ?_,.inr (isGrp (fun b=>((N≤b∧oR2 V' b)∧b≠g)∨w6.heap.size≤b) (L'[i].1,L'[i].2.1,L'[i].2.2.add x.2.2))]) (by kernel_rfl) (by kernel_rfl) ?_ ?_
      rotate_left 13
      ·refine Flow.sm2 ?_
       repeat (first | exact Flow.ln2 | refine Flow.li2 ?_ | refine Flow.li3 (iGm _ _) ?_)
      all_goals try simp only [List.take_succ_cons,List.take_zero,List.drop_succ_cons,List.drop_zero]
      iterate 13 (refine Flow.tvK rfl (fun K hK=>⟨fun w hw hG => ?_,?_⟩);(have Dh:=Flow.bc4 hw;clear hG hw;unfold Flow.Runs Flow.yields;go_simp;try rfl);go_simp;refine hK _ ?_;clear hK K)
      (refine Flow.tvK2 rfl (fun K hK=>⟨fun w hw hG => ?_,?_⟩);(have HW:=Hd hw;clear hG hw;unfold Flow.Runs Flow.yields;go_simp;refine (At.out _ HW.out).mono ?_;rintro e w7 ⟨v7,rfl,B9,B8⟩;exact ⟨v7,rfl,B8,B9⟩);intro vb;go_simp;refine hK _ _ ?_;clear hK K)
      refine Flow.tn2 fun w8 hw8 hG => ?_
      obtain ⟨Aw,rfl,Ck⟩:=(show isGrp (fun b=>((N≤b∧oR2 V' b)∧b≠g)∨w6.heap.size≤b) (L'[i].1,L'[i].2.1,L'[i].2.2.add x.2.2) vb w8 by simpa [Flow.upd] using hG 13)
      clear hG
      obtain ⟨Y,hY⟩:∃ Y:Grp,(L'[i].1,L'[i].2.1,L'[i].2.2.add x.2.2)=Y:=⟨_,rfl⟩
      rw [hY] at Ck
      have HY:=Hd hY
      have Cr:=Hd (Al.out.below hw8)
      have El:=Al.out.NW
      have Ek:=Hd (show GA2 (fun b=>(N≤b∧oR2 V' b)∧b≠g) w8 Aw Y from Ck.weak fun b hb=>by
       rcases hb with hb | hb
       ·exact hb
       ·exact ⟨⟨by omega,fun s r hr e=>by have:=(Al.out.rL2 hr).2;omega⟩,by omega⟩)
      obtain ⟨Da,Cz,Dj,C4,rfl,Av,Aa⟩:=Ck
      obtain ⟨b2,f2,rfl⟩:=Av.shape
      obtain ⟨b4,f4,rfl⟩:=Aa.sums.shape
      obtain ⟨b5,f5,rfl⟩:=Aa.mins.shape
      obtain ⟨b6,f6,rfl⟩:=Aa.maxs.shape
      clear Av Aa hY
      generalize (Y.2.1.2.map Tess.valOf).length=m2 at *
      generalize Y.2.2.sums.length=m4 at *
      generalize Y.2.2.mins.length=m5 at *
      generalize Y.2.2.maxs.length=m6 at *
      obtain ⟨g8,Fa,s0,s1,s2,s3,s4,s5,s6,Dc,Ed,_,⟨t0,t1,t2,t3,t4,t5,t6⟩,Af,_⟩:=Cr.out.at A4
      obtain rfl:g=g8:=by have:=congrArg Value.ownBlock Dc;simpa [Value.ownBlock] using this
      have z0:=Af (i * 7)
      have z1:=Af (i * 7 + 1)
      have z2:=Af (i * 7 + 2)
      have z3:=Af (i * 7 + 3)
      have z4:=Af (i * 7 + 4)
      have z5:=Af (i * 7 + 5)
      have z6:=Af (i * 7 + 6)
      obtain ⟨W9,Ct⟩:∃ W9,set7 w8 g i (.int .i64 Y.1) (.int .i64 Y.2.1.1) (.slice b2 m2 f2) (.int .i64 Y.2.2.n) (.slice b4 m4 f4) (.slice b5 m5 f5) (.slice b6 m6 f6)=W9:=⟨_,rfl⟩
      have Cv:=Hd Ct
      unfold set7 at Ct
      have B2:=Hd hw8
      clear hw8 Dc Af x0 x1 x2 x3 x4 x5 x6 y0 y1 d0 d1 d2 d3 d4 d5 d6 At
      go_simp
      go_wp2_with (fail)
      go_roundw
      case rel=>
       refine ⟨k + 1,.slice (some ⟨g,0,none⟩) L'.length cp,us'.set i [.int .i64 Y.1,.int .i64 Y.2.1.1,.slice b2 m2 f2,.int .i64 Y.2.2.n,.slice b4 m4 f4,.slice b5 m5 f5,.slice b6 m6 f6],V',by omega,by go_num,?_⟩
       have Es:putG L' x=L'.set i Y:=by
        obtain ⟨A1,hi⟩:=HI.out
        have:=first_one (T:=T) (x:=x) (L:=L') (j:=j) (by rw [Aj.out];exact A1) (fun j' h Bl h'=>by simp only [Aj.out] at h' ⊢;exact Cf.out j' (by rw [← Aj.out];exact h) Bl h') (by simp only [Aj.out,hi];exact A4) (by simp only [Aj.out,hi];exact Ao.out)
        simp only [Aj.out,hi] at this
        rw [this,← HY.out]
       have By:=Cr.out.set A4 Ek.out (by rw [← HY.out];rfl)
       rw [Cv.out] at By
       rw [← C8.out,Es]
       refine ⟨By,tch_step Ae.out.tch Ae.out.own ((Tch.new (Bt B5.out (Bt Bk.out B2.out))).trans (by rw [← Cv.out];exact set7_tch (.inr (.inr (.inl rfl))))),Ae.out.own⟩
      case measure=>simp [intOf];omega
    ·have D2:¬ (j:Int) < (idx.length:Int):=by omega
     go_wp2_with (fail)
     have En:=Hd (show putG L' x=L' ++ [x] from putG_end (none_one (T:=T) fun i hi h=>by
      rw [Aj.out] at hi
      obtain ⟨j',Cd,rfl⟩:=List.mem_iff_getElem.1 hi
      exact Cf.out j' Cd (by omega) h))
     obtain ⟨Cm,Ch,rfl⟩:=Ac.out.shape
     have Az:=Ac.out.rowAt (nG T x)
     rw [Aj.out,A2.out] at Az
     obtain ⟨G,hG⟩:∃ G,(Value.slice ra idx.length rc).ownBlock=G:=⟨_,rfl⟩
     have Bx:∀ b,G=some b→N≤b∧b < wr.heap.size∧(Value.slice Cm L'.length Ch).ownBlock≠some b:=fun b hb=>Ac.out.rowBlk (s:=nG T x) (by rw [A2.out,hG];exact hb)
     have Bp:G≠some gb:=fun e=>by have:=(Bx gb e).1;have:=Ac.out.gbN;omega
     have Bq:G≠some mb:=fun e=>by have:=(Bx mb e).1;have:=Ac.out.mbN;omega
     obtain ⟨⟨y0,y1⟩,_⟩:=can2 Ac.out.box
     have Dx:=Hd (show ∀ V2,(tw G none idx.length (.int .i64 (L'.length:Nat)) undef).r wr V2→V2.cell? ⟨gb,0,none⟩=some (.slice Cm L'.length Ch)∧V2.cell? ⟨gb,1,none⟩=some (.map (some mb))∧(Instr.lookup 99 (.map (some mb)) (.string (nG T x)) false).run Tryz.prog V2 = .ok (.slice ra idx.length rc) V2 from fun V2 hr=>by
      refine ⟨(tw_at hr Bn Bp (by simp)).trans y0,(tw_at hr Bn Bp (by simp)).trans y1,?_⟩
      rw [← A2.out]
      exact (Ac.out.map.keep (tb2 hr (by have:=Ac.out.mbN;have:=Ac.out.NW;omega) Bq (by simp))).look Ce.out)
     have D8:=Hd Bx
     have Br:=Hd hG
     have Eo:=Hd (show (idx.map fun i=>Value.int .i64 (i:Nat)).length=idx.length by simp)
     obtain ⟨j0,Bl,Cq,Dg,C2⟩:=info_parts infoInt6
     have Er:=Hd (show ∀ V2,(tw G none idx.length (.int .i64 (L'.length:Nat)) undef).r wr V2→∀ u,nO G none (.int .i64 (L'.length:Nat)) u V2→∃ v' V3,(Builtin.append_ #[65,65] 65 #[.slice ra idx.length rc,u]).run Tryz.prog V2 = .ok v' V3∧(tw G none idx.length (.int .i64 (L'.length:Nat)) undef).r V2 V3∧app0 G N wr.heap.size idx.length 3 ((idx.map fun i=>Value.int .i64 (i:Nat)) ++ [.int .i64 (L'.length:Nat)]) v' V3 from fun V2 hr u hu=>by
      obtain ⟨h,rfl,_,_,_,hc⟩:=hu
      have El:=Ac.out.NW
      obtain ⟨v',V3,Ai,h2,h5,⟨q1,q2,q3,q4⟩,h6⟩:=app_own (ty:=65) (z:=.int .i64 (L'.length:Nat)) Tryz.underlying65 Bl Cq Dg C2 rfl (tw_owns Az hr) h hc rfl (by unfold maxLen;omega) (by omega) (by have:=hr.2.2.2.1;omega)
      refine ⟨v',V3,Ai,⟨q1,q2,q3,q4,fun b hb=>(h6 b hb).imp id fun ⟨e1,e2⟩ => .inl ⟨by rw [← Br.out];exact e1,e2⟩⟩,h2,fun b hb => ?_⟩
      rcases h5 with e | e
      ·rw [e,Br.out] at hb;exact .inl hb
      ·rw [e] at hb
       have e1:=Option.some.inj hb
       have:=hr.2.2.2.1
       exact .inr (by omega))
     clear Az hG Bx y0 y1
     refine FlowR.wrf (R:=tw G none idx.length (.int .i64 (L'.length:Nat)) undef) 18 (FlowR.sp3 44 (fun _ => .inl undef) (.inl ?_ :: .inl ?_ :: .inl ?_ :: .inl ?_ :: .inl ?_ :: .inl ?_ :: .inl ?_ :: .inl ?_ :: .inl ?_ :: .inl ?_ :: .inl ?_ :: .inl ?_ :: .inl ?_ :: .inl ?_ :: .inl ?_ :: .inl ?_ :: .inr (nO G none (.int .i64 (L'.length:Nat))) :: .inr (app0 G N wr.heap.size idx.length 3 ((idx.map fun i=>Value.int .i64 (i:Nat)) ++ [.int .i64 (L'.length:Nat)])) :: [])) (fun _=>0) (FlowR.so6 (by kernel_rfl)) (by kernel_rfl) (by kernel_rfl) ?_ ?_
     rotate_left 16
     ·refine FlowR.sm2 (fun _=>FlowR.mi undef) ?_
      repeat (first | exact FlowR.ln2 | refine FlowR.li2 ?_ | refine FlowR.li3 (nOm _) ?_ | refine FlowR.li3 (app0_mono Eo.out) ?_)
     all_goals try simp only [List.take_succ_cons,List.take_zero,List.drop_succ_cons,List.drop_zero]
     iterate 16 (refine FlowR.tvK rfl (fun K hK=>⟨fun V hw hG => ?_,?_⟩);(obtain ⟨t1,t2,t3⟩:=Dx.out V hw;clear hG hw;unfold FlowR.Runs FlowR.yields;go_simp;try rfl);go_simp;refine hK _ ?_;clear hK K)
     (refine FlowR.tvK2 rfl (fun K hK=>⟨fun V hw hG => ?_,?_⟩);(have Ez:=hw.2.2.2.1;have D7:G≠some V.heap.size:=fun e=>(by have:=(D8.out _ e).2.1;omega);clear hG hw;unfold FlowR.Runs FlowR.yields;go_simp;exact ⟨tw_alloc _,(⟨V.heap.size,rfl,by simp,D7,by simp,cell_of_row _ _ 0 _ _ _ (heap_alloc_new V _)⟩:nO G none (.int .i64 (L'.length:Nat)) (.slice (some ⟨V.heap.size,0,none⟩) 1 1) (V.alloc _))⟩);intro C1;go_simp;refine hK _ _ ?_;clear hK K)
     (refine FlowR.tvK2 rfl (fun K hK=>⟨fun V hw hG => ?_,?_⟩);(have Bw:=(show nO G none (.int .i64 (L'.length:Nat)) C1 V by simpa [FlowR.upd] using hG 16 (by kernel_rfl));obtain ⟨v',V2,Ai,Ej,D6⟩:=Er.out V hw C1 Bw;clear hG hw Bw;exact ra2 (t:=65) (.tmp 63) (.tmp 69) rfl rfl rfl rfl Ai Ej D6);intro Eq;go_simp;refine hK _ _ ?_;clear hK K)
     refine FlowR.tn2 fun w5 hw5 hG => ?_
     obtain ⟨A0,An⟩:=(show app0 G N wr.heap.size idx.length 3 ((idx.map fun i=>Value.int .i64 (i:Nat)) ++ [.int .i64 (L'.length:Nat)]) Eq w5 by simpa [FlowR.upd] using hG 17)
     clear hG
     have Ay:wr.grownBy w5 (valO (V' (nG T x))).ownBlock:=by
      rw [A2.out,Br.out]
      exact ⟨hw5.1,hw5.2.1,hw5.2.2.1,hw5.2.2.2.1,fun b hb hne=>tb2 hw5 hb (fun e=>hne e.symm) (by simp)⟩
     obtain ⟨gx,cx,rfl,Dq,Ey,_⟩:=oca A0 (by omega)
     obtain ⟨W6,Ai,Cj,A9⟩:=(Ac.out.map.keep (tb2 hw5 (by have:=Ac.out.mbN;have:=Ac.out.NW;omega) Bq (by simp))).store (by unfold maxLen;omega) Ce.out (gx,idx.length + 1,cx)
     have Ai:(Instr.mapUpdate 99 (.map (some mb)) (.string (nG T x)) (.slice (some ⟨gx,0,none⟩) (idx.length + 1) cx)).run Tryz.prog w5 = .ok () W6:=Ai
     have Cn:=Hd Ai
     have Cc:∀ b,p b∧b < w.heap.size→¬ GS.S gb mb (.slice Cm L'.length Ch) V' b:=fun b hb h=>(Ae.out.own b h).elim (HP.out b hb.1) (fun h=>by have:=hb.2;omega)
     have Dl:GA2 (fun b=>p b∧b < w.heap.size) W6 _ x:=((HX.out.ag (Ag.new _ (Bt (Bt Bo.out Ba.out) Bf.out))).ag ⟨Ay.size,fun b hb hq=>Ay.block b hb fun e=>Cc b hq (GS.S_row e.symm)⟩).ag ⟨A9.size,fun b hb hq=>A9.block b hb fun e=>Cc b hq (.inr (.inl (Option.some.inj e)))⟩
     have A5:W6.heap[wa.heap.size]? = _:=(A9.block _ (by have:=Ay.size;omega) (fun e=>by have:=Ae.out.gs.mbN;have:=Ae.out.gs.NW;have:=Option.some.inj e;omega)).trans ((Ay.block _ Bd (fun e=>by have:=(Ae.out.gs.rowBlk e.symm).2.1;omega)).trans A8)
     have Ak:=Aq.out
     have Bv:=Hd (show ∀ W,Below W6.heap.size W6 W→Calls Tryz.prog 76 #[.agg #[.int .i64 x.1,.int .i64 x.2.1.1,.slice a2 n2 c2,.int .i64 x.2.2.n,.slice a4 n4 c4,.slice a5 n5 c5,.slice a6 n6 c6]] W fun e w' => ∃ v',e = .returned v'∧isGrp (fun b=>W6.heap.size≤b) x v' w'∧Below W.heap.size W w' from fun W hB=>by
      refine (own7_any _ _ x W (Dl.ag (Ag.new _ hB)) ⟨by have:=Ak.len;omega,by have:=Ak.pay.len.1;omega,by have:=Ak.pay.len.2.1;omega,by have:=Ak.pay.len.2.2;omega⟩).mono ?_
      rintro e w' ⟨Aw,rfl,h1,h2⟩
      exact ⟨_,rfl,⟨Aw,rfl,h1.weak fun b hb=>by have:=hB.size;omega⟩,h2⟩)
     have A7:=(Ac.out.ownAt Ay A9 (Below.refl _ _)).2
     have Bi:=Hd Ay
     have Al:=Hd A9
     have Dw:=Hd Cj
     have B6:=Hd A0
     have Df:=Hd An
     obtain ⟨⟨y0,y1⟩,_⟩:=can2 A7
     obtain ⟨⟨x0,x1,x2,x3,x4,x5,x6⟩,_⟩:=can7 A5
     have Ca:gb < W6.heap.size:=(Array.getElem?_eq_some_iff.1 A7).1
     have B7:wa.heap.size < W6.heap.size:=(Array.getElem?_eq_some_iff.1 A5).1
     obtain ⟨i0,hi,D3,Ds,Ea⟩:=info_parts infoGrp6
     clear Ay A9 Cj A0 An Cc Dl A5 A7 Ak hw5 Cq Dg C2 Bl A8
     go_wp2_with (refine wLm rfl _ _ _ _ rfl rfl rfl rfl Cn.out ?_)
     refine FlowQ.wp_region 8 [8,9,10,11] (.pointer (some ⟨gb,0,none⟩)) (Flow.sp3 [.inl undef,.inl ?_,.inl ?_,.inl ?_,.inl ?_,.inl ?_,.inr (isGrp (fun b=>W6.heap.size≤b) x),.inr (newGrp (fun b=>W6.heap.size≤b) x)]) (by kernel_rfl) (by kernel_rfl) ?_ rfl (fun w' _=>by go_simp) ?_
     rotate_left 5
     ·refine Flow.sm2 ?_
      repeat (first | exact Flow.ln2 | refine Flow.li2 ?_ | refine Flow.li3 (iGm _ _) ?_ | refine Flow.li3 (newGrp_mono _ _) ?_)
     all_goals try simp only [Nat.reduceSub,List.take_succ_cons,List.take_zero]
     iterate 5 (refine Flow.tvK rfl (fun K hK=>⟨fun w hw hG => ?_,?_⟩);(have Dh:=Flow.bc4 hw;clear hG hw;unfold Flow.Runs Flow.yields;go_simp;try rfl);go_simp;refine hK _ ?_;clear hK K)
     (refine Flow.tvK2 rfl (fun K hK=>⟨fun w hw hG => ?_,?_⟩);(have HW:=Hd hw;clear hG hw;unfold Flow.Runs Flow.yields;go_simp;refine (Bv.out _ HW.out).mono ?_;rintro e w7 ⟨v7,rfl,B9,B8⟩;exact ⟨v7,rfl,B8,B9⟩);intro v6;go_simp;refine hK _ _ ?_;clear hK K)
     (refine Flow.tvK2 rfl (fun K hK=>⟨fun w hw hG => ?_,?_⟩);(obtain ⟨Aw,rfl,Db⟩:=(show isGrp (fun b=>W6.heap.size≤b) x v6 w by simpa [Flow.upd] using hG 6 (by kernel_rfl));have Ep:=Hd Db;obtain ⟨Da,Cz,Dj,C4,rfl,Av,Aa⟩:=Db;obtain ⟨b2,f2,rfl⟩:=Av.shape;obtain ⟨b4,f4,rfl⟩:=Aa.sums.shape;obtain ⟨b5,f5,rfl⟩:=Aa.mins.shape;obtain ⟨b6,f6,rfl⟩:=Aa.maxs.shape;clear hG hw Av Aa;unfold Flow.Runs Flow.yields;generalize (x.2.1.2.map Tess.valOf).length=m2 at *;generalize x.2.2.sums.length=m4 at *;generalize x.2.2.mins.length=m5 at *;generalize x.2.2.maxs.length=m6 at *;go_simp;exact ⟨(la2 _ _).2.2,newGrp_mk _ _ Ep.out⟩);intro v7;go_simp;refine hK _ _ ?_;clear hK K)
     refine Flow.tn2 fun w8 hw8 hG => ?_
     obtain ⟨gn,Aw,rfl,E3,Cp,Bg⟩:=(show newGrp (fun b=>W6.heap.size≤b) x v7 w8 by simpa [Flow.upd] using hG 7)
     have C9:=Hd Bg
     obtain ⟨Da,Cz,Dj,C4,rfl,Av,Aa⟩:=Bg
     obtain ⟨b2,f2,rfl⟩:=Av.shape
     obtain ⟨b4,f4,rfl⟩:=Aa.sums.shape
     obtain ⟨b5,f5,rfl⟩:=Aa.mins.shape
     obtain ⟨b6,f6,rfl⟩:=Aa.maxs.shape
     generalize (x.2.1.2.map Tess.valOf).length=m2 at *
     generalize x.2.2.sums.length=m4 at *
     generalize x.2.2.mins.length=m5 at *
     generalize x.2.2.maxs.length=m6 at *
     obtain ⟨Cy,C7⟩:=Ac.out.ownAt Bi.out Al.out hw8
     have Dn:=Hd Cy
     have B2:=Hd C7
     have Cl:=Hd hw8
     have Ec:=Hd Cp
     have E4:us'.length≤1000000:=by have:=Ac.out.own.len;omega
     have Du:N≤w8.heap.size:=by have:=Ac.out.NW;have:=Bi.out.size;have:=Al.out.size;have:=hw8.size;omega
     have Ef:gb < N:=Ac.out.gbN
     clear hG Av Aa Cy C7 hw8 Cp x0 x1 x2 x3 x4 x5 x6 y0 y1 Bv
     refine ⟨?_,?_⟩
     all_goals
      go_wp2_with (at_builtin;refine wpList_append_own_at _ rfl _ _ 45 rfl N 56 i0 (.agg #[.int .i64 0,.int .i64 0,.slice none 0 0,.int .i64 0,.slice none 0 0,.slice none 0 0,.slice none 0 0]) 7 120 Tryz.underlying45 hi D3 Ds Ea rfl (by decide) _ _ _ rfl Dn.out ⟨gn,0,none⟩ 1 1 [.int .i64 x.1,.int .i64 x.2.1.1,.slice b2 m2 f2,.int .i64 x.2.2.n,.slice b4 m4 f4,.slice b5 m5 f5,.slice b6 m6 f6] rfl rfl ?c1 (gn2.one C9.out) ?c2 ?c3 ?c4 ?_)
      case c1=>intro j u hj;rw [show (⟨gn,0,none⟩:Addr).add j=⟨gn,j,none⟩ by unfold Addr.add;split <;> simp_all];exact Ec.out j u hj
      case c2=>unfold maxLen;omega
      case c3=>omega
      case c4=>exact Du
      intro v9 w9 Am Ah Bh Ar
      have C5:=(Ah.block gb (Array.getElem?_eq_some_iff.1 B2.out).1 (fun e=>by have:=(Dn.out.lt gb e.symm).1;omega)).trans B2.out
      obtain ⟨⟨y0,y1⟩,z0,z1⟩:=can2 C5
      obtain ⟨g9,Em,rfl,_,_,_⟩:=oca Am (by omega)
      have Be:=Hd Am
      have Bc:=Hd Ah
      have Bm:=Hd Ar
      clear Am Ah Bh Ar C5
      go_wp2_with (fail)
      refine ⟨rfl,?_⟩
      go_wp2
      go_roundw
      case rel=>
       have By:=Ac.out.more (x:=x) (s:=nG T x) (r':=(gx,idx.length + 1,cx)) rfl Bi.out (by rw [Aj.out]) (by rw [Aj.out];exact B6.out) (by rw [A2.out,Br.out];exact Df.out gx rfl) Al.out Dw.out Cl.out C9.out Bc.out Be.out Bm.out
       refine ⟨k + 1,.slice (some ⟨g9,0,none⟩) (us'.length + 1) Em,us' ++ [[.int .i64 x.1,.int .i64 x.2.1.1,.slice b2 m2 f2,.int .i64 x.2.2.n,.slice b4 m4 f4,.slice b5 m5 f5,.slice b6 m6 f6]],(fun s'=>if s'=nG T x then some (gx,idx.length + 1,cx) else V' s'),by omega,by go_num,?_⟩
       rw [← C8.out,En.out]
       have Ex:w.heap.size≤wr.heap.size:=by have:=Ae.out.tch.size;have:=Bo.out.size;have:=Ba.out.size;have:=Bf.out.size;have:=Ci.out;omega
       have Eg:wr.heap.size≤w8.heap.size:=by have:=Bi.out.size;have:=Al.out.size;have:=Cl.out.size;omega
       refine ⟨By,tch_step Ae.out.tch Ae.out.own ((Tch.new (Bt (Bt Bo.out Ba.out) Bf.out)).trans ((Tch.grown Bi.out fun b e=>GS.S_row e).trans ((Tch.grown Al.out fun b e => .inr (.inl (Option.some.inj e).symm)).trans ((Tch.new Cl.out).trans ((Tch.grown Bc.out fun b e => .inr (.inr (.inl e))).trans (Tch.set _ _ _ (.inl rfl))))))),fun b hb => ?_⟩
       rcases hb with rfl | rfl | hb | ⟨s2,r2,B0,rfl⟩
       ·exact Ae.out.own _ (.inl rfl)
       ·exact Ae.out.own _ (.inr (.inl rfl))
       ·rcases Bm.out with e | e
        ·rw [e] at hb;exact Ae.out.own _ (.inr (.inr (.inl hb)))
        ·rw [e] at hb
         have:=Option.some.inj hb
         exact .inr (by omega)
       ·by_cases e:s2=nG T x
        ·simp only [if_pos e,Option.some.injEq] at B0
         subst B0
         rcases Df.out gx rfl with h5 | h5
         ·exact Ae.out.own _ (GS.S_row (s:=nG T x) (by rw [A2.out,Br.out];exact h5))
         ·exact .inr (by show w.heap.size≤gx;omega)
        ·simp only [if_neg e] at B0
         exact Ae.out.own _ (.inr (.inr (.inr ⟨s2,r2,B0,rfl⟩)))
      case measure=>simp [intOf];omega
  ·have Dt:¬ (k:Int) < (A.length:Int):=by omega
   obtain rfl:k=A.length:=by omega
   rw [List.take_length] at Ad
   have Ae:=Hd Ad
   clear Ad
   go_wp2
   go_end0
   exact ⟨_,_,_,_,rfl,Ae.out⟩
end Go.Proofs.YtaddkkkchkdgkaaGreatDoor
