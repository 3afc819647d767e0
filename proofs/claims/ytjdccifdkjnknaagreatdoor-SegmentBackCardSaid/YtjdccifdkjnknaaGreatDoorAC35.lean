/- Joined by mergeK.py: U20, U21 -/
import Derived.Test.YtjdccifdkjnknaaGreatDoorAC34
import Derived.Test.YtjdccifdkjnknaaGreatDoorAC16
import Derived.Test.YtjdccifdkjnknaaGreatDoorAC24
import Derived.Test.YtjdccifdkjnknaaGreatDoorAC06
namespace Go.Proofs.YtjdccifdkjnknaaGreatDoor
open Go.RowKit Go.Sort
open Tess (CK Pay DV pD2)
theorem celL_pushD {E E':Nat→CK×Pay} {k:Nat} {d:DV} (h1:E' k=pD2 (E k) d) (h2:∀ j,j≠k→E' j=E j):∀ i,celL E' i=if i=(k,0) then celL E i ++ [valC (Tess.valOf d)] else celL E i:=by
 rintro ⟨j,fd⟩
 by_cases e:j=k
 ·subst e
  by_cases e2:fd=0
  ·subst e2
   rw [if_pos rfl]
   unfold celL
   rw [h1]
   simp [pD2]
  ·rw [if_neg (fun h=>e2 (by cases h;rfl))]
   unfold celL
   simp only [if_neg e2]
   rw [h1]
   rfl
 ·rw [if_neg (fun h=>e (by cases h;rfl))]
  unfold celL
  rw [h2 j e]
set_option maxRecDepth 100000 in
set_option maxHeartbeats 4000000 in
theorem sdim_good (a0 a1 a2:Addr) (wb:World) (r g:Nat) (i:Int) (E:Nat→CK×Pay) (V:Nat×Nat→Value) (b rest rest2:ByteArray) (d:List ByteArray) (ls:List Nat) (v1 v2 v3:Value) (w:World) (hv:∀ W,Kept wb.heap.size r wb W→DV2 a0 a1 W∧SV a2 W) (hwb:Kept wb.heap.size r wb w) (hr:SRd r g ls.length E V b v1 v2 v3 w) (hB:wb.heap.size≤g) (hn:ls.length≤1000) (hE:∀ k,k < ls.length→(E k).1.2.length≤1000) (hb:b.size≤1000000)
  (hdec:Tess.decW b=(d,rest,0)) (hunp:Tess.uP rest=(ls,rest2,0)) :
  Calls Tryz.prog 84 #[.pointer (some ⟨r,0,none⟩),.int .i64 i] w (DimP a2 wb r g ls.length E (match ls.mapM (Tess.vA2 d) with | some l=>some (l,rest2) | none=>none) v1 v2 v3):=by
 have HD:=Hd (do2 a0 a1 b w (hv _ hwb).1 hb)
 have HV:=Hd hv
 have HR:=Hd hr
 have B1:=Hd hwb
 have Bs:=Hd hB
 have Cb:=Hd hE
 obtain ⟨T,hT⟩:∃ T,T=(match ls.mapM (Tess.vA2 d) with | some l=>some (l,rest2) | none=>none:Option (List DV×ByteArray)):=⟨_,rfl⟩
 rw [← hT]
 have HT:=Hd hT
 obtain ⟨c0,c1,c2,c3,c4⟩:=hr.rdr.cells
 have Cr:=hr.rdr.lt
 unfold DPO at HD
 rw [hdec] at HD
 have HU:=Hd (fun (W:World) (hB:Kept wb.heap.size r wb W)=>pa2 a0 a1 rest W (HV.out _ hB).1)
 unfold PP2 at HU
 rw [hunp] at HU
 dsimp only at HD HU
 clear hT hv hwb hr hE hdec hunp
 go_enter Tryz.func84,Tryz.ntmps84
 go_wp2_with (first
  | (go_at_call 133;refine HD.out.mono ?_;rintro e w1 ⟨v,rfl,hv,hB⟩;obtain ⟨a,Ci,rfl,_⟩:=os4 hv;have At:=Hd hv;have HB:=Hd (Kt B1.out hB);have Az:=Hd (HR.out.below hB);clear hv hB)
  | (go_at_call 134;refine (HU.out _ HB.out).mono ?_;rintro e w2 ⟨a',Bi,rfl,hv,hB⟩;have Av:=Hd (Kt HB.out hB);have Ar:=Hd (ob2 At.out hB);have Au:=Hd (ol2 hv (Nat.zero_le _));have Aa:=Hd (Az.out.below hB);have q4:=Aa.out.rdr.cells.2.2.2.2;clear hv hB))
 clear q4 c0 c1 c2 c3 c4
 go_loopw [46] (fun v46 wr => ∃ (k:Nat) (V':Nat×Nat→Value),k≤ls.length∧v46 = .int .i64 k∧SRd r g ls.length (fun j=>if j < k then pD2 (E j) ((Tess.vA2 d (ls.getD j 0)).getD none) else E j) V' b v1 v2 v3 wr∧wr.ownsRow 0 9 1 (.slice a d.length Ci) d.length (d.map .string)∧wr.ownsRow 0 3 1 (.slice a' ls.length Bi) ls.length (ls.map fun n => .int .i64 (n:Nat))∧(∀ j,j < k→Tess.vA2 d (ls.getD j 0)≠none)∧Kept wb.heap.size r wb wr) (fun v46 _=>ls.length - (intOf v46).toNat)
 case atStart=>exact ⟨0,V,Nat.zero_le _,rfl,Aa.out,Ar.out,Au.out,fun j hj=>absurd hj (Nat.not_lt_zero j),Av.out⟩
 case round=>
  obtain ⟨k,V',Cs,rfl,hR,hD,hL,Bu,hB⟩:=hrel
  have Ae:=Hd hR
  have Bc:=Hd hD
  have A2:=Hd hL
  have Bn:=Hd Bu
  have A4:=Hd hB
  clear hR hD hL Bu hB Aa Ar Au Av Az At HB HR HU HD
  by_cases hk:k < ls.length
  ·obtain ⟨lb,lc,el,_,B3,_,Bx⟩:=oc2 A2.out (by omega)
   obtain ⟨An,_⟩:=Bx k hk
   rw [List.getElem?_map,List.getElem?_eq_getElem hk] at An
   simp only [Option.map_some,Nat.zero_add] at An
   simp only [Value.slice.injEq,true_and] at el
   obtain ⟨rfl,rfl⟩:=el
   obtain ⟨x,hx⟩:∃ x,x=ls[k]:=⟨_,rfl⟩
   rw [← hx] at An
   have Bj:ls.getD k 0=x:=by rw [List.getD_eq_getElem?_getD,List.getElem?_eq_getElem hk,hx];rfl
   have HX:=Hd hx
   have Bv:=Hd Bj
   clear hx Bj Bx
   obtain ⟨W1,Bt⟩:∃ W1,wr.alloc (.cells #[.string { data:=#[] },.bool true] 47)=W1:=⟨_,rfl⟩
   obtain ⟨k1,kS,kB⟩:=la2 wr (.cells #[.string { data:=#[] },.bool true] 47)
   rw [Bt] at k1 kS kB
   have Ay:=Hd k1
   have Af:=Hd kB
   have Ce:=Hd kS
   clear k1 kB kS
   have Ap:=(Af.out.cell (p:=⟨lb,k,none⟩) B3).trans An
   obtain ⟨⟨y0,y1⟩,Bl,Bm⟩:=can2 Ay.out
   have Az:=Hd (Ae.out.below Af.out)
   have At:=Hd (ob2 Bc.out Af.out)
   have Cq:=Hd (ob2 A2.out Af.out)
   have A7:=Hd (Kt A4.out Af.out)
   rcases Nat.lt_trichotomy x d.length with Ad | Ad | Ad
   case inr.inr=>
    have Aw:(d.length:Int) < (x:Int):=by omega
    have g3:=(HV.out _ A7.out).2.g3
    go_wp2_with (fail)
    go_ret
    have Aq:T=none:=by
     rw [HT.out,Tess.mMn _ _ ⟨x,by rw [HX.out];exact List.getElem_mem hk,by unfold Tess.vA2;rw [if_pos Ad]⟩]
    rw [Aq]
    exact ⟨rfl,A7.out,fun x h=>by cases h⟩
   case' inl=>
    have Aw:¬ (d.length:Int) < (x:Int):=by omega
    have Be:(x:Int) < (d.length:Int):=by omega
    obtain ⟨db,dc,ed,_,Cm,_,Bw⟩:=oc2 At.out (by omega)
    obtain ⟨A0,_⟩:=Bw x Ad
    rw [List.getElem?_map,List.getElem?_eq_getElem Ad] at A0
    simp only [Option.map_some,Nat.zero_add] at A0
    simp only [Value.slice.injEq,true_and] at ed
    obtain ⟨rfl,rfl⟩:=ed
    obtain ⟨s,hs⟩:∃ s,s=d[x]:=⟨_,rfl⟩
    rw [← hs] at A0
    have Ao:=Hd (show Tess.vA2 d x=some (some s) by unfold Tess.vA2;rw [if_neg (by omega),dif_pos Ad,hs])
    clear hs Bw
    go_wp2_with (fail)
    obtain ⟨W2,Ak⟩:∃ W2,(W1.setCell ⟨wr.heap.size,0,none⟩ (.string s)).setCell ⟨wr.heap.size,1,none⟩ (.bool false)=W2:=⟨_,rfl⟩
    have Ag:W2.heap[wr.heap.size]? = some (.cells #[.string s,.bool false] 47 (0,0)):=by rw [← Ak];exact heap_setCell_same _ _ 1 _ _ (.bool false) (heap_setCell_same _ _ 0 _ _ (.string s) Ay.out)
    have Ab:Below wr.heap.size wr W2:=by rw [← Ak];exact (Af.out.setCell (Nat.le_refl _) _).setCell (Nat.le_refl _) _
    rw [Ak]
    obtain ⟨nl,Al⟩:∃ nl,nl=false:=⟨_,rfl⟩
    rw [← Al] at Ag
    obtain ⟨dv,Ai⟩:∃ dv:DV,dv=some s:=⟨_,rfl⟩
    rw [← Ai] at Ao
    have A9:valC (Tess.valOf dv)=[.string s,.bool nl]:=by rw [Ai,Al];rfl
    clear Al Ai A0 Cm Ak y0 y1 Bl Bm Ap An Aw Be Ad
   case' inr.inl=>
    have Aw:¬ (d.length:Int) < (x:Int):=by omega
    have Be:¬ (x:Int) < (d.length:Int):=by omega
    have Ao:=Hd (show Tess.vA2 d x=some none by unfold Tess.vA2;rw [if_neg (by omega),dif_neg (by omega)])
    go_wp2_with (fail)
    obtain ⟨W2,Ak⟩:∃ W2,W1=W2:=⟨_,rfl⟩
    have Ag:=Ay.out
    have Ab:=Af.out
    rw [Ak] at Ag Ab ⊢
    obtain ⟨s,hs⟩:∃ s:ByteArray,s = { data:=#[] }:=⟨_,rfl⟩
    obtain ⟨nl,Al⟩:∃ nl,nl=true:=⟨_,rfl⟩
    rw [← Al,← hs] at Ag
    obtain ⟨dv,Ai⟩:∃ dv:DV,dv=none:=⟨_,rfl⟩
    rw [← Ai] at Ao
    have A9:valC (Tess.valOf dv)=[.string s,.bool nl]:=by rw [Ai,Al,hs];rfl
    clear Al Ai hs Ak y0 y1 Bl Bm Ap An Aw Be Ad
   all_goals
    clear Az At Cq A7 Ay Af Ce Bt
    have Aa:=Hd (Ae.out.below Ab)
    have Ar:=Hd (ob2 Bc.out Ab)
    have Au:=Hd (ob2 A2.out Ab)
    have Av:=Hd (Kt A4.out Ab)
    have Bh:=(Array.getElem?_eq_some_iff.1 Ag).1
    have Ca:=Hd Ag
    have B9:=Hd A9
    have Ah:∀ y,(V' (k,0)).ownBlock=some y→g < y∧y < wr.heap.size:=fun y e=>Ae.out.low (i:=(k,0)) ⟨hk,by omega⟩ y e
    clear Ae Bc A2 A4 Ag A9 Ab
    obtain ⟨f,hf⟩:∃ f,f=fOf W2 (V' (k,0)) (celS 0) [.string s,.bool nl]:=⟨_,rfl⟩
    have Am:∀ y,y≤g∨wr.heap.size≤y→f y=none:=fun y hy=>by rw [hf];exact fOn fun e=>by have:=Ah y e;omega
    have Co:=Hd (fun V (hV:(turns f).r W2 V)=>(ta2 hV Aa.out.rdr.lt (Am r (.inl (Nat.le_of_lt Aa.out.rg))) (o:=4)).trans Aa.out.rdr.cells.2.2.2.2)
    have B5:=Hd (fun V (hV:(turns f).r W2 V)=>(can2 ((tb2 hV Bh (Am _ (.inr (Nat.le_refl _)))).trans Ca.out)).1)
    obtain ⟨A,hA,By⟩:=Aa.out.arr
    have Ax:=By k hk 1 (by omega)
    rw [cCa _ _ _ _ (by omega)] at Ax
    simp only [if_neg (show ¬ (1:Nat)=0 by omega),if_true] at Ax
    have Bg:=Hd (fun V (hV:(turns f).r W2 V)=>(ta2 hV Aa.out.lt (Am g (.inl (Nat.le_refl _))) (o:=k * 6 + 1)).trans ((cell_of_row _ _ _ _ _ _ hA).trans Ax))
    have Cl:=Hd (fun V (hV:(turns f).r W2 V)=>frozen_of_row V g (k * 6 + 1) _ _ ((tb2 hV Aa.out.lt (Am g (.inl (Nat.le_refl _)))).trans hA))
    have A5:=Hd Am
    have A1:=Hd hf
    have Cc:=Hd Bh
    have Ck:=Hd Ah
    clear hf Am Ax hA By Bh Ah
    obtain ⟨i0,hi,B7,B8,Cf⟩:=info_parts iV
    obtain ⟨va,A8⟩:∃ va,va=V' (k,0):=⟨_,rfl⟩
    have Bf:=Hd A8
    have Aj:=Aa.out.fam.own (k,0) ⟨hk,by omega⟩
    rw [← A8] at Bg Aj
    have As:=Hd Aj
    have Bb:=Hd (show (celL (fun j=>if j < k then pD2 (E j) ((Tess.vA2 d (ls.getD j 0)).getD none) else E j) (k,0)).length≤1000 by
     have:=Cb.out k hk
     unfold celL
     simp only [if_true,if_neg (Nat.lt_irrefl k),List.length_map]
     exact this)
    clear A8 Aj
    refine FlowR.wrf (R:=turns f) 16 (FlowR.sp3 44 (fun _ => .inl undef) (.inl ?_ :: .inl ?_ :: .inl ?_ :: .inl ?_ :: .inl ?_ :: .inl ?_ :: .inl ?_ :: .inl ?_ :: .inl ?_ :: .inl ?_ :: .inl ?_ :: .inl ?_ :: .inl ?_ :: .inl ?_ :: .inr (newR W2.heap.size [.string s,.bool nl]) :: .inr (appd f W2.heap.size (g + 1) (celT 0) (celS 0) ((celL (fun j=>if j < k then pD2 (E j) ((Tess.vA2 d (ls.getD j 0)).getD none) else E j) (k,0)).length + 1) ((celL (fun j=>if j < k then pD2 (E j) ((Tess.vA2 d (ls.getD j 0)).getD none) else E j) (k,0)).flatten ++ [.string s,.bool nl]) va.ownBlock) :: [])) (fun _=>0) (FlowR.so5 (by kernel_rfl)) (by kernel_rfl) (by kernel_rfl) ?_ ?_
    rotate_left 14
    ·refine FlowR.sm2 (fun x=>FlowR.mi _) ?_
     have Bk:∀ y,W2.heap.size≤y→f y=none:=fun y hy=>A5.out y (.inr (by have:=Cc.out;omega))
     repeat (first | exact FlowR.ln2 | refine FlowR.li2 ?_ | refine FlowR.li3 (nRm2 Bk _) ?_ | refine FlowR.li3 (am2 Bk) ?_)
    all_goals try simp only [List.take_succ_cons,List.take_zero,List.drop_succ_cons,List.drop_zero]
    iterate 14 (refine FlowR.tvK rfl (fun K hK=>⟨fun V hw hG => ?_,?_⟩);(have t4:=Co.out V hw;have t5:=Bg.out V hw;obtain ⟨t6,t7⟩:=B5.out V hw;clear hG hw;unfold FlowR.Runs FlowR.yields;go_simp;try rfl);go_simp;refine hK _ ?_;clear hK K)
    (refine FlowR.tvK2 rfl (fun K hK=>⟨fun V hw hG => ?_,?_⟩);(have Cj:=hw.2.2.2.1;clear hG hw;unfold FlowR.Runs FlowR.yields;go_simp;exact ⟨ta3 _ _,(⟨V.heap.size,rfl,Cj,by simp,fun j u hu=>by rw [cell_of_row _ _ _ _ _ _ (heap_alloc_new _ _)];simpa using hu⟩:newR W2.heap.size [.string s,.bool nl] (.slice (some ⟨V.heap.size,0,none⟩) 1 1) (V.alloc _))⟩);intro vn;go_simp;refine hK _ _ ?_;clear hK K)
    (refine FlowR.tvK2 rfl (fun K hK=>⟨fun V hw hG => ?_,?_⟩);(have Bz:=(show newR W2.heap.size [.string s,.bool nl] vn V by simpa [FlowR.upd] using hG 14 (by kernel_rfl));have Cn:=Bb.out;obtain ⟨v',V2,Bd,Cd,B4⟩:=ta4 (P:=Tryz.prog) (t:=48) (ty:=48) Tryz.underlying48 hi B7 B8 Cf rfl (by decide) hw As.out (fun y e=>by rw [A1.out,Bf.out];rfl) rfl (by intro u hu;simp only [List.mem_cons,List.not_mem_nil,or_false] at hu;rcases hu with rfl | rfl <;> rfl) (by unfold maxLen;omega) (by omega) Aa.out.lt Bz;clear hG hw Bz;exact ra2 (t:=48) (.tmp 80) (.tmp 82) rfl rfl rfl rfl Bd Cd B4);intro vt;go_simp;refine hK _ _ ?_;clear hK K)
    refine FlowR.tn2 fun w8 hw8 hG => ?_
    have A3:=(show appd f W2.heap.size (g + 1) (celT 0) (celS 0) ((celL (fun j=>if j < k then pD2 (E j) ((Tess.vA2 d (ls.getD j 0)).getD none) else E j) (k,0)).length + 1) ((celL (fun j=>if j < k then pD2 (E j) ((Tess.vA2 d (ls.getD j 0)).getD none) else E j) (k,0)).flatten ++ [.string s,.bool nl]) va.ownBlock vt w8 by simpa [FlowR.upd] using hG 15)
    clear hG
    have Ac:∀ {base:Nat} {e:TypeId} {v:Value} {m:Nat} {xs:List Value},W2.ownsRow base e 1 v m xs→47≠e→∀ y,v.ownBlock=some y→f y=none:=fun {base e v m xs} ho hne y hy=>by
     rw [A1.out]
     refine fOn fun e2 => ?_
     obtain ⟨c1,z1,h1⟩:=ok3 ho y hy
     obtain ⟨c2,z2,h2⟩:=ok3 As.out y (by rw [Bf.out];exact e2)
     rw [h1] at h2
     cases h2
     exact hne rfl
    obtain ⟨A,hA,_⟩:=Aa.out.arr
    have A6:=(tb2 hw8 Aa.out.lt (A5.out g (.inl (Nat.le_refl _)))).trans hA
    have Bp:=ok2 (to2 Ar.out hw8 (Ac Ar.out (by decide))) A6 (by decide) vt (i:=k * 6 + 1)
    have Bo:=ok2 (to2 Au.out hw8 (Ac Au.out (by decide))) A6 (by decide) vt (i:=k * 6 + 1)
    have Bq:Kept wb.heap.size r wb (w8.setCell ⟨g,k * 6 + 1,none⟩ vt):=Kg (Kn Av.out hw8 (fun y hy _=>A5.out y (.inl (by have:=Bs.out;omega)))) Bs.out vt
    have Br:=SRd.push (E':=fun j=>if j < k + 1 then pD2 (E j) ((Tess.vA2 d (ls.getD j 0)).getD none) else E j) Aa.out hk (fd:=0) (by omega) (x:=[.string s,.bool nl]) (v':=vt) (by
      rw [← B9.out]
      refine celL_pushD ?_ (fun j hj => ?_)
      ·simp only [if_pos (Nat.lt_succ_self k),if_neg (Nat.lt_irrefl k)]
       rw [Bv.out,Ao.out]
       rfl
      ·by_cases h:j < k
       ·simp only [if_pos h,if_pos (show j < k + 1 by omega)]
       ·simp only [if_neg h,if_neg (show ¬ j < k + 1 by omega)])
     (fun j=>by
       by_cases h:j < k
       ·simp only [if_pos h,if_pos (show j < k + 1 by omega)];exact ⟨trivial,trivial⟩
       ·by_cases h2:j < k + 1
        ·simp only [if_neg h,if_pos h2];exact ⟨rfl,rfl⟩
        ·simp only [if_neg h,if_neg h2];exact ⟨trivial,trivial⟩) (by rw [A1.out] at hw8;exact hw8) (by rw [Bf.out,A1.out] at A3;exact A3)
    have q1:=Bg.out w8 hw8
    have q2:=Cl.out w8 hw8
    have B2:=Hd Bp
    have B6:=Hd Bo
    have Cp:=Hd Bq
    have B0:=Hd Br
    obtain ⟨av,nv,cv,rfl⟩:∃ a n c,vt = .slice a n c:=by
     rcases A3.1.2 with ⟨h,_⟩ | ⟨_,_,_,h,_⟩
     ·exact ⟨_,_,_,h⟩
     ·exact ⟨_,_,_,h⟩
    clear A3 Bp Bo Bq Br A6 hA hw8 Ac
    go_wp2_with (fail)
    go_roundw
    case rel=>exact ⟨k + 1,_,by omega,by go_num,B0.out,B2.out,B6.out,fun j hj=>by
     by_cases h:j=k
     ·subst h;rw [Bv.out,Ao.out];simp
     ·exact Bn.out j (by omega),Cp.out⟩
    case measure=>simp [intOf];omega
  ·have Ch:k=ls.length:=by omega
   subst Ch
   obtain ⟨q0,_⟩:=Ae.out.rdr.cells
   have z0:=Ae.out.rdr.z 0
   go_wp2_with (fail)
   go_ret
   have Ba:ls.mapM (Tess.vA2 d)=some (ls.map fun x=>(Tess.vA2 d x).getD none):=Tess.mapM_some _ _ ls fun x hx=>by
    obtain ⟨j,hj,rfl⟩:=List.mem_iff_getElem.1 hx
    have h:=Bn.out j hj
    rw [List.getD_eq_getElem?_getD,List.getElem?_eq_getElem hj,Option.getD_some] at h
    cases hv:Tess.vA2 d ls[j] with
    | none=>exact absurd hv h
    | some y=>rfl
   have Cg:T=some (ls.map fun x=>(Tess.vA2 d x).getD none,rest2):=by rw [HT.out,Ba]
   rw [Cg]
   refine ⟨rfl,A4.out.trans (Kept.setCell _ _ _ _ _),fun x h => ?_⟩
   cases h
   refine ⟨V',SRd.congr (SRd.keptR Ae.out (Kept.setCell _ _ _ _ _) (Ae.out.rdr.set0 rest2)) fun k hk => ?_⟩
   simp only [if_pos hk]
   congr 1
   rw [List.getD_eq_getElem?_getD,List.getD_eq_getElem?_getD,List.getElem?_map,List.getElem?_eq_getElem hk]
   rfl
theorem sdim_any (a0 a1 a2:Addr) (wb:World) (r g n:Nat) (i:Int) (E:Nat→CK×Pay) (V:Nat×Nat→Value) (b:ByteArray) (v1 v2 v3:Value) (w:World) (hv:∀ W,Kept wb.heap.size r wb W→DV2 a0 a1 W∧SV a2 W) (hwb:Kept wb.heap.size r wb w) (hr:SRd r g n E V b v1 v2 v3 w) (hB:wb.heap.size≤g) (hn:n≤1000) (hE:∀ k,k < n→(E k).1.2.length≤1000) (hb:b.size≤1000000) :
  Calls Tryz.prog 84 #[.pointer (some ⟨r,0,none⟩),.int .i64 i] w (DimP a2 wb r g n E (Tess.dimS n b) v1 v2 v3):=by
 by_cases hbad:(Tess.decW b).2.2=0∧(Tess.uP (Tess.decW b).2.1).2.2=0∧(Tess.uP (Tess.decW b).2.1).1.length=n
 ·obtain ⟨h1,h2,h3⟩:=hbad
  unfold Tess.dimS
  rw [if_pos h1,if_pos ⟨h2,h3⟩]
  subst h3
  obtain ⟨⟨d,rest,Ad⟩,hu⟩:∃ u,u=Tess.decW b:=⟨_,rfl⟩
  rw [← hu] at h1 h2 hr hn hE ⊢
  dsimp only at h1 h2 hr hn hE ⊢
  subst h1
  obtain ⟨⟨ls,Aa,Ab⟩,Ac⟩:∃ u,u=Tess.uP rest:=⟨_,rfl⟩
  rw [← Ac] at h2 hr hn hE ⊢
  dsimp only at h2 hr hn hE ⊢
  subst h2
  exact sdim_good a0 a1 a2 wb r g i E V b rest Aa d ls v1 v2 v3 w hv hwb hr hB hn hE hb hu.symm Ac.symm
 ·exact sdim_bad a0 a1 a2 wb r g n i E V b v1 v2 v3 w hv hwb hr hb hbad
end Go.Proofs.YtjdccifdkjnknaaGreatDoor
namespace Tess
open Go Go.RowKit Go.Proofs.YtjdccifdkjnknaaGreatDoor
def nK (n:Nat):Nat→ByteArray→Option (List (List Int)×ByteArray)
 | 0,b=>some ([],b)
 | k + 1,b=>match nK n k b with
   | some (L,b')=>match nR n b' with
     | some (l,e)=>some (L ++ [l],e)
     | none=>none
   | none=>none
theorem nKn {n k:Nat} {b:ByteArray} (h:nK n k b=none):∀ m,k≤m→nK n m b=none
 | 0,hm=>by rw [show k=0 by omega] at h;exact h
 | m + 1,hm=>by
   by_cases e:k=m + 1
   ·rw [← e];exact h
   ·unfold nK
    rw [nKn h m (by omega)]
theorem nKf {n:Nat} {b:ByteArray}:∀ {k:Nat} {L:List (List Int)} {e:ByteArray},nK n k b=some (L,e)→L.length=k∧∀ l ∈ L,l.length=n
 | 0,L,e,h=>by cases h;exact ⟨rfl,fun _ h=>by cases h⟩
 | k + 1,L,e,h=>by
   unfold nK at h
   cases hk:nK n k b with
   | none=>rw [hk] at h;cases h
   | some x=>
     obtain ⟨L',b'⟩:=x
     rw [hk] at h
     dsimp only at h
     cases hr:nR n b' with
     | none=>rw [hr] at h;cases h
     | some y=>
       obtain ⟨l,e'⟩:=y
       rw [hr] at h
       cases h
       obtain ⟨h1,h2⟩:=nKf hk
       refine ⟨by simp [h1],fun z hz => ?_⟩
       rcases List.mem_append.1 hz with hz | hz
       ·exact h2 z hz
       ·rw [List.mem_singleton.1 hz];exact (nRl hr).1
theorem metS_K (n:Nat) (b:ByteArray):metS n b=match nK n 4 b with
  | some (L,e)=>some ((L.getD 0 [],L.getD 1 [],L.getD 2 [],L.getD 3 []),e)
  | none=>none:=by
 unfold metS nK nK nK nK nK
 dsimp only
 cases nR n b with
 | none=>rfl
 | some x1=>
   obtain ⟨a,r1⟩:=x1
   dsimp only
   cases nR n r1 with
   | none=>rfl
   | some x2=>
     obtain ⟨b,r2⟩:=x2
     dsimp only
     cases nR n r2 with
     | none=>rfl
     | some x3=>
       obtain ⟨c,r3⟩:=x3
       dsimp only
       cases nR n r3 with
       | none=>rfl
       | some x4=>rfl
def pushS (c:CK×Pay) (z:Int):CK×Pay:=(c.1,⟨c.2.n,c.2.sums ++ [z],c.2.mins,c.2.maxs⟩)
def pX (c:CK×Pay) (x y:Int):CK×Pay:=(c.1,⟨c.2.n,c.2.sums,c.2.mins ++ [x],c.2.maxs ++ [y]⟩)
def pM (c:CK×Pay) (z x y:Int):CK×Pay:=pX (pushS c z) x y
end Tess
namespace Go.Proofs.YtjdccifdkjnknaaGreatDoor
open Go.RowKit Go.Sort
open Tess (CK Pay pushS pX pM nK)
def MetP (a2:Addr) (wb:World) (r g n:Nat) (E:Nat→CK×Pay) (o:Option ((List Int×List Int×List Int×List Int)×ByteArray)) (v1 v2 v3:Value) (e:Ending) (w':World):Prop:=
 e = .returned (sErr a2 o.isSome)∧Kept wb.heap.size r wb w'∧∀ x,o=some x→∃ V,SRd r g n (fun k=>pM (E k) (Tess.wO (x.1.1.getD k 0) (x.1.2.1.getD k 0)) (x.1.2.2.1.getD k 0) (x.1.2.2.2.getD k 0)) V x.2 v1 v2 v3 w'
theorem celL_pushS {E E':Nat→CK×Pay} {k:Nat} {z:Int} (h1:E' k=pushS (E k) z) (h2:∀ j,j≠k→E' j=E j):∀ i,celL E' i=if i=(k,1) then celL E i ++ [wF z] else celL E i:=by
 rintro ⟨j,fd⟩
 by_cases e:j=k
 ·subst e
  unfold celL
  rw [h1]
  rcases fd with _ | _ | _ | fd <;> simp [pushS]
 ·rw [if_neg (fun h=>e (by cases h;rfl))]
  unfold celL
  rw [h2 j e]
theorem celL_pushX {E E':Nat→CK×Pay} {k:Nat} {x y:Int} (h1:E' k=pX (E k) x y) (h2:∀ j,j≠k→E' j=E j):∀ i:Nat×Nat,i.2 < 4→celL E' i=if i=(k,3) then celL E i ++ [[.int .i64 y]] else if i=(k,2) then celL E i ++ [[.int .i64 x]] else celL E i:=by
 rintro ⟨j,fd⟩ Aa
 by_cases e:j=k
 ·subst e
  unfold celL
  rw [h1]
  rcases fd with _ | _ | _ | _ | fd
  ·simp [pX]
  ·simp [pX]
  ·simp [pX,intF]
  ·simp [pX,intF]
  ·simp only at Aa;omega
 ·rw [if_neg (fun h=>e (by cases h;rfl)),if_neg (fun h=>e (by cases h;rfl))]
  unfold celL
  rw [h2 j e]
theorem can4 {W:World} {B:Nat} {t:TypeId} {x0 x1 x2 x3:Value} (h:W.heap[B]? = some (.cells #[x0,x1,x2,x3] t (0,0))) :
  W.cell? ⟨B,0,none⟩=some x0∧W.cell? ⟨B,1,none⟩=some x1∧W.cell? ⟨B,2,none⟩=some x2∧W.cell? ⟨B,3,none⟩=some x3:=
 ⟨cell_of_row _ _ 0 _ _ _ h,cell_of_row _ _ 1 _ _ _ h,cell_of_row _ _ 2 _ _ _ h,cell_of_row _ _ 3 _ _ _ h⟩
set_option maxRecDepth 100000 in
set_option maxHeartbeats 4000000 in
theorem smet_any (a0 a1 a2:Addr) (wb:World) (r g n:Nat) (i:Int) (E:Nat→CK×Pay) (V:Nat×Nat→Value) (b:ByteArray) (v1 v2 v3:Value) (w:World) (hv:∀ W,Kept wb.heap.size r wb W→DV2 a0 a1 W∧SV a2 W) (hwb:Kept wb.heap.size r wb w) (hr:SRd r g n E V b v1 v2 v3 w) (hB:wb.heap.size≤g) (hn:n≤1000)
  (hE:∀ k,k < n→(E k).2.sums.length≤1000∧(E k).2.mins.length≤1000∧(E k).2.maxs.length≤1000) :
  Calls Tryz.prog 82 #[.pointer (some ⟨r,0,none⟩),.int .i64 i] w (MetP a2 wb r g n E (Tess.metS n b) v1 v2 v3):=by
 have HV:=Hd hv
 have HR:=Hd hr
 have F1:=Hd hwb
 have Ba:=Hd hB
 have Es:=Hd hE
 have HT:=Hd (Tess.metS_K n b)
 obtain ⟨T,hT⟩:∃ T,T=Tess.metS n b:=⟨_,rfl⟩
 rw [← hT] at HT ⊢
 obtain ⟨W0,Di⟩:∃ W0,w.alloc (.cells #[.slice none 0 0,.slice none 0 0,.slice none 0 0,.slice none 0 0] 179)=W0:=⟨_,rfl⟩
 obtain ⟨k0,kS,kB⟩:=la2 w (.cells #[.slice none 0 0,.slice none 0 0,.slice none 0 0,.slice none 0 0] 179)
 rw [Di] at k0 kS kB
 have Eg:=Hd (hr.below kB)
 have Cs:=Hd k0
 have Dd:=Hd (Kt hwb kB)
 have Bb:=Hd (show g < w.heap.size from hr.lt)
 have C7:=Hd (show ∀ i:Nat×Nat,i.1 < n∧i.2 < 4→∀ z,(V i).ownBlock=some z→z < w.heap.size from fun i hi z e=>(hr.low hi z e).2)
 obtain ⟨tb,Bm⟩:∃ tb,tb=w.heap.size:=⟨_,rfl⟩
 rw [← Bm] at Cs Bb C7
 clear hT hv hwb hr hE k0 kS kB
 go_enter Tryz.func82,Tryz.ntmps82
 go_wp2_with (fail)
 rw [← Bm]
 clear Bm Di
 go_loopw [11] (fun v11 wr => ∃ (k:Nat) (L:List (List Int)) (bk:ByteArray) (vs:List Value),k≤4∧v11 = .int .i64 k∧nK n k b=some (L,bk)∧SRd r g n E V bk v1 v2 v3 wr∧wr.heap[tb]? = some (.cells vs.toArray 179 (0,0))∧vs.length=4∧(∀ j,j < k→wr.ownsRow tb 2 1 (vs.getD j undef) n ((L.getD j []).map (.int .i64)))∧Kept wb.heap.size r wb wr) (fun v11 _=>4 - (intOf v11).toNat)
 case atStart=>exact ⟨0,[],b,[.slice none 0 0,.slice none 0 0,.slice none 0 0,.slice none 0 0],Nat.zero_le _,rfl,rfl,Eg.out,Cs.out,rfl,fun j hj=>absurd hj (Nat.not_lt_zero j),Dd.out⟩
 case round=>
  obtain ⟨k,L,bk,vs,F3,rfl,Db,hR,hK,Dl,hO,hB⟩:=hrel
  have Aa:=Hd hR
  have Af:=Hd hK
  have Bd:=Hd hO
  have Ak:=Hd hB
  have Br:=Hd Db
  have Bn:=Hd Dl
  clear hR hK hO hB Db Dl Eg Cs Dd
  by_cases hk:k < 4
  ·have Fv:(k:Int) < 4:=by omega
   have q4:=Aa.out.rdr.cells.2.2.2.2
   have A9:=sa2 a0 a1 a2 r n bk v1 v2 v3 (.slice (some ⟨g,0,none⟩) n n) wr (HV.out _ Ak.out).1 (HV.out _ Ak.out).2 Aa.out.rdr hn
   unfold NumP at A9
   have Bz:=Hd A9
   clear A9
   go_wp2_with (fail)
   refine Bz.out.mono ?_
   obtain ⟨o,ho⟩:∃ o,o=Tess.nR n bk:=⟨_,rfl⟩
   have Fh:=Hd (fun l e (h:o=some (l,e))=>Tess.nRl (ho.symm.trans h))
   have Cp:nK n (k + 1) b=(Tess.nR n bk).map fun x=>(L ++ [x.1],x.2):=by
    rw [nK,Br.out]
    dsimp only
    cases Tess.nR n bk <;> rfl
   rw [← ho] at Cp ⊢
   have Bj:=Hd Cp
   clear Cp
   clear ho Bz
   cases o with
   | none=>
     rintro e w5 ⟨v5,rfl,Ap,Bp⟩
     rw [show sErr a2 (none:Option (List Int×ByteArray)).isSome = .iface 314 (.pointer (some a2)) from rfl]
     have C8:=Hd (Kk Ak.out Ap)
     have Bk:T=none:=by rw [HT.out,Tess.nKn Bj.out 4 (by omega)]
     clear Ap Bp
     go_wp2_with (fail)
     go_ret
     rw [Bk]
     exact ⟨rfl,C8.out,fun x h=>by cases h⟩
   | some x=>
     obtain ⟨m,e2⟩:=x
     rintro e w5 ⟨v5,rfl,Ap,A8,Bp⟩
     dsimp only at A8 Bp
     have By:nK n (k + 1) b=some (L ++ [m],e2):=Bj.out
     have E7:=(Fh.out m e2 rfl).1
     rw [E7] at A8
     have A8:=ol2 A8 (Nat.le_of_lt (Array.getElem?_eq_some_iff.1 Af.out).1)
     obtain ⟨B7,B8,rfl,_⟩:=os4 A8
     rw [show sErr a2 (some (m,e2)).isSome = .nilIface from rfl]
     have C5:=Aa.out.keptR Ap Bp
     have F2:=C5.rg
     have Fm:=Bb.out
     have Ce:=(Ap.block tb (Array.getElem?_eq_some_iff.1 Af.out).1 (by omega)).trans Af.out
     have C8:=Hd (Kk Ak.out Ap)
     have E2:=Hd (fun j (hj:j < k)=>okK (Bd.out j hj) Ap Aa.out.rdr (by decide))
     have Ev:k < vs.toArray.size:=by rw [List.size_toArray,Bn.out];exact hk
     obtain ⟨E9,q5⟩:∃ u,w5.cell? ⟨tb,k,none⟩=some u:=⟨_,by rw [cell_of_row _ _ _ _ _ _ Ce,Array.getElem?_eq_getElem Ev]⟩
     have z5:=frozen_of_row w5 tb k _ _ Ce
     have Ca:=Hd Ce
     have E8:=Hd C5
     have E3:=Hd A8
     have C2:=Hd By
     clear Ap Bp A8 Ce C5 By Ev q4
     go_wp2_with (fail)
     go_roundw
     case rel=>
      obtain ⟨hL,_⟩:=Tess.nKf Br.out
      refine ⟨k + 1,L ++ [m],e2,vs.set k (.slice B7 n B8),by omega,by go_num,C2.out,E8.out.other Ca.out (by decide) (by decide) (fun fd hfd=>by rcases fd with _ | _ | _ | _ | fd <;> first | decide | omega) _,?_,by rw [List.length_set];exact Bn.out,fun j hj => ?_,Kg C8.out (show wb.heap.size≤tb by have:=Ba.out;omega) _⟩
      ·rw [heap_setCell_same _ _ _ _ _ _ Ca.out,List.setIfInBounds_toArray]
      ·by_cases e:j=k
       ·subst e
        have e1:(vs.set j (.slice B7 n B8)).getD j undef = .slice B7 n B8:=by rw [List.getD_eq_getElem?_getD,List.getElem?_set_self (by rw [Bn.out];exact hk)];rfl
        have e2:(L ++ [m]).getD j []=m:=by rw [List.getD_eq_getElem?_getD,List.getElem?_append_right (by omega),hL];simp
        rw [e1,e2]
        exact ok2 E3.out Ca.out (by decide) _
       ·have e1:(vs.set k (.slice B7 n B8)).getD j undef=vs.getD j undef:=by rw [List.getD_eq_getElem?_getD,List.getElem?_set_ne (Ne.symm e),← List.getD_eq_getElem?_getD]
        have e2:(L ++ [m]).getD j []=L.getD j []:=by rw [List.getD_eq_getElem?_getD,List.getElem?_append_left (by omega),← List.getD_eq_getElem?_getD]
        rw [e1,e2]
        exact ok2 (E2.out j (by omega)) Ca.out (by decide) _
     case measure=>simp [intOf];omega
  ·have Cr:k=4:=by omega
   subst Cr
   have q4:=Aa.out.rdr.cells.2.2.2.2
   obtain ⟨D2,_⟩:=Tess.nKf Br.out
   have An:T=some ((L.getD 0 [],L.getD 1 [],L.getD 2 [],L.getD 3 []),bk):=by rw [HT.out,Br.out]
   have Eo:=Bn.out
   obtain ⟨la,lb,lc,ld,rfl⟩:∃ la lb lc ld,L=[la,lb,lc,ld]:=by
    rcases L with _ | ⟨la,_ | ⟨lb,_ | ⟨lc,_ | ⟨ld,_ | ⟨z,L⟩⟩⟩⟩⟩ <;> simp at D2
    exact ⟨la,lb,lc,ld,rfl⟩
   obtain ⟨s0,s1,s2,s3,rfl⟩:∃ s0 s1 s2 s3,vs=[s0,s1,s2,s3]:=by
    rcases vs with _ | ⟨la,_ | ⟨lb,_ | ⟨lc,_ | ⟨ld,_ | ⟨z,L⟩⟩⟩⟩⟩ <;> simp at Eo
    exact ⟨la,lb,lc,ld,rfl⟩
   have As:=Bd.out 0 (by omega)
   have Ax:=Bd.out 1 (by omega)
   have A0:=Bd.out 2 (by omega)
   have Ay:=Bd.out 3 (by omega)
   simp only [List.getD_cons_zero,List.getD_cons_succ] at As Ax A0 Ay An
   have Ee:la.length=n∧lb.length=n∧lc.length=n∧ld.length=n:=by
    obtain ⟨_,h⟩:=Tess.nKf Br.out
    exact ⟨h la (by simp),h lb (by simp),h lc (by simp),h ld (by simp)⟩
   obtain ⟨D5,Do,rfl,_⟩:=os4 As
   obtain ⟨Dz,Ed,rfl,_⟩:=os4 Ax
   obtain ⟨D1,Ci,rfl,_⟩:=os4 A0
   obtain ⟨D7,Cz,rfl,_⟩:=os4 Ay
   have A2:=Hd As
   have A6:=Hd Ax
   have Az:=Hd A0
   have Av:=Hd Ay
   have Er:=Hd Ee
   have E4:=Hd An
   clear As Ax A0 Ay Bd An D2 Eo Bn Ee
   go_wp2_with (fail)
   go_loopw [36] (fun v36 wr => ∃ (k:Nat) (V':Nat×Nat→Value),k≤n∧v36 = .int .i64 k∧SRd r g n (fun j=>if j < k then pM (E j) (Tess.wO (la.getD j 0) (lb.getD j 0)) (lc.getD j 0) (ld.getD j 0) else E j) V' bk v1 v2 v3 wr∧(∀ j,k≤j→∀ fd,V' (j,fd)=V (j,fd))∧wr.heap[tb]? = some (.cells #[.slice D5 n Do,.slice Dz n Ed,.slice D1 n Ci,.slice D7 n Cz] 179 (0,0))∧wr.ownsRow tb 2 1 (.slice D5 n Do) n (la.map (.int .i64))∧wr.ownsRow tb 2 1 (.slice Dz n Ed) n (lb.map (.int .i64))∧wr.ownsRow tb 2 1 (.slice D1 n Ci) n (lc.map (.int .i64))∧wr.ownsRow tb 2 1 (.slice D7 n Cz) n (ld.map (.int .i64))∧Kept wb.heap.size r wb wr) (fun v36 _=>n - (intOf v36).toNat)
   case atStart=>exact ⟨0,V,Nat.zero_le _,rfl,Aa.out,fun _ _ _=>rfl,Af.out,A2.out,A6.out,Az.out,Av.out,Ak.out⟩
   case round=>
    clear Aa Af A2 A6 Az Av Ak q4
    obtain ⟨k,V',Ft,rfl,hR,Em,hK,As,Ax,A0,Ay,hB⟩:=hrel
    have Cu:=Hd Em
    have Aa:=Hd hR
    have Af:=Hd hK
    have A2:=Hd As
    have A6:=Hd Ax
    have Az:=Hd A0
    have Av:=Hd Ay
    have Ak:=Hd hB
    clear hR hK As Ax A0 Ay hB Em
    by_cases hk:k < n
    ·have q4:=Aa.out.rdr.cells.2.2.2.2
     go_wp2_with (fail)
     obtain ⟨Ek,Cx⟩:∃ Ek:Nat→CK×Pay,Ek=fun j=>if j < k then pM (E j) (Tess.wO (la.getD j 0) (lb.getD j 0)) (lc.getD j 0) (ld.getD j 0) else E j:=⟨_,rfl⟩
     rw [← Cx] at Aa
     have Bq:=Hd Cx
     clear Cx
     obtain ⟨l1,l2,l3,l4⟩:=Er.out
     obtain ⟨p0,F0,e0,_,Dh,_,A1⟩:=oc2 A2.out (by omega)
     obtain ⟨p1,Fu,e1,_,D3,_,At⟩:=oc2 A6.out (by omega)
     obtain ⟨p2,Fq,e2,_,Fl,_,Be⟩:=oc2 Az.out (by omega)
     obtain ⟨p3,Fw,e3,_,Fd,_,Bg⟩:=oc2 Av.out (by omega)
     obtain ⟨A1,_⟩:=A1 k hk
     obtain ⟨At,_⟩:=At k hk
     obtain ⟨Be,_⟩:=Be k hk
     obtain ⟨Bg,_⟩:=Bg k hk
     rw [List.getElem?_map,List.getElem?_eq_getElem (by omega)] at A1 At Be Bg
     simp only [Option.map_some,Nat.zero_add] at A1 At Be Bg
     obtain ⟨x0,C9⟩:∃ x0,x0=la[k]'(by omega):=⟨_,rfl⟩
     obtain ⟨x1,Cq⟩:∃ x1,x1=lb[k]'(by omega):=⟨_,rfl⟩
     obtain ⟨x2,Cv⟩:∃ x2,x2=lc[k]'(by omega):=⟨_,rfl⟩
     obtain ⟨x3,Cm⟩:∃ x3,x3=ld[k]'(by omega):=⟨_,rfl⟩
     rw [← C9] at A1
     rw [← Cq] at At
     rw [← Cv] at Be
     rw [← Cm] at Bg
     have En:la.getD k 0=x0:=by rw [List.getD_eq_getElem?_getD,List.getElem?_eq_getElem (by omega),C9];rfl
     have Eh:lb.getD k 0=x1:=by rw [List.getD_eq_getElem?_getD,List.getElem?_eq_getElem (by omega),Cq];rfl
     have Dr:lc.getD k 0=x2:=by rw [List.getD_eq_getElem?_getD,List.getElem?_eq_getElem (by omega),Cv];rfl
     have Dt:ld.getD k 0=x3:=by rw [List.getD_eq_getElem?_getD,List.getElem?_eq_getElem (by omega),Cm];rfl
     have Bh:=Hd (And.intro En (And.intro Eh (And.intro Dr Dt)))
     obtain ⟨c0,z0,k0⟩:=ok3 A2.out p0 (by rw [e0];rfl)
     obtain ⟨c1,z1,k1⟩:=ok3 A6.out p1 (by rw [e1];rfl)
     obtain ⟨c2,z2,k2⟩:=ok3 Az.out p2 (by rw [e2];rfl)
     obtain ⟨c3,z3,k3⟩:=ok3 Av.out p3 (by rw [e3];rfl)
     simp only [Value.slice.injEq,true_and] at e0 e1 e2 e3
     obtain ⟨rfl,rfl⟩:=e0
     obtain ⟨rfl,rfl⟩:=e1
     obtain ⟨rfl,rfl⟩:=e2
     obtain ⟨rfl,rfl⟩:=e3
     clear C9 Cq Cv Cm En Eh Dr Dt l1 l2 l3 l4 Be Bg
     obtain ⟨wl,Ff⟩:∃ wl,IntKind.u64.wrap x1=wl:=⟨_,rfl⟩
     have HW:=Hd (show wF (Tess.wO x0 x1)=[.int .i64 x0,.int .u64 wl] by
      rw [← Ff]
      unfold wF Tess.wO wHi wLo
      rw [wu,show (x0 * 18446744073709551616 + x1 % 18446744073709551616) / 18446744073709551616=x0 by omega,show (x0 * 18446744073709551616 + x1 % 18446744073709551616) % 18446744073709551616=x1 % 18446744073709551616 by omega])
     obtain ⟨va,Cc⟩:∃ va,va=V' (k,1):=⟨_,rfl⟩
     have Aj:=Aa.out.fam.own (k,1) ⟨hk,by omega⟩
     rw [← Cc] at Aj
     obtain ⟨f,hf⟩:∃ f,f=fOf wr va (celS 1) [.int .i64 x0,.int .u64 wl]:=⟨_,rfl⟩
     have Ad:∀ {y t:Nat} {cur:Array Value} {fz:Nat×Nat},wr.heap[y]? = some (.cells cur t fz)→t≠celT 1→f y=none:=fun hy hne=>by rw [hf];exact fOf_kind Aj hy hne
     obtain ⟨A,hA,Bf⟩:=Aa.out.arr
     have Bx:=Bf k hk 3 (by omega)
     rw [cCa _ _ _ _ (by omega)] at Bx
     simp only [if_neg (show ¬ (3:Nat)=0 by omega),if_neg (show ¬ (3:Nat)=1 by omega),if_neg (show ¬ (3:Nat)=2 by omega),if_true] at Bx
     rw [← Cc] at Bx
     have Cl:=Hd (fun V (hV:(turns f).r wr V)=>(ta2 hV Aa.out.lt (Ad hA (by decide)) (o:=k * 6 + 3)).trans ((cell_of_row _ _ _ _ _ _ hA).trans Bx))
     have Bv:=Hd (fun V (hV:(turns f).r wr V)=>frozen_of_row V g (k * 6 + 3) _ _ ((tb2 hV Aa.out.lt (Ad hA (by decide))).trans hA))
     have A3:=Hd (fun V (hV:(turns f).r wr V)=>(tb2 hV (Array.getElem?_eq_some_iff.1 Af.out).1 (Ad Af.out (by decide))).trans Af.out)
     have Bc:=Hd (fun V (hV:(turns f).r wr V)=>And.intro ((ta2 hV Dh (Ad k0 (by decide)) (o:=k)).trans A1) ((ta2 hV D3 (Ad k1 (by decide)) (o:=k)).trans At))
     have Ar:=Hd (show ∀ y,wr.heap.size≤y→f y=none from fun y hy=>by rw [hf];exact fOn fun e=>by have:=(Aj.lt y e).2;omega)
     have Am:=Hd (fun (y t:Nat) (cur:Array Value) (fz:Nat×Nat) (hy:wr.heap[y]? = some (.cells cur t fz)) (hne:t≠celT 1)=>Ad hy hne)
     have Aq:=Hd hf
     have A5:=Hd Aj
     have Eu:=Hd Cc
     have Bs:=Hd (show (celL Ek (k,1)).length≤1000 by
      have:=(Es.out k hk).1
      rw [Bq.out]
      unfold celL
      simp only [if_true,if_neg (Nat.lt_irrefl k),List.length_map,if_neg (show ¬ (1:Nat)=0 by omega)]
      exact this)
     clear hA Bf Bx Ad hf Aj Cc k0 k1 k2 k3 A1 At Dh D3 Fl Fd q4
     obtain ⟨i0,hi,Fb,Fg,Fc⟩:=info_parts iW
     refine FlowR.wrf (R:=turns f) 19 (FlowR.sp3 44 (fun _ => .inl undef) (.inl ?_ :: .inl ?_ :: .inl ?_ :: .inl ?_ :: .inl ?_ :: .inl ?_ :: .inl ?_ :: .inl ?_ :: .inl ?_ :: .inl ?_ :: .inl ?_ :: .inl ?_ :: .inl ?_ :: .inl ?_ :: .inl ?_ :: .inl ?_ :: .inl ?_ :: .inr (newR wr.heap.size [.int .i64 x0,.int .u64 wl]) :: .inr (appd f wr.heap.size (g + 1) (celT 1) (celS 1) ((celL Ek (k,1)).length + 1) ((celL Ek (k,1)).flatten ++ [.int .i64 x0,.int .u64 wl]) va.ownBlock) :: [])) (fun _=>0) (FlowR.so5 (by kernel_rfl)) (by kernel_rfl) (by kernel_rfl) ?_ ?_
     rotate_left 17
     ·refine FlowR.sm2 (fun x=>FlowR.mi _) ?_
      repeat (first | exact FlowR.ln2 | refine FlowR.li2 ?_ | refine FlowR.li3 (nRm2 Ar.out _) ?_ | refine FlowR.li3 (am2 Ar.out) ?_)
     all_goals try simp only [List.take_succ_cons,List.take_zero,List.drop_succ_cons,List.drop_zero]
     iterate 17 (refine FlowR.tvK rfl (fun K hK=>⟨fun V hw hG => ?_,?_⟩);(have t4:=Cl.out V hw;obtain ⟨t5,t6,t7,t8⟩:=can4 (A3.out V hw);obtain ⟨t9,D6⟩:=Bc.out V hw;clear hG hw;unfold FlowR.Runs FlowR.yields;go_simp;try rfl);go_simp;refine hK _ ?_;clear hK K)
     (refine FlowR.tvK2 rfl (fun K hK=>⟨fun V hw hG => ?_,?_⟩);(have Bu:=hw.2.2.2.1;clear hG hw;unfold FlowR.Runs FlowR.yields;go_simp;exact ⟨ta3 _ _,(⟨V.heap.size,rfl,Bu,by simp,fun j u hu=>by rw [cell_of_row _ _ _ _ _ _ (heap_alloc_new _ _)];simpa using hu⟩:newR wr.heap.size [.int .i64 x0,.int .u64 wl] (.slice (some ⟨V.heap.size,0,none⟩) 1 1) (V.alloc _))⟩);intro vn;go_simp;refine hK _ _ ?_;clear hK K)
     (refine FlowR.tvK2 rfl (fun K hK=>⟨fun V hw hG => ?_,?_⟩);(have Ao:=(show newR wr.heap.size [.int .i64 x0,.int .u64 wl] vn V by simpa [FlowR.upd] using hG 17 (by kernel_rfl));have B2:=Bs.out;obtain ⟨v',V2,Ai,B0,An⟩:=ta4 (P:=Tryz.prog) (t:=54) (ty:=54) Tryz.underlying54 hi Fb Fg Fc rfl (by decide) hw A5.out (fun y e=>by rw [Aq.out];rfl) rfl (by intro u hu;simp only [List.mem_cons,List.not_mem_nil,or_false] at hu;rcases hu with rfl | rfl <;> rfl) (by unfold maxLen;omega) (by omega) Aa.out.lt Ao;clear hG hw Ao;exact ra2 (t:=54) (.tmp 49) (.tmp 62) rfl rfl rfl rfl Ai B0 An);intro vt;go_simp;refine hK _ _ ?_;clear hK K)
     refine FlowR.tn2 fun w8 hw8 hG => ?_
     have Ae:=(show appd f wr.heap.size (g + 1) (celT 1) (celS 1) ((celL Ek (k,1)).length + 1) ((celL Ek (k,1)).flatten ++ [.int .i64 x0,.int .u64 wl]) va.ownBlock vt w8 by simpa [FlowR.upd] using hG 18)
     clear hG
     obtain ⟨Ew,B3⟩:∃ Ew:Nat→CK×Pay,Ew=fun j=>if j=k then pushS (Ek j) (Tess.wO x0 x1) else Ek j:=⟨_,rfl⟩
     obtain ⟨A,hA,_⟩:=Aa.out.arr
     have Dw:=(tb2 hw8 Aa.out.lt (Am.out g _ _ _ hA (by decide))).trans hA
     have Ab:∀ {v:Value} {m:Nat} {xs:List Value},wr.ownsRow tb 2 1 v m xs→(w8.setCell ⟨g,k * 6 + 3,none⟩ vt).ownsRow tb 2 1 v m xs:=fun {v m xs} ho=>ok2 (to2 ho hw8 (fun y hy=>by
      obtain ⟨cc,zz,hh⟩:=ok3 ho y hy
      exact Am.out y _ _ _ hh (by decide))) Dw (by decide) vt
     have De:Kept wb.heap.size r wb (w8.setCell ⟨g,k * 6 + 3,none⟩ vt):=Kg (Kn Ak.out hw8 (fun y hy _=>by rw [Aq.out];exact fOn fun e=>by have h1:=(A5.out.lt y e).1;have:=Ba.out;omega)) Ba.out vt
     have Dj:=SRd.push (E':=Ew) Aa.out hk (fd:=1) (by omega) (x:=[.int .i64 x0,.int .u64 wl]) (v':=vt) (by
       rw [← HW.out]
       refine celL_pushS ?_ (fun j hj => ?_)
       ·rw [B3];exact if_pos rfl
       ·rw [B3];exact if_neg hj)
      (fun j=>by
        rw [B3]
        by_cases h:j=k
        ·simp only [if_pos h];exact ⟨rfl,rfl⟩
        ·simp only [if_neg h];exact ⟨trivial,trivial⟩) (by rw [Aq.out,Eu.out] at hw8;exact hw8) (by rw [Aq.out,Eu.out] at Ae;exact Ae)
     have Eq:=(heap_setCell_other w8 ⟨g,k * 6 + 3,none⟩ tb vt (show tb≠g by have:=Bb.out;omega)).trans ((tb2 hw8 (Array.getElem?_eq_some_iff.1 Af.out).1 (Am.out tb _ _ _ Af.out (by decide))).trans Af.out)
     have q1:=Cl.out w8 hw8
     have q2:=Bv.out w8 hw8
     have Dg:=Hd (Ab A2.out)
     have D9:=Hd (Ab A6.out)
     have Bi:=Hd (Ab Az.out)
     have Cf:=Hd (Ab Av.out)
     have Ds:=Hd De
     have Ec:=Hd Dj
     have Dq:=Hd Eq
     have B6:=Hd B3
     obtain ⟨av,nv,cv,rfl⟩:∃ a n c,vt = .slice a n c:=by
      rcases Ae.1.2 with ⟨h,_⟩ | ⟨_,_,_,h,_⟩
      ·exact ⟨_,_,_,h⟩
      ·exact ⟨_,_,_,h⟩
     clear Ae Ab De Dj Dw hA hw8 Eq B3
     clear A2 A6 Az Av Ak Af Cl Bv A3 Bc Ar Am Aq A5 Bs
     go_wp2_with (fail)
     obtain ⟨W3,Cy⟩:∃ W3,w8.setCell ⟨g,k * 6 + 3,none⟩ (.slice av nv cv)=W3:=⟨_,rfl⟩
     obtain ⟨V2,B9⟩:∃ V2:Nat×Nat→Value,V2=fun i=>if i=(k,1) then .slice av nv cv else V' i:=⟨_,rfl⟩
     have Al:=Ec.out
     have Bt:=Dq.out
     have Ct:=Dg.out
     have C3:=D9.out
     have B4:=Bi.out
     have B5:=Cf.out
     have C6:=Ds.out
     rw [show k * 6 + posF 1=k * 6 + 3 from rfl,Cy,← B9] at Al
     rw [Cy] at Bt Ct C3 B4 B5 C6 ⊢
     have Cj:V2 (k,2)=V (k,2)∧V2 (k,3)=V (k,3):=by
      rw [B9]
      exact ⟨(if_neg (fun e=>by cases e)).trans (Cu.out k (Nat.le_refl _) 2),(if_neg (fun e=>by cases e)).trans (Cu.out k (Nat.le_refl _) 3)⟩
     have Cn:=Hd (show ∀ j,k + 1≤j→∀ fd,V2 (j,fd)=V (j,fd) from fun j hj fd=>by
      rw [B9]
      exact (if_neg (fun e=>by cases e;omega)).trans (Cu.out j (by omega) fd))
     obtain ⟨vm,A7⟩:∃ vm,vm=V2 (k,2):=⟨_,rfl⟩
     obtain ⟨vx,A4⟩:∃ vx,vx=V2 (k,3):=⟨_,rfl⟩
     have Da:∀ z,vm.ownBlock=some z→g < z∧z < tb:=fun z e=>⟨(Al.low (i:=(k,2)) ⟨hk,by omega⟩ z (by rw [← A7];exact e)).1,C7.out (k,2) ⟨hk,by omega⟩ z (by rw [← Cj.1,← A7];exact e)⟩
     have Ef:∀ z,vx.ownBlock=some z→g < z∧z < tb:=fun z e=>⟨(Al.low (i:=(k,3)) ⟨hk,by omega⟩ z (by rw [← A4];exact e)).1,C7.out (k,3) ⟨hk,by omega⟩ z (by rw [← Cj.2,← A4];exact e)⟩
     have C0:=Al.fam.own (k,2) ⟨hk,by omega⟩
     have C4:=Al.fam.own (k,3) ⟨hk,by omega⟩
     have Ae:=Al.fam.apart (k,2) (k,3) ⟨hk,by omega⟩ ⟨hk,by omega⟩ (fun e=>by cases e)
     rw [← A7] at C0 Ae
     rw [← A4] at C4 Ae
     obtain ⟨f,hf⟩:∃ f:Nat→Option (Obj×Obj),f=fun z=>(fOf W3 vm (celS 2) [.int .i64 x2] z).or (fOf W3 vx (celS 3) [.int .i64 x3] z):=⟨_,rfl⟩
     have Ad:∀ z,z≤g∨tb≤z→f z=none:=fun z hz=>by
      rw [hf]
      show (fOf W3 vm (celS 2) [.int .i64 x2] z).or _=none
      rw [fOn (fun e=>by have:=Da z e;omega),fOn (fun e=>by have:=Ef z e;omega)]
      rfl
     have Dy:∀ z,vm.ownBlock=some z→f z=fOf W3 vm (celS 2) [.int .i64 x2] z:=fun z e=>by
      rw [hf]
      show (fOf W3 vm (celS 2) [.int .i64 x2] z).or _=_
      rw [fOn (v:=vx) (fun e2=>by
       rcases Ae with h | h
       ·rw [e] at h;cases h
       ·exact h (e.trans e2.symm))]
      exact Option.or_none
     have El:∀ z,vx.ownBlock=some z→f z=fOf W3 vx (celS 3) [.int .i64 x3] z:=fun z e=>by
      rw [hf]
      show (fOf W3 vm (celS 2) [.int .i64 x2] z).or _=_
      rw [fOn (v:=vm) (fun e2=>by
       rcases Ae with h | h
       ·rw [e2] at h;cases h
       ·exact h (e2.trans e.symm))]
      rfl
     have Bm:=Bb.out
     have Co:=(Array.getElem?_eq_some_iff.1 Bt).1
     obtain ⟨A,hA,Bf⟩:=Al.arr
     have Ah:=Bf k hk 4 (by omega)
     have Ag:=Bf k hk 5 (by omega)
     rw [cCa _ _ _ _ (by omega)] at Ah Ag
     simp only [if_neg (show ¬ (4:Nat)=0 by omega),if_neg (show ¬ (4:Nat)=1 by omega),if_neg (show ¬ (4:Nat)=2 by omega),if_neg (show ¬ (4:Nat)=3 by omega),if_true] at Ah
     simp only [if_neg (show ¬ (5:Nat)=0 by omega),if_neg (show ¬ (5:Nat)=1 by omega),if_neg (show ¬ (5:Nat)=2 by omega),if_neg (show ¬ (5:Nat)=3 by omega),if_neg (show ¬ (5:Nat)=4 by omega)] at Ag
     rw [← A7] at Ah
     rw [← A4] at Ag
     obtain ⟨q2,F4,e2,Ep,Bl,_,Aw⟩:=oc2 B4 (by omega)
     obtain ⟨q3,Fz,e3,Dp,B1,_,Au⟩:=oc2 B5 (by omega)
     simp only [Value.slice.injEq,Option.some.injEq,Addr.mk.injEq,and_true,true_and] at e2 e3
     obtain ⟨rfl,rfl⟩:=e2
     obtain ⟨rfl,rfl⟩:=e3
     obtain ⟨Aw,_⟩:=Aw k hk
     obtain ⟨Au,_⟩:=Au k hk
     obtain ⟨l1,l2,l3,l4⟩:=Er.out
     rw [List.getElem?_map,List.getElem?_eq_getElem (by omega)] at Aw Au
     simp only [Option.map_some,Nat.zero_add] at Aw Au
     rw [show lc[k]'(by omega)=x2 by rw [← Bh.out.2.2.1,List.getD_eq_getElem?_getD,List.getElem?_eq_getElem (by omega)];rfl] at Aw
     rw [show ld[k]'(by omega)=x3 by rw [← Bh.out.2.2.2,List.getD_eq_getElem?_getD,List.getElem?_eq_getElem (by omega)];rfl] at Au
     have Cg:=Al.lt
     have Ch:=Hd (fun V (hV:(turns f).r W3 V)=>And.intro ((ta2 hV Cg (Ad g (.inl (Nat.le_refl _))) (o:=k * 6 + 4)).trans ((cell_of_row _ _ _ _ _ _ hA).trans Ah)) ((ta2 hV Cg (Ad g (.inl (Nat.le_refl _))) (o:=k * 6 + 5)).trans ((cell_of_row _ _ _ _ _ _ hA).trans Ag)))
     have Bv:=Hd (fun V (hV:(turns f).r W3 V) (i:Nat)=>frozen_of_row V g i _ _ ((tb2 hV Cg (Ad g (.inl (Nat.le_refl _)))).trans hA))
     have A3:=Hd (fun V (hV:(turns f).r W3 V)=>(tb2 hV Co (Ad tb (.inr (Nat.le_refl _)))).trans Bt)
     have Bc:=Hd (fun V (hV:(turns f).r W3 V)=>And.intro ((ta2 hV Bl (Ad _ (.inr Ep)) (o:=k)).trans Aw) ((ta2 hV B1 (Ad _ (.inr Dp)) (o:=k)).trans Au))
     have Ar:=Hd (show ∀ y,W3.heap.size≤y→f y=none from fun y hy=>Ad y (.inr (by omega)))
     have Am:=Hd Ad
     have D8:=Hd Dy
     have Eb:=Hd El
     have Aq:=Hd (show ∀ z,f z=(fOf W3 (V2 (k,2)) (celS 2) [.int .i64 x2] z).or (fOf W3 (V2 (k,3)) (celS 3) [.int .i64 x3] z) from fun z=>by rw [hf,A7,A4])
     have Ej:=Hd C0
     have C1:=Hd C4
     have Fe:=Hd A7
     have Ez:=Hd A4
     have Bo:=Hd Al
     have Fj:=Hd Bt
     have Df:=Hd Ct
     have Et:=Hd C3
     have Dx:=Hd B4
     have Dn:=Hd B5
     have Dv:=Hd C6
     have Dk:=Hd hA
     have Ck:=Hd (show (celL Ew (k,2)).length≤1000∧(celL Ew (k,3)).length≤1000 by
      have:=(Es.out k hk).2
      rw [B6.out]
      simp only [Bq.out]
      unfold celL
      simp only [if_true,if_neg (Nat.lt_irrefl k),List.length_map,if_neg (show ¬ (2:Nat)=0 by omega),if_neg (show ¬ (2:Nat)=1 by omega),if_neg (show ¬ (3:Nat)=0 by omega),if_neg (show ¬ (3:Nat)=1 by omega),if_neg (show ¬ (3:Nat)=2 by omega)]
      exact this)
     have Fs:=Hd Co
     clear Ad Dy El hf C0 C4 A7 A4 Al Bt Ct C3 B4 B5 C6 hA Bf Ah Ag Aw Au Bl B1 Cg Co Bm Da Ef Ae Cj B9 Cy l1 l2 l3 l4 Ec Dq Dg D9 Bi Cf Ds Ep Dp
     obtain ⟨i1,Ei,D4,D0,Ea⟩:=info_parts infoI64
     obtain ⟨S,hS⟩:∃ S:Nat→Value→FlowR.Spec,S=FlowR.sp3 23 (fun x => .inr (fun v w=>appd f W3.heap.size (g + 1) (celT 3) (celS 3) ((celL Ew (k,3)).length + 1) ((celL Ew (k,3)).flatten ++ [.int .i64 x3]) vx.ownBlock v w∧∀ z,v.ownBlock=some z→W3.heap.size≤z→x.ownBlock≠some z)) (.inl (.pointer (some ⟨g,k * 6,none⟩)) :: .inl (.pointer (some ⟨g,k * 6,none⟩)) :: .inl (.pointer (some ⟨g,k * 6,none⟩)) :: .inl (.pointer (some ⟨g,k * 6,none⟩)) :: .inl (.pointer (some ⟨g,k * 6 + 4,none⟩)) :: .inl vm :: .inl (.pointer (some ⟨tb,2,none⟩)) :: .inl (.slice (some ⟨p2,0,none⟩) n Ci) :: .inl (.int .i64 k) :: .inl (.pointer (some ⟨p2,k,none⟩)) :: .inl (.int .i64 x2) :: .inr (newR W3.heap.size [.int .i64 x2]) :: .inr (appd f W3.heap.size (g + 1) (celT 2) (celS 2) ((celL Ew (k,2)).length + 1) ((celL Ew (k,2)).flatten ++ [.int .i64 x2]) vm.ownBlock) :: .inl (.pointer (some ⟨g,k * 6,none⟩)) :: .inl (.pointer (some ⟨g,k * 6,none⟩)) :: .inl (.pointer (some ⟨g,k * 6 + 5,none⟩)) :: .inl vx :: .inl (.pointer (some ⟨tb,3,none⟩)) :: .inl (.slice (some ⟨p3,0,none⟩) n Cz) :: .inl (.int .i64 k) :: .inl (.pointer (some ⟨p3,k,none⟩)) :: .inl (.int .i64 x3) :: .inr (newR W3.heap.size [.int .i64 x3]) :: []):=⟨_,rfl⟩
     refine FlowE.wp_region (R:=turns f) 24 24 1 S (fun _=>78) (by rw [hS];exact FlowR.specs_okU (by kernel_rfl)) (by kernel_rfl) (by kernel_rfl) (by
       rw [hS]
       refine FlowR.sm2 (fun x => ?_) ?_
       ·rintro v a b ⟨h1,h2⟩ hr
        exact ⟨am2 Ar.out v a b h1 hr,h2⟩
       ·repeat (first | exact FlowR.ln2 | refine FlowR.li2 ?_ | refine FlowR.li3 (nRm2 Ar.out _) ?_ | refine FlowR.li3 (am2 Ar.out) ?_)) rfl (by kernel_rfl) (by omega) (by first | (simp only [Region.wanted];done) | (simp [Region.wanted,yielded];done)) (fun w=>by go_simp;try rfl) ?_
     subst hS
     simp only [FlowE.addE,List.modify_succ_cons,List.modify_zero_cons]
     simp only [List.take_succ_cons,List.take_zero,List.drop_succ_cons,List.drop_zero]
     iterate 11 (refine FlowR.tvK rfl (fun K hK=>⟨fun V hw hG => ?_,?_⟩);(obtain ⟨t4,t5⟩:=Ch.out V hw;obtain ⟨t6,t7,t8,t9⟩:=can4 (A3.out V hw);obtain ⟨D6,Ey⟩:=Bc.out V hw;clear hG hw;unfold FlowR.Runs FlowR.yields;go_simp;try rfl);go_simp;refine hK _ ?_;clear hK K)
     (refine FlowR.tvK2 rfl (fun K hK=>⟨fun V hw hG => ?_,?_⟩);(have Bu:=hw.2.2.2.1;clear hG hw;unfold FlowR.Runs FlowR.yields;go_simp;exact ⟨ta3 _ _,(⟨V.heap.size,rfl,Bu,by simp,fun j u hu=>by rw [cell_of_row _ _ _ _ _ _ (heap_alloc_new _ _)];simpa using hu⟩:newR W3.heap.size [.int .i64 x2] (.slice (some ⟨V.heap.size,0,none⟩) 1 1) (V.alloc _))⟩);intro vn;go_simp;refine hK _ _ ?_;clear hK K)
     (refine FlowR.tvK2 rfl (fun K hK=>⟨fun V hw hG => ?_,?_⟩);(have Ao:=(show newR W3.heap.size [.int .i64 x2] vn V by simpa [FlowR.upd] using hG 11 (by kernel_rfl));have B2:=Ck.out.1;obtain ⟨v',V',Ai,B0,An⟩:=ta4 (P:=Tryz.prog) (t:=49) (ty:=49) Tryz.underlying49 Ei D4 D0 Ea rfl (by decide) hw Ej.out D8.out rfl (by intro u hu;simp only [List.mem_cons,List.not_mem_nil,or_false] at hu;rcases hu with rfl;rfl) (by unfold maxLen;omega) (by omega) Bo.out.lt Ao;clear hG hw Ao;exact ra2 (t:=49) (.tmp 71) (.tmp 77) rfl rfl rfl rfl Ai B0 An);intro vt;go_simp;refine hK _ _ ?_;clear hK K)
     iterate 9 (refine FlowR.tvK rfl (fun K hK=>⟨fun V hw hG => ?_,?_⟩);(obtain ⟨t4,t5⟩:=Ch.out V hw;obtain ⟨t6,t7,t8,t9⟩:=can4 (A3.out V hw);obtain ⟨D6,Ey⟩:=Bc.out V hw;clear hG hw;unfold FlowR.Runs FlowR.yields;go_simp;try rfl);go_simp;refine hK _ ?_;clear hK K)
     (refine FlowR.tvK2 rfl (fun K hK=>⟨fun V hw hG => ?_,?_⟩);(have Bu:=hw.2.2.2.1;clear hG hw;unfold FlowR.Runs FlowR.yields;go_simp;exact ⟨ta3 _ _,(⟨V.heap.size,rfl,Bu,by simp,fun j u hu=>by rw [cell_of_row _ _ _ _ _ _ (heap_alloc_new _ _)];simpa using hu⟩:newR W3.heap.size [.int .i64 x3] (.slice (some ⟨V.heap.size,0,none⟩) 1 1) (V.alloc _))⟩);intro Fi;go_simp;refine hK _ _ ?_;clear hK K)
     (refine FlowR.tvK2 rfl (fun K hK=>⟨fun V hw hG => ?_,?_⟩);(have Ao:=(show newR W3.heap.size [.int .i64 x3] Fi V by simpa [FlowR.upd] using hG 22 (by kernel_rfl));have E0:=(show appd f W3.heap.size (g + 1) (celT 2) (celS 2) ((celL Ew (k,2)).length + 1) ((celL Ew (k,2)).flatten ++ [.int .i64 x2]) vm.ownBlock vt V by simpa [FlowR.upd] using hG 12 (by kernel_rfl));have B2:=Ck.out.2;obtain ⟨v',V',Ai,B0,An,Cw⟩:=taa (P:=Tryz.prog) (t:=49) (ty:=49) Tryz.underlying49 Ei D4 D0 Ea rfl (by decide) hw C1.out Eb.out rfl (by intro u hu;simp only [List.mem_cons,List.not_mem_nil,or_false] at hu;rcases hu with rfl;rfl) (by unfold maxLen;omega) (by omega) Bo.out.lt Ao;clear hG hw Ao;exact ra2 (t:=49) (.tmp 82) (.tmp 88) rfl rfl rfl rfl Ai B0 ⟨An,fun z e hz e2=>by
       have h1:=(E0.1.lt z e2).2
       rcases Cw with h | h
       ·have:=(C1.out.lt z (h.symm.trans e)).2
        omega
       ·have h3:=Option.some.inj (e.symm.trans h)
        omega⟩);intro vu;go_simp;refine hK _ _ ?_;clear hK K)
     refine FlowR.tn2 fun w9 hw9 hG => ?_
     have Ae:=(show appd f W3.heap.size (g + 1) (celT 2) (celS 2) ((celL Ew (k,2)).length + 1) ((celL Ew (k,2)).flatten ++ [.int .i64 x2]) vm.ownBlock vt w9 by simpa [FlowR.upd] using hG 12)
     obtain ⟨Cb,Bw⟩:=(show appd f W3.heap.size (g + 1) (celT 3) (celS 3) ((celL Ew (k,3)).length + 1) ((celL Ew (k,3)).flatten ++ [.int .i64 x3]) vx.ownBlock vu w9∧(∀ z,vu.ownBlock=some z→W3.heap.size≤z→vt.ownBlock≠some z) by simpa [FlowR.upd] using hG 23)
     clear hG
     have Cd:=(tb2 hw9 Bo.out.lt (Am.out g (.inl (Nat.le_refl _)))).trans Dk.out
     obtain ⟨q4,q5⟩:=Ch.out w9 hw9
     have z4:=Bv.out w9 hw9 (k * 6 + 4)
     have Dc:=SRd.push2 (E':=fun j=>if j < k + 1 then pM (E j) (Tess.wO (la.getD j 0) (lb.getD j 0)) (lc.getD j 0) (ld.getD j 0) else E j) Bo.out hk (celL_pushX (x:=x2) (y:=x3) (by
       simp only [if_pos (Nat.lt_succ_self k)]
       rw [B6.out]
       simp only [if_true,Bq.out,if_neg (Nat.lt_irrefl k)]
       rw [Bh.out.1,Bh.out.2.1,Bh.out.2.2.1,Bh.out.2.2.2]
       rfl) (fun j hj=>by
       rw [B6.out]
       simp only [if_neg hj,Bq.out]
       by_cases h:j < k
       ·simp only [if_pos h,if_pos (show j < k + 1 by omega)]
       ·simp only [if_neg h,if_neg (show ¬ j < k + 1 by omega)])) (fun j=>by
       rw [B6.out]
       simp only [Bq.out]
       by_cases h:j=k
       ·subst h
        simp only [if_true,if_neg (Nat.lt_irrefl j),if_pos (Nat.lt_succ_self j)]
        exact ⟨rfl,rfl⟩
       ·simp only [if_neg h]
        by_cases h2:j < k
        ·simp only [if_pos h2,if_pos (show j < k + 1 by omega)];exact ⟨trivial,trivial⟩
        ·simp only [if_neg h2,if_neg (show ¬ j < k + 1 by omega)];exact ⟨trivial,trivial⟩)
      Aq.out hw9 (by rw [Fe.out] at Ae;exact Ae) (by rw [Ez.out] at Cb;exact Cb) Bw
     have Ac:∀ {v:Value} {m:Nat} {xs:List Value},W3.ownsRow tb 2 1 v m xs→((w9.setCell ⟨g,k * 6 + 4,none⟩ vt).setCell ⟨g,k * 6 + 5,none⟩ vu).ownsRow tb 2 1 v m xs:=fun {v m xs} ho=>
      ok2 (ok2 (to2 ho hw9 (fun y hy=>Am.out y (.inr (ho.lt y hy).1))) Cd (by decide) vt) (heap_setCell_same _ _ _ _ _ vt Cd) (by decide) vu
     have Du:Kept wb.heap.size r wb ((w9.setCell ⟨g,k * 6 + 4,none⟩ vt).setCell ⟨g,k * 6 + 5,none⟩ vu):=Kg (Kg (Kn Dv.out hw9 (fun y hy _=>Am.out y (.inl (by have:=Ba.out;omega)))) Ba.out vt) Ba.out vu
     have Dm:=(heap_setCell_other (w9.setCell ⟨g,k * 6 + 4,none⟩ vt) ⟨g,k * 6 + 5,none⟩ tb vu (show tb≠g by have:=Bb.out;omega)).trans ((heap_setCell_other w9 ⟨g,k * 6 + 4,none⟩ tb vt (show tb≠g by have:=Bb.out;omega)).trans (A3.out w9 hw9))
     have Fk:=Hd Dc
     have Ex:=Hd (Ac Df.out)
     have Fa:=Hd (Ac Et.out)
     have E6:=Hd (Ac Dx.out)
     have E5:=Hd (Ac Dn.out)
     have Cf:=Hd Du
     have E1:=Hd Dm
     have q6:(w9.setCell ⟨g,k * 6 + 4,none⟩ vt).cell? ⟨g,k * 6 + 5,none⟩=some vx:=by
      rw [World.cell?_setCell_other _ _ _ _ (fun e=>by simp at e)]
      exact q5
     have z6:=frozen_of_row (w9.setCell ⟨g,k * 6 + 4,none⟩ vt) g (k * 6 + 5) _ _ (heap_setCell_same _ _ _ _ _ vt Cd)
     obtain ⟨Fo,Fp,Fx,rfl⟩:∃ a n c,vt = .slice a n c:=by
      rcases Ae.1.2 with ⟨h,_⟩ | ⟨_,_,_,h,_⟩ <;> exact ⟨_,_,_,h⟩
     obtain ⟨Fy,Fn,Fr,rfl⟩:∃ a n c,vu = .slice a n c:=by
      rcases Cb.1.2 with ⟨h,_⟩ | ⟨_,_,_,h,_⟩ <;> exact ⟨_,_,_,h⟩
     clear Ae Cb Bw Cd Dc Ac Du Dm hw9
     clear Ch Bv A3 Bc Ar Am D8 Eb Aq Ej C1 Bo Fj Df Et Dx Dn Dv Dk Ck
     go_wp2_with (fail)
     refine ⟨rfl,?_⟩
     go_wp2_with (fail)
     refine ⟨?_,?measure⟩
     iterate 30 apply Exists.intro
     iterate 31 apply Exists.intro
     refine ⟨?rel,rfl⟩
     case rel=>exact ⟨k + 1,_,by omega,by go_num,Fk.out,fun j hj fd=>(if_neg (fun e=>by cases e;omega)).trans ((if_neg (fun e=>by cases e;omega)).trans (Cn.out j hj fd)),E1.out,Ex.out,Fa.out,E6.out,E5.out,Cf.out⟩
     case measure=>simp [intOf];omega
    ·have Cr:k=n:=by omega
     subst Cr
     go_wp2_with (fail)
     go_ret
     rw [E4.out]
     refine ⟨rfl,Ak.out,fun x h => ?_⟩
     cases h
     exact ⟨V',SRd.congr Aa.out fun j hj=>by simp only [if_pos hj]⟩
end Go.Proofs.YtjdccifdkjnknaaGreatDoor
