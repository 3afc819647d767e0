/- Cells put among some: the program's put, walked. -/
import Derived.Test.YtaddkkkchkdgkaaGreatDoorWC16
namespace Go.Proofs.YtaddkkkchkdgkaaGreatDoor
open Go.RowKit Go.Sort
open Tess (CK Pay ckLt PayOk)
open Tess.Kl (Asc fold ins)
theorem CelAt.shapes {p:Nat→Prop} {w:World} {cs:List Value} {x:CK×Pay} (h:CelAt p w cs x):∃ ad cd a3 c3 a4 c4 a5 c5,cs=[.int .i64 x.1.1,.slice ad x.1.2.length cd,.int .i64 x.2.n,.slice a3 x.2.sums.length c3,.slice a4 x.2.mins.length c4,.slice a5 x.2.maxs.length c5]∧ValCell w ad (x.1.2.map Tess.valOf):=by
 obtain ⟨vd,vs,vm,vx,rfl,h1,h2⟩:=h
 obtain ⟨ad,cd,rfl,_,hc⟩:=h1.cells
 obtain ⟨a3,c3,rfl⟩:=h2.sums.shape
 obtain ⟨a4,c4,rfl⟩:=h2.mins.shape
 obtain ⟨a5,c5,rfl⟩:=h2.maxs.shape
 exact ⟨ad,cd,a3,c3,a4,c4,a5,c5,by rw [List.length_map],hc⟩
theorem ValCell.below {w w':World} {a:Option Addr} {l:List Tess.Val} (h:ValCell w a l) (hb:Below w.heap.size w w'):ValCell w' a l:=fun j hj=>
 let ⟨b,off,ha,hbl,h0,h1⟩:=h j hj;⟨b,off,ha,Nat.lt_of_lt_of_le hbl hb.size,(hb.cell (p:=⟨b,off + j * 2,none⟩) hbl).trans h0,(hb.cell (p:=⟨b,off + j * 2 + 1,none⟩) hbl).trans h1⟩
theorem infoCell:(Tryz.prog.info? 83).map (fun i=>(i.zero,i.size,i.bytes))=some (some (.agg #[.int .i64 0,.slice none 0 0,.int .i64 0,.slice none 0 0,.slice none 0 0,.slice none 0 0]),6,112):=by kernel_rfl
theorem fold_len (l:List (CK×Pay)):(fold ckLt Pay.add l).length≤l.length:=by
 have h2:∀ (x:CK×Pay) (m:List (CK×Pay)),(ins ckLt Pay.add x m).length≤m.length + 1:=fun x m=>by
  induction m with
  | nil=>simp [ins]
  | cons y m ih2=>
    rw [ins]
    split
    ·simp only [List.length_cons];omega
    ·split <;> simp only [List.length_cons] <;> omega
 have h1:∀ (l m:List (CK×Pay)),(l.foldl (fun m x=>ins ckLt Pay.add x m) m).length≤m.length + l.length:=fun l=>by
  induction l with
  | nil=>intro m;simp
  | cons x l ih=>
    intro m
    rw [List.foldl_cons,List.length_cons]
    have:=ih (ins ckLt Pay.add x m)
    have:=h2 x m
    omega
 have:=h1 l []
 unfold fold
 simpa using this
theorem PutSt.shape {N:Nat} {W:World} {v:Value} {us:List (List Value)} {L:List (CK×Pay)} (h:PutSt N W v us L):∃ la lc,v = .slice la L.length lc∧L.length≤lc∧lc≤maxLen∧((la=none∧lc=0∧L.length=0)∨∃ g,la=some ⟨g,0,none⟩∧N≤g∧g < W.heap.size):=by
 have hlen:=h.own.len
 rcases h.own.own.2 with ⟨rfl,h0⟩ | ⟨g,cap,cur,rfl,hg,hh,hcap,hm,_,_⟩
 ·exact ⟨none,0,by rw [← hlen,h0],by omega,Nat.zero_le _,.inl ⟨rfl,rfl,by omega⟩⟩
 ·exact ⟨_,cap,by rw [hlen],by omega,hm,.inr ⟨g,rfl,hg,(Array.getElem?_eq_some_iff.1 hh).1⟩⟩
theorem PutSt.mutsLt {N:Nat} {W:World} {v:Value} {us:List (List Value)} {L:List (CK×Pay)} (h:PutSt N W v us L):∀ j (hj:j < us.length),∀ b ∈ muts us[j],N≤b∧b < W.heap.size:=fun j hj b hb=>by
 have:=(cel_nest.lt (h.own.at_ j (by have:=h.own.len;omega) hj)).inMuts b hb
 exact ⟨this.1.1,this.2⟩
theorem nodup_three {t n:Int} {vd vs vm vx:Value} (h:(muts [.int .i64 t,vd,.int .i64 n,vs,vm,vx]).Nodup):(∀ b,blkN vs=some b→blkN vm≠some b)∧(∀ b,blkN vs=some b→blkN vx≠some b)∧∀ b,blkN vm=some b→blkN vx≠some b:=by
 unfold muts at h
 rw [List.nodup_iff_pairwise_ne,List.pairwise_filterMap] at h
 simp only [List.pairwise_cons,List.mem_cons,List.not_mem_nil,or_false,forall_eq_or_imp,forall_eq,List.Pairwise.nil,and_true] at h
 obtain ⟨_,_,_,⟨h1,h2⟩,h3,_⟩:=h
 exact ⟨fun b hb hb'=>h1 b hb b hb' rfl,fun b hb hb'=>h2 b hb b hb' rfl,fun b hb hb'=>h3 b hb b hb' rfl⟩
theorem mem_muts {v:Value} {cs:List Value} {b:Nat} (hv:v ∈ cs) (hb:blkN v=some b):b ∈ muts cs:=List.mem_filterMap.2 ⟨v,hv,hb⟩
set_option maxRecDepth 100000 in
set_option maxHeartbeats 8000000 in
theorem put_any (p:Nat→Prop) (va:Value) (C:List (CK×Pay)) (M:Nat) (w:World) (hv:CelsAt p w va C) (hM:∀ x ∈ C,PayOk M x.2∧x.1.2.length≤1000) (hMM:M≤1000) (htot:(C.map (·.2.n)).sum≤1000000) (hCl:C.length≤1000) :
  Calls Tryz.prog 33 #[.slice none 0 0,va] w fun e w' => ∃ v' us,e = .returned v'∧PutSt (w.heap.size + 1) w' v' us (fold ckLt Pay.add C)∧(C=[]→v' = .slice none 0 0)∧Below w.heap.size w w':=by
 obtain ⟨a,cap,rfl,_,hl,_,hc⟩:=ListAt.open hv
 have hl:C.length≤9223372036854775807:=by omega
 have HC:=Lib.hid hc
 clear hc hv
 obtain ⟨W0,hW0⟩:∃ W0,w.alloc (.cells #[.slice none 0 0] 41)=W0:=⟨_,rfl⟩
 obtain ⟨k0,kS,kB⟩:=laid1 w (.cells #[.slice none 0 0] 41)
 rw [hW0] at k0 kS kB
 have K0:=Lib.hid k0
 have KB:=Lib.hid kB
 clear k0 kB
 go_enter Tryz.func33,Tryz.ntmps33
 go_wp2_with (fail)
 clear hW0
 go_loopw [13] (fun i wr => ∃ (k:Nat) (v:Value) (us:List (List Value)),k≤C.length∧i = .int .i64 k∧wr.heap[w.heap.size]? = some (.cells #[v] 41 (0,0))∧PutSt (w.heap.size + 1) wr v us (fold ckLt Pay.add (C.take k))∧(k=0→v = .slice none 0 0)∧Below w.heap.size w wr) (fun i _=>C.length - (intOf i).toNat)
 case atStart=>exact ⟨0,_,[],Nat.zero_le _,rfl,K0.out,⟨OwnL.nil _,by simp,fun cs h=>by cases h⟩,fun _=>rfl,KB.out⟩
 case round=>
  obtain ⟨k,v,us,hk,rfl,hbx,hst,hnil,hB⟩:=hrel
  by_cases hlt:k < C.length
  ·have hki:(k:Int) < (C.length:Int):=by omega
   obtain ⟨b,off,rfl,hb,_,cs,_,hcel,hcell⟩:=HC.out k hlt
   have hx:=(hM _ (List.getElem_mem hlt)).1
   have hxl:=(hM _ (List.getElem_mem hlt)).2
   generalize hX:C[k]=x at *
   obtain ⟨ad,cd,a3,c3,a4,c4,a5,c5,rfl,_⟩:=hcel.shapes
   have e0:wr.cell? ⟨b,off + k * 6,none⟩=some (.int .i64 x.1.1):=(hB.cell (p:=⟨b,off + k * 6,none⟩) hb).trans (hcell 0 (by omega))
   have e1:wr.cell? ⟨b,off + k * 6 + 1,none⟩=some (.slice ad x.1.2.length cd):=(hB.cell (p:=⟨b,off + k * 6 + 1,none⟩) hb).trans (hcell 1 (by omega))
   have e2:wr.cell? ⟨b,off + k * 6 + 2,none⟩=some (.int .i64 x.2.n):=(hB.cell (p:=⟨b,off + k * 6 + 2,none⟩) hb).trans (hcell 2 (by omega))
   have e3:wr.cell? ⟨b,off + k * 6 + 3,none⟩=some (.slice a3 x.2.sums.length c3):=(hB.cell (p:=⟨b,off + k * 6 + 3,none⟩) hb).trans (hcell 3 (by omega))
   have e4:wr.cell? ⟨b,off + k * 6 + 4,none⟩=some (.slice a4 x.2.mins.length c4):=(hB.cell (p:=⟨b,off + k * 6 + 4,none⟩) hb).trans (hcell 4 (by omega))
   have e5:wr.cell? ⟨b,off + k * 6 + 5,none⟩=some (.slice a5 x.2.maxs.length c5):=(hB.cell (p:=⟨b,off + k * 6 + 5,none⟩) hb).trans (hcell 5 (by omega))
   have hbw:b < wr.heap.size:=Nat.lt_of_lt_of_le hb hB.size
   obtain ⟨W1,hW1⟩:∃ W1,wr.alloc (.cells #[.int .i64 x.1.1,.slice ad x.1.2.length cd,.int .i64 x.2.n,.slice a3 x.2.sums.length c3,.slice a4 x.2.mins.length c4,.slice a5 x.2.maxs.length c5] 83)=W1:=⟨_,rfl⟩
   obtain ⟨k1,kS1,kB1⟩:=laid1 wr (.cells #[.int .i64 x.1.1,.slice ad x.1.2.length cd,.int .i64 x.2.n,.slice a3 x.2.sums.length c3,.slice a4 x.2.mins.length c4,.slice a5 x.2.maxs.length c5] 83)
   rw [hW1] at k1 kS1 kB1
   obtain ⟨⟨f0,f1,f2,f3,f4,f5⟩,_⟩:=can6 k1
   have HOWN:=Lib.hid (own6_any p _ x W1 (hcel.ag (Ag.new p (Bt hB kB1))) ⟨by omega,by rw [hx.len.1];omega,by rw [hx.len.2.1];omega,by rw [hx.len.2.2];omega⟩)
   have HB:=Lib.hid hB
   have HBX:=Lib.hid hbx
   have HST:=Lib.hid hst
   have HUB:=Lib.hid hst.mutsLt
   have HN:=Lib.hid hnil
   have HB1:=Lib.hid kB1
   have HXX:=Lib.hid hX
   clear hcell hB hbx hst hnil k1 kB1 hcel hX
   go_wp2_with (fail)
   go_at_call 56
   refine HOWN.out.mono ?_
   rintro e w2 ⟨cs2,rfl,hc2,hnd2,hfr2,hB2⟩
   replace hc2:=cel_nest.lt hc2
   obtain ⟨sd,td,s3,t3,s4,t4,s5,t5,rfl,hvc2⟩:=hc2.shapes
   obtain ⟨W2,hW2⟩:∃ W2,w2.alloc (.cells #[.int .i64 x.1.1,.slice sd x.1.2.length td,.int .i64 x.2.n,.slice s3 x.2.sums.length t3,.slice s4 x.2.mins.length t4,.slice s5 x.2.maxs.length t5] 126)=W2:=⟨_,rfl⟩
   obtain ⟨k2,kS2,kB2⟩:=laid1 w2 (.cells #[.int .i64 x.1.1,.slice sd x.1.2.length td,.int .i64 x.2.n,.slice s3 x.2.sums.length t3,.slice s4 x.2.mins.length t4,.slice s5 x.2.maxs.length t5] 126)
   rw [hW2] at k2 kS2 kB2
   have hBr2:Below wr.heap.size wr W2:=Bt (Bt HB1.out hB2) kB2
   have hst2:=HST.out.below hBr2
   have hbx2:=(hBr2.block _ (Array.getElem?_eq_some_iff.1 HBX.out).1).trans HBX.out
   obtain ⟨L,hL⟩:∃ L,L=fold ckLt Pay.add (C.take k):=⟨_,rfl⟩
   rw [← hL] at hst2
   have hasc:Asc ckLt L:=by rw [hL];exact Tess.Kl.fold_asc Tess.ck_sto _
   have HLE:=Lib.hid hL
   obtain ⟨la,lc,rfl,hlc,hlm,hla⟩:=hst2.shape
   have hLk:L.length≤1000:=by rw [HLE.out];exact Nat.le_trans (fold_len _) (by rw [List.length_take];omega)
   have hLl:L.length < 4611686018427387904:=by omega
   have HSE:=Lib.hid (search_any (bl:=w.heap.size) (bc:=w2.heap.size) hst2 hasc hLl hbx2 k2 (hc2.ag (Ag.new _ kB2)))
   have HC2:=Lib.hid (hc2.ag (Ag.new _ kB2))
   have HFR2:=Lib.hid (hfr2.below kB2)
   have HND2:=Lib.hid hnd2
   have HST2:=Lib.hid hst2
   have HVC2:=Lib.hid (hvc2.below kB2)
   have HBX2:=Lib.hid hbx2
   have HK2:=Lib.hid k2
   have HBR2:=Lib.hid hBr2
   have HASC:=Lib.hid hasc
   have HLA:=Lib.hid hla
   have HWD:=Lib.hid (show w2.heap.size < W2.heap.size∧W1.heap.size≤w2.heap.size from ⟨by omega,hB2.size⟩)
   have fl:=(cell_of_box hbx2).1
   have hNl:w.heap.size < W2.heap.size:=(Array.getElem?_eq_some_iff.1 hbx2).1
   clear f0 f1 f2 f3 f4 f5 e0 e1 e2 e3 e4 e5 hL hc2 hnd2 hfr2 hB2 hvc2 k2 kB2 kS2 hBr2 hst2 hbx2 hasc hla hbw hlm hlc
   go_wp2_with (fail)
   go_at_call 59
   refine HSE.out.mono ?_
   rintro e w3 ⟨k',rfl,hk',hkj,hB3⟩
   have hB3':=Bt HBR2.out hB3
   have hst3:=HST2.out.below hB3
   have hk3:=(hB3.block _ HWD.out.1).trans HK2.out
   have HB3:=Lib.hid hB3'
   have HST3:=Lib.hid hst3
   have HBX3:=Lib.hid ((hB3.block _ hNl).trans HBX2.out)
   have HK3:=Lib.hid hk3
   have HC3:=Lib.hid (HC2.out.ag (Ag.new _ hB3))
   have HFR3:=Lib.hid (HFR2.out.below hB3)
   have HVC3:=Lib.hid (HVC2.out.below hB3)
   have HWD3:=Lib.hid (show w2.heap.size < w3.heap.size from Nat.lt_of_lt_of_le HWD.out.1 hB3.size)
   have fl3:=(cell_of_box HBX3.out).1
   obtain ⟨⟨g0,g1,g2,g3,g4,g5⟩,_⟩:=can6 hk3
   have hN3:w.heap.size < w3.heap.size:=Nat.lt_of_lt_of_le hNl hB3.size
   have hc3:w2.heap.size < w3.heap.size:=HWD3.out
   have hkL64:(L.length:Int) + 1≤9223372036854775807:=by omega
   clear fl hNl hB3 hB3' hst3 hk3 HBR2 HST2 HBX2 HK2 HC2 HFR2 HVC2
   have HKJ:=Lib.hid hkj
   clear hkj
   by_cases hkL:k' < L.length
   ·have hkLi:(k':Int) < (L.length:Int):=by omega
    obtain ⟨g,cap',cs',hvv,hNg,hgl,hcap',⟨cur,hcur⟩,⟨hju,hus⟩,hcel',hcc⟩:=HST3.out.row hkL
    simp only [Value.slice.injEq] at hvv
    obtain ⟨rfl,_,rfl⟩:=hvv
    obtain ⟨ad',cd',a3',c3',a4',c4',a5',c5',rfl,hvc'⟩:=hcel'.shapes
    have hAH:∀ W,Below w3.heap.size w3 W→Calls Tryz.prog 61 #[.agg #[.int .i64 x.1.1,.slice sd x.1.2.length td,.int .i64 x.2.n,.slice s3 x.2.sums.length t3,.slice s4 x.2.mins.length t4,.slice s5 x.2.maxs.length t5],.agg #[.int .i64 L[k'].1.1,.slice ad' L[k'].1.2.length cd',.int .i64 L[k'].2.n,.slice a3' L[k'].2.sums.length c3',.slice a4' L[k'].2.mins.length c4',.slice a5' L[k'].2.maxs.length c5']] W
      fun e w'=>e = .returned (.bool (ckLt x.1 L[k'].1))∧Below W.heap.size W w':=fun W hW=>by
     have:=ahead_any sd ad' td cd' (x.1.2.map Tess.valOf) (L[k'].1.2.map Tess.valOf) x.1.1 L[k'].1.1 x.2.n L[k'].2.n s3 s4 s5 a3' a4' a5' x.2.sums.length x.2.mins.length x.2.maxs.length t3 t4 t5 L[k'].2.sums.length L[k'].2.mins.length L[k'].2.maxs.length c3' c4' c5' W (by obtain ⟨_,_,_,_,_,h,_⟩:=hcel';obtain ⟨_,_,_,h,_⟩:=h;unfold maxLen at h;omega) (HVC3.out.below hW) (hvc'.below hW)
     rw [vals_c,vals_c,List.length_map,List.length_map] at this
     refine this.mono ?_
     rintro e w' ⟨rfl,q',os,rfl⟩
     exact ⟨rfl,below_grown_sl W.heap.size W q' os (Nat.le_refl _)⟩
    have HAH:=Lib.hid hAH
    have h0:w3.cell? ⟨g,k' * 6,none⟩=some (.int .i64 L[k'].1.1):=hcc 0 (by omega)
    have h1:w3.cell? ⟨g,k' * 6 + 1,none⟩=some (.slice ad' L[k'].1.2.length cd'):=hcc 1 (by omega)
    have h2:w3.cell? ⟨g,k' * 6 + 2,none⟩=some (.int .i64 L[k'].2.n):=hcc 2 (by omega)
    have h3:w3.cell? ⟨g,k' * 6 + 3,none⟩=some (.slice a3' L[k'].2.sums.length c3'):=hcc 3 (by omega)
    have h4:w3.cell? ⟨g,k' * 6 + 4,none⟩=some (.slice a4' L[k'].2.mins.length c4'):=hcc 4 (by omega)
    have h5:w3.cell? ⟨g,k' * 6 + 5,none⟩=some (.slice a5' L[k'].2.maxs.length c5'):=hcc 5 (by omega)
    have HCL:=Lib.hid hcel'
    have HUS:=Lib.hid hus
    have HCUR:=Lib.hid hcur
    clear hAH hcc hcel' hvc' hus hcur
    generalize hr:ckLt x.1 L[k'].1=r at *
    have HR:=Lib.hid hr
    clear hr
    generalize hY:L[k']=y at *
    have HYE:=Lib.hid hY
    clear hY
    go_wp2_with (fail)
    refine Flow.wp_region_flow (Flow.specs [.inl ?_,.inl ?_,.inl ?_,.inl ?_,.inl ?_,.inl ?_,.inl ?_,.inl ?_,.inl ?_,.inl ?_,.inr (isV (.bool r)),.inl (.bool (!r)),.inl (.bool (!r))]) (by kernel_rfl) (by kernel_rfl) ?_ ?_
    rotate_left 10
    ·refine Flow.specs_mono ?_
     repeat (first | exact Flow.lmono_nil | refine Flow.lmono_inl ?_ | refine Flow.lmono_inr (isV_mono _) ?_)
    iterate 10 (refine Flow.tree_valK rfl (fun K hK=>⟨fun w hw hG => ?_,?_⟩);(have hcl:=Flow.bcell hw;clear hG hw;unfold Flow.Runs Flow.yields;go_simp;try rfl);go_simp;refine hK _ ?_;clear hK K)
    (refine Flow.tree_varK rfl (fun K hK=>⟨fun w hw hG => ?_,?_⟩);(have HW:=Lib.hid hw;clear hG hw;unfold Flow.Runs Flow.yields;go_simp;refine (HAH.out _ HW.out).mono ?_;rintro e w4 ⟨rfl,hb4⟩;exact ⟨_,rfl,hb4,rfl⟩);intro vz;go_simp;refine hK _ _ ?_;clear hK K)
    (refine Flow.tree_valK rfl (fun K hK=>⟨fun w hw hG => ?_,?_⟩);(obtain rfl:=(show vz = .bool r by simpa [Flow.upd,isV] using hG 10 (by kernel_rfl));clear hG hw;unfold Flow.Runs Flow.yields;go_simp;try rfl);go_simp;refine hK _ ?_;clear hK K)
    iterate 1 (refine Flow.tree_valK rfl (fun K hK=>⟨fun w hw hG => ?_,?_⟩);(have hcl:=Flow.bcell hw;clear hG hw;unfold Flow.Runs Flow.yields;go_simp;try rfl);go_simp;refine hK _ ?_;clear hK K)
    refine Flow.tree_nil fun w4 hw4 hG => ?_
    clear hG
    have HB4:=Lib.hid (Bt HB3.out hw4)
    have HST4:=Lib.hid (HST3.out.below hw4)
    have HBX4:=Lib.hid ((hw4.block _ hN3).trans HBX3.out)
    have HK4:=Lib.hid ((hw4.block _ hc3).trans HK3.out)
    have HC4:=Lib.hid (HC3.out.ag (Ag.new _ hw4))
    have HFR4:=Lib.hid (HFR3.out.below hw4)
    have HCL4:=Lib.hid (HCL.out.ag (Ag.new _ hw4))
    have HCUR4:=Lib.hid ((hw4.block _ hgl).trans HCUR.out)
    have fl4:=(cell_of_box HBX4.out).1
    have h04:w4.cell? ⟨g,k' * 6,none⟩=some (.int .i64 y.1.1):=(hw4.cell (p:=⟨g,k' * 6,none⟩) hgl).trans h0
    have h14:w4.cell? ⟨g,k' * 6 + 1,none⟩=some (.slice ad' y.1.2.length cd'):=(hw4.cell (p:=⟨g,k' * 6 + 1,none⟩) hgl).trans h1
    have h24:w4.cell? ⟨g,k' * 6 + 2,none⟩=some (.int .i64 y.2.n):=(hw4.cell (p:=⟨g,k' * 6 + 2,none⟩) hgl).trans h2
    have h34:w4.cell? ⟨g,k' * 6 + 3,none⟩=some (.slice a3' y.2.sums.length c3'):=(hw4.cell (p:=⟨g,k' * 6 + 3,none⟩) hgl).trans h3
    have h44:w4.cell? ⟨g,k' * 6 + 4,none⟩=some (.slice a4' y.2.mins.length c4'):=(hw4.cell (p:=⟨g,k' * 6 + 4,none⟩) hgl).trans h4
    have h54:w4.cell? ⟨g,k' * 6 + 5,none⟩=some (.slice a5' y.2.maxs.length c5'):=(hw4.cell (p:=⟨g,k' * 6 + 5,none⟩) hgl).trans h5
    have hgl4:g < w4.heap.size:=Nat.lt_of_lt_of_le hgl hw4.size
    have hN4:w.heap.size < w4.heap.size:=Nat.lt_of_lt_of_le hN3 hw4.size
    have hc4:w2.heap.size < w4.heap.size:=Nat.lt_of_lt_of_le hc3 hw4.size
    clear hw4 HB3 HST3 HBX3 HK3 HC3 HFR3 HCL HCUR HAH fl3 h0 h1 h2 h3 h4 h5 hgl hN3 hc3 g0 g1 g2 g3 g4 g5 HVC3
    cases r
    ·obtain ⟨W5,hW5⟩:∃ W5,w4.alloc (.cells #[.int .i64 y.1.1,.slice ad' y.1.2.length cd',.int .i64 y.2.n,.slice a3' y.2.sums.length c3',.slice a4' y.2.mins.length c4',.slice a5' y.2.maxs.length c5'] 126)=W5:=⟨_,rfl⟩
     obtain ⟨k5,kS5,kB5⟩:=laid1 w4 (.cells #[.int .i64 y.1.1,.slice ad' y.1.2.length cd',.int .i64 y.2.n,.slice a3' y.2.sums.length c3',.slice a4' y.2.mins.length c4',.slice a5' y.2.maxs.length c5'] 126)
     rw [hW5] at k5 kS5 kB5
     have hk5:=(kB5.block _ hc4).trans HK4.out
     obtain ⟨⟨g0,g1,g2,g3,g4,g5⟩,_⟩:=can6 hk5
     have hc5:w2.heap.size < W5.heap.size:=by omega
     have HB5:=Lib.hid (Bt HB4.out kB5)
     have HST5:=Lib.hid (HST4.out.below kB5)
     have HBX5:=Lib.hid ((kB5.block _ hN4).trans HBX4.out)
     have HC5:=Lib.hid (HC4.out.ag (Ag.new _ kB5))
     have HCL5:=Lib.hid (HCL4.out.ag (Ag.new _ kB5))
     have HK5:=Lib.hid k5
     have HS5:=Lib.hid (show w4.heap.size < W5.heap.size∧w2.heap.size < w4.heap.size from ⟨by omega,hc4⟩)
     clear k5 kS5 kB5 HB4 HST4 HBX4 HK4 HC4 HFR4 HCL4 HCUR4 hk5
     go_simp
     go_wp2_with (fail)
     have hp:=Tess.fold_pay (C:=C.take k) (M:=M) (fun z hz=>(hM z (List.mem_of_mem_take hz)).1) y (by rw [← HLE.out,← HYE.out];exact List.getElem_mem hkL)
     have hyx:y.2.n + x.2.n≤1000000:=by
      have:=Tess.take_sum (fun z hz=>(hM z hz).1) hlt
      rw [HXX.out] at this
      omega
     have hnd:=nodup_three (by have:=(nodup_parts HST5.out.nod).1 _ (List.getElem_mem hju);rw [HUS.out] at this;exact this)
     have hub:∀ b,b ∈ muts [.int .i64 y.1.1,.slice ad' y.1.2.length cd',.int .i64 y.2.n,.slice a3' y.2.sums.length c3',.slice a4' y.2.mins.length c4',.slice a5' y.2.maxs.length c5']→b < wr.heap.size:=fun b hb=>(HUB.out k' hju b (by rw [HUS.out];exact hb)).2
     have hW1w:wr.heap.size≤W1.heap.size:=HB1.out.size
     have hw2:=HWD.out.2
     have hS5:=HS5.out
     have hfree:=HST5.out.free _ (List.getElem_mem hju)
     rw [HUS.out] at hfree
     obtain ⟨vdx,vsx,vmx,vxx,ecx,_,hpx⟩:=HC5.out
     simp only [List.cons.injEq,and_true] at ecx
     obtain ⟨_,rfl,_,rfl,rfl,rfl⟩:=ecx
     obtain ⟨vdy,vsy,vmy,vxy,ecy,_,hpy⟩:=HCL5.out
     simp only [List.cons.injEq,and_true] at ecy
     obtain ⟨_,rfl,_,rfl,rfl,rfl⟩:=ecy
     obtain ⟨S,hS⟩:∃ S:Nat→Prop,S=fun b=>b=w4.heap.size∨b ∈ muts [.slice a3' y.2.sums.length c3',.slice a4' y.2.mins.length c4',.slice a5' y.2.maxs.length c5']:=⟨_,rfl⟩
     have hmm:∀ b,b ∈ muts [.slice a3' y.2.sums.length c3',.slice a4' y.2.mins.length c4',.slice a5' y.2.maxs.length c5']→b < wr.heap.size:=fun b hb=>hub b (by
      obtain ⟨v,hv,e⟩:=List.mem_filterMap.1 hb
      exact List.mem_filterMap.2 ⟨v,by simp only [List.mem_cons,List.not_mem_nil,or_false] at hv ⊢;rcases hv with rfl | rfl | rfl <;> simp,e⟩)
     have hnS:∀ b,W1.heap.size≤b∧b < w2.heap.size→¬ S b:=fun b hb e=>by
      rw [hS] at e
      rcases e with e | e
      ·omega
      ·have:=hmm b e;omega
     have hadds:Adds w4.heap.size M S y.1.1 y.2.n (.slice ad' y.1.2.length cd') (.slice a3' y.2.sums.length c3') (.slice a4' y.2.mins.length c4') (.slice a5' y.2.maxs.length c5') (.slice s3 x.2.sums.length t3) (.slice s4 x.2.mins.length t4) (.slice s5 x.2.maxs.length t5) y.2.sums y.2.mins y.2.maxs x.2.sums x.2.mins x.2.maxs W5:=
      ⟨HK5.out,hpy.sums.weak fun _ _=>trivial,hpy.mins.weak fun _ _=>trivial,hpy.maxs.weak fun _ _=>trivial,hfree _ (by simp),hfree _ (by simp),hfree _ (by simp),hpx.sums.weak hnS,hpx.mins.weak hnS,hpx.maxs.weak hnS⟩
     have hwr:Wr w4.heap.size (.slice a3' y.2.sums.length c3') (.slice a4' y.2.mins.length c4') (.slice a5' y.2.maxs.length c5') S:=by
      have hsz:wr.heap.size≤w4.heap.size:=by omega
      refine ⟨by rw [hS];exact .inl rfl,fun b hb => ?_,fun b hb => ?_,fun b hb => ?_,hnd.1,hnd.2.1,hnd.2.2⟩
      all_goals
       have hb':b ∈ muts [.slice a3' y.2.sums.length c3',.slice a4' y.2.mins.length c4',.slice a5' y.2.maxs.length c5']:=mem_muts (by simp) hb
       exact ⟨by rw [hS];exact .inr hb',by have:=hmm b hb';omega⟩
     have hsl:=hp.1.len
     have hxl':=hx.len
     have hpo:=hp.1.one
     have hxo:=hx.one
     have HAD:=Lib.hid (add_any w4.heap.size M S y.1.1 y.2.n x.1.1 x.2.n _ _ _ _ _ _ _ y.2.sums y.2.mins y.2.maxs x.2.sums x.2.mins x.2.maxs ad' sd y.1.2.length cd' x.1.2.length td W5 hadds hwr rfl hsl.1 hsl.2.1 hsl.2.2 hxl'.1 hxl'.2.1 hxl'.2.2 ⟨by omega,by omega⟩ (Tess.pay_sum hp.1 hx hyx))
     have HSS:=Lib.hid hS
     clear hadds hwr hsl hxl' hpo hxo hS hnS hmm hpx hpy hfree hS5 hw2 hW1w hub hnd hyx hp
     refine HAD.out.mono ?_
     rintro e w6 ⟨rfl,hA6,hT6⟩
     obtain ⟨g2,cap2,cs6,hvv2,hNg2,hgl5,_,⟨cur5,hcur5⟩,⟨_,hus5⟩,hcel5,hcc5⟩:=HST5.out.row hkL
     simp only [Value.slice.injEq,Option.some.injEq,Addr.mk.injEq] at hvv2
     obtain ⟨⟨rfl,_⟩,_,rfl⟩:=hvv2
     rw [HUS.out] at hus5
     subst hus5
     have hmN:∀ b ∈ muts [.int .i64 y.1.1,.slice ad' y.1.2.length cd',.int .i64 y.2.n,.slice a3' y.2.sums.length c3',.slice a4' y.2.mins.length c4',.slice a5' y.2.maxs.length c5'],w.heap.size + 1≤b∧b≠g:=fun b hb=>hcel5.inMuts b hb
     have hSN:∀ b,S b→w.heap.size + 1≤b∧b≠g:=fun b hb=>by
      rw [HSS.out] at hb
      rcases hb with rfl | hb
      ·exact ⟨by omega,by omega⟩
      ·refine hmN b ?_
       obtain ⟨v,hv,e⟩:=List.mem_filterMap.1 hb
       exact List.mem_filterMap.2 ⟨v,by simp only [List.mem_cons,List.not_mem_nil,or_false] at hv ⊢;rcases hv with rfl | rfl | rfl <;> simp,e⟩
     have hg6:=(hT6.block g hgl5 fun e=>(hSN g e).2 rfl).trans hcur5
     have hbx6:=(hT6.block w.heap.size (Array.getElem?_eq_some_iff.1 HBX5.out).1 fun e=>by have:=(hSN _ e).1;omega).trans HBX5.out
     have fl6:=(cell_of_box hbx6).1
     obtain ⟨⟨m0,m1,m2,m3,m4,m5⟩,_⟩:=can6 hA6.box
     have z:∀ i,i < 6→w6.cell? ⟨g,k' * 6 + i,none⟩=_:=fun i hi=>(World.cell?_of_block (a:=⟨g,k' * 6 + i,none⟩) (hT6.block g hgl5 fun e=>(hSN g e).2 rfl)).trans (hcc5 i hi)
     have z0:w6.cell? ⟨g,k' * 6,none⟩=some (.int .i64 y.1.1):=z 0 (by omega)
     have z1:w6.cell? ⟨g,k' * 6 + 1,none⟩=some (.slice ad' y.1.2.length cd'):=z 1 (by omega)
     have z2:w6.cell? ⟨g,k' * 6 + 2,none⟩=some (.int .i64 y.2.n):=z 2 (by omega)
     have z3:w6.cell? ⟨g,k' * 6 + 3,none⟩=some (.slice a3' y.2.sums.length c3'):=z 3 (by omega)
     have z4:w6.cell? ⟨g,k' * 6 + 4,none⟩=some (.slice a4' y.2.mins.length c4'):=z 4 (by omega)
     have z5:w6.cell? ⟨g,k' * 6 + 5,none⟩=some (.slice a5' y.2.maxs.length c5'):=z 5 (by omega)
     have q0:=frozen_of_row w6 g (k' * 6) _ _ hg6
     have q1:=frozen_of_row w6 g (k' * 6 + 1) _ _ hg6
     have q2:=frozen_of_row w6 g (k' * 6 + 2) _ _ hg6
     have q3:=frozen_of_row w6 g (k' * 6 + 3) _ _ hg6
     have q4:=frozen_of_row w6 g (k' * 6 + 4) _ _ hg6
     have q5:=frozen_of_row w6 g (k' * 6 + 5) _ _ hg6
     have hgl6:g < w6.heap.size:=Nat.lt_of_lt_of_le hgl5 hT6.size
     have hB6l:w4.heap.size < w6.heap.size:=(Array.getElem?_eq_some_iff.1 hA6.box).1
     have hN6:w.heap.size < w6.heap.size:=(Array.getElem?_eq_some_iff.1 hbx6).1
     have HA6:=Lib.hid hA6
     have HT6:=Lib.hid hT6
     have HBX6:=Lib.hid hbx6
     have HSN:=Lib.hid hSN
     clear hA6 hT6 hbx6 hSN hmN hg6 z hcc5 hcel5 hcur5 g0 g1 g2 g3 g4 g5 fl4 h04 h14 h24 h34 h44 h54
     go_simp
     go_wp2_with (fail)
     have hul:us.length=L.length:=HST5.out.own.len
     have h5:PutSt (w.heap.size + 1) W5 (.slice (some ⟨g,0,none⟩) us.length lc) us L:=by rw [hul];exact HST5.out
     have h7:=h5.replace (y:=y.2.add x.2) (n':=y.2.n + x.2.n) hkL HT6.out hju HUS.out (by rw [HYE.out]) (fun b hb=>by rw [HSS.out] at hb;exact hb)
      (.inr ⟨fun j hj hb=>by have:=(HUB.out j hj _ hb).2;have:=HWD.out.2;have:=HB1.out.size;have:=HS5.out.2;omega,by omega⟩)
      HA6.out.ls HA6.out.lm HA6.out.lx HA6.out.fs HA6.out.fm HA6.out.fx rfl
     rw [hul] at h7
     have hins:L.set k' (L[k'].1,y.2.add x.2)=fold ckLt Pay.add (C.take (k + 1)):=by
      rw [Tess.fold_take hlt,HXX.out,← HLE.out]
      have e1:ckLt L[k'].1 x.1=false:=by
       cases hh:ckLt L[k'].1 x.1
       ·rfl
       ·have:=(HKJ.out k' hkL).1 hh;omega
      have e2:ckLt x.1 L[k'].1=false:=by rw [HYE.out];exact HR.out
      rw [Tess.Kl.ins_at hkL (fun j hj hjk=>(HKJ.out j hj).2 hjk) e1 e2,HYE.out]
     rw [hins] at h7
     have hbN:∀ i (u:Value) (V:World),Below w.heap.size w V→Below w.heap.size w (V.setCell ⟨g,i,none⟩ u):=fun i u V hV=>hV.setCell (by show w.heap.size≤g;omega) _
     have hb6:Below w.heap.size w w6:=(Bt HB.out HB5.out).trans (HT6.out.below (Bt HB.out HB5.out).size fun b hb=>by have:=(HSN.out b hb).1;omega)
     have HFIN:=Lib.hid h7
     have HB6:=Lib.hid hb6
     have HBN:=Lib.hid hbN
     clear h7 hb6 hbN h5 hins
     have hbx7:=(sets6_other (k:=k') (.int .i64 y.1.1) (.slice ad' y.1.2.length cd') (.int .i64 (y.2.n + x.2.n)) (.slice a3' y.2.sums.length c3') (.slice a4' y.2.mins.length c4') (.slice a5' y.2.maxs.length c5') (show w.heap.size≠g by omega)).trans HBX6.out
     have HBX7:=Lib.hid hbx7
     go_roundw
     case rel=>exact ⟨k + 1,_,_,by omega,by go_num,HBX7.out,HFIN.out,fun h=>by omega,HBN.out _ _ _ (HBN.out _ _ _ (HBN.out _ _ _ (HBN.out _ _ _ (HBN.out _ _ _ (HBN.out _ _ _ HB6.out)))))⟩
     case measure=>simp [intOf];omega
    ·obtain ⟨i0,hi,hz0,hz1,hz2⟩:=info_parts infoCell
     obtain ⟨wm,curm,hrm,hgm,hsm,hbm⟩:=run_make_some (P:=Tryz.prog) w4 41 83 i0 _ 6 Tryz.underlying41 hi hz0 hz1 .i64 .i64 k' (L.length + 1) (by omega) (by rw [hz2];omega) (by unfold maxLen;omega)
     simp only [Int.natCast_add,Int.natCast_one] at hrm
     have fm:=(cell_of_box ((hbm.block _ hN4).trans HBX4.out)).1
     have hNm:w.heap.size < wm.heap.size:=Nat.lt_of_lt_of_le hN4 hbm.size
     have hul:us.length=L.length:=HST4.out.own.len
     have hlens:=HST4.out.own.lens cel_nest
     have hones:=HST4.out.own.ones cel_nest
     have hft:=flat_take (k:=k') hlens (by omega)
     have hfl:=flat_len us hlens
     have hown4:w4.ownsRow (w.heap.size + 1) 83 6 (.slice (some ⟨g,0,none⟩) us.length lc) us.length us.flatten:=by have:=HST4.out.own.own;rwa [← hul] at this
     have hownm:=owns_below hown4 hbm
     obtain ⟨cs0,hcs0⟩:∃ cs0,cs0=us.flatten.take (k' * 6):=⟨_,rfl⟩
     have hcl0:cs0.length=k' * 6:=by rw [hcs0,List.length_take,hfl];omega
     have hrc:=run_copy_rowK (P:=Tryz.prog) wm 41 41 3 83 w4.heap.size 0 k' (L.length + 1) 6 ⟨g,0,none⟩ k' k' curm 83 cs0 Tryz.underlying41 (by rw [hi];simp [hz1]) hgm (by rw [hcl0,show Nat.min k' k'=k' from Nat.min_self k']) (fun j v hv=>by
      have hj:j < k' * 6:=by rw [← hcl0];exact (List.getElem?_eq_some_iff.1 hv).1
      rw [Addr.add_lit,Nat.zero_add,hownm.cellAt j (by omega),← hv,hcs0,List.getElem?_take,if_pos hj]) (by omega) (fun v hv=>hones v (List.mem_of_mem_take (by rw [← hcs0];exact hv)))
     rw [show Nat.min k' k'=k' from Nat.min_self k'] at hrc
     obtain ⟨wc,hwc⟩:∃ wc,wm.setRow w4.heap.size (curm.toList.take 0 ++ cs0 ++ curm.toList.drop (0 + cs0.length)).toArray=wc:=⟨_,rfl⟩
     obtain ⟨cur1,hcur1⟩:∃ cur1,cur1=over curm 0 cs0:=⟨_,rfl⟩
     have hgc:wc.heap[w4.heap.size]? = some (.cells cur1 83 (0,0)):=by rw [← hwc,hcur1];exact setRow_heap wm _ curm _ _ _ hgm
     have hc1s:cur1.size=(L.length + 1) * 6:=by rw [hcur1,over_size (by omega),hsm]
     have hc1t:cur1.toList.take (k' * 6)=(us.take k').flatten:=by
      have:=over_take (cur:=curm) (n:=0) (cs:=cs0) (by omega)
      rw [Nat.zero_add,hcl0,← hcur1] at this
      rw [this,hcs0,hft.1];simp
     have hbc:Below w4.heap.size w4 wc:=hbm.trans (by rw [← hwc];exact ⟨rfl,rfl,rfl,by rw [setRow_size];exact Nat.le_refl _,fun j hj=>setRow_other wm _ j _ (by omega)⟩)
     rw [hwc] at hrc
     have HUL:=Lib.hid hul
     have HLN:=Lib.hid hlens
     have HON:=Lib.hid hones
     have HFT:=Lib.hid hft
     have HFL:=Lib.hid hfl
     have HGC:=Lib.hid hgc
     have HC1S:=Lib.hid hc1s
     have HC1T:=Lib.hid hc1t
     have HBC:=Lib.hid hbc
     have hNc:w.heap.size < wc.heap.size:=Nat.lt_of_lt_of_le hN4 hbc.size
     clear hwc hgm hsm hbm hcur1 hul hlens hones hft hfl hgc hc1s hc1t hown4 hownm hcl0 hcs0
     have fc:=(cell_of_box ((hbc.block _ hN4).trans HBX4.out)).1
     clear hbc
     have HRC:=Lib.hid hrc
     clear hrc
     go_simp
     go_wp2_with (fail)
     rw [HRC.out]
     clear hrm fm hNm
     go_simp
     go_wp2_with (fail)
     obtain ⟨CS,hCS⟩:∃ CS:List Value,CS=[.int .i64 x.1.1,.slice sd x.1.2.length td,.int .i64 x.2.n,.slice s3 x.2.sums.length t3,.slice s4 x.2.mins.length t4,.slice s5 x.2.maxs.length t5]:=⟨_,rfl⟩
     have HCS:=Lib.hid hCS
     clear hCS
     have HKC:=Lib.hid ((HBC.out.block _ hc4).trans HK4.out)
     have hc5:w2.heap.size < wc.heap.size:=Nat.lt_of_lt_of_le hc4 HBC.out.size
     have HBXC:=Lib.hid ((HBC.out.block _ hN4).trans HBX4.out)
     have HSZ:=Lib.hid (show w.heap.size < w4.heap.size∧w2.heap.size < w4.heap.size∧w4.heap.size < wc.heap.size from ⟨hN4,hc4,(Array.getElem?_eq_some_iff.1 HGC.out).1⟩)
     have HKW:=Lib.hid (fun V (hw:(one w4.heap.size (.cells cur1 83 (0,0)) (.cells (over cur1 (k' * 6) CS) 83 (0,0))).r wc V)=>(can6 ((one_block hw hc5 (by have:=HSZ.out;omega)).trans HKC.out)).1)
     have HLW:=Lib.hid (fun V (hw:(one w4.heap.size (.cells cur1 83 (0,0)) (.cells (over cur1 (k' * 6) CS) 83 (0,0))).r wc V)=>(cell_of_box ((one_block hw hNc (by have:=HSZ.out;omega)).trans HBXC.out)).1)
     have hk'l:k'≤L.length:=hk'
     clear hc5
     refine FlowR.wp_region_flow_tail (R:=one w4.heap.size (.cells cur1 83 (0,0)) (.cells (over cur1 (k' * 6) CS) 83 (0,0))) 8 (FlowR.specs 44 (fun _ => .inl undef) (.inl ?_ :: .inl ?_ :: .inl ?_ :: .inr (newRow w4.heap.size CS) :: .inr (turnedTo w4.heap.size (.cells (over cur1 (k' * 6) CS) 83 (0,0)) (.slice (some ⟨w4.heap.size,0,none⟩) (k' + 1) (L.length + 1))) :: .inl ?_ :: .inl ?_ :: .inl ?_ :: [])) (fun _=>0) (FlowR.specs_ok (by kernel_rfl)) (by kernel_rfl) (by kernel_rfl) ?_ ?_
     rotate_left 6
     ·refine FlowR.specs_mono (fun x=>FlowR.mono_inl _) ?_
      repeat (first | exact FlowR.lmono_nil | refine FlowR.lmono_inl ?_ | refine FlowR.lmono_inr (newRow_mono _) ?_ | refine FlowR.lmono_inr (turnedTo_mono _) ?_)
     all_goals try simp only [List.take_succ_cons,List.take_zero,List.drop_succ_cons,List.drop_zero]
     iterate 3 (refine FlowR.tree_valK rfl (fun K hK=>⟨fun V hw hG => ?_,?_⟩);(obtain ⟨t1,t2,t3,t4,t5,t6⟩:=HKW.out V hw;clear hG hw;unfold FlowR.Runs FlowR.yields;go_simp;try rfl);go_simp;refine hK _ ?_;clear hK K)
     (refine FlowR.tree_varK rfl (fun K hK=>⟨fun V hw hG => ?_,?_⟩);(have hVl:w4.heap.size < V.heap.size:=(Nat.lt_of_lt_of_le HSZ.out.2.2 hw.2.2.2.1);clear hG hw;unfold FlowR.Runs FlowR.yields;go_simp;exact ⟨one_alloc hVl _,(⟨V.heap.size,rfl,by simp,by omega,fun j u hu=>by rw [cell_of_row _ _ _ _ _ _ (heap_alloc_new _ _)];rw [HCS.out] at hu;simpa using hu⟩:newRow w4.heap.size CS (.slice (some ⟨V.heap.size,0,none⟩) 1 1) (V.alloc _))⟩);intro vr;go_simp;refine hK _ _ ?_;clear hK K)
     (refine FlowR.tree_varK rfl (fun K hK=>⟨fun V hw hG => ?_,?_⟩);(have hnr:=(show newRow w4.heap.size CS vr V by simpa [FlowR.upd] using hG 3 (by kernel_rfl));obtain ⟨V2,hrun,hR2,hT2⟩:=one_append (P:=Tryz.prog) (ty:=41) (t:=41) (n:=k') (cap:=L.length + 1) Tryz.underlying41 hi hz1 hw HGC.out (by rw [HCS.out];rfl) (by rw [HCS.out];intro u hu;simp only [List.mem_cons,List.not_mem_nil,or_false] at hu;rcases hu with rfl | rfl | rfl | rfl | rfl | rfl <;> rfl) HC1S.out (by omega) hnr;clear hG hw hnr;exact runs_append (t:=41) (.tmp 62) (.tmp 65) rfl rfl rfl rfl hrun hR2 hT2);intro vt;go_simp;refine hK _ _ ?_;clear hK K)
     iterate 3 (refine FlowR.tree_valK rfl (fun K hK=>⟨fun V hw hG => ?_,?_⟩);(have hcl:=HLW.out V hw;clear hG hw;unfold FlowR.Runs FlowR.yields;go_simp;try rfl);go_simp;refine hK _ ?_;clear hK K)
     refine FlowR.tree_nil fun w8 hw8 hG => ?_
     obtain ⟨rfl,hB8⟩:=(show turnedTo w4.heap.size (.cells (over cur1 (k' * 6) CS) 83 (0,0)) (.slice (some ⟨w4.heap.size,0,none⟩) (k' + 1) (L.length + 1)) vt w8 by simpa [FlowR.upd] using hG 4)
     clear hG
     have hb8:Below w4.heap.size w4 w8:=HBC.out.trans (one_below hw8 (Nat.le_refl _) (by have:=HSZ.out;omega))
     have hcsl:CS.length=6:=by rw [HCS.out];rfl
     have hown8:=over_owns (N:=w.heap.size + 1) (n:=k') (cap:=L.length + 1) (by omega) hB8 hcsl HC1S.out (by omega) (by unfold maxLen;omega) HC1T.out
     have hst8:=HST4.out.below hb8
     have hsrc8:∀ j u,(us.drop k').flatten[j]? = some u→w8.cell? ((⟨g,k' * 6,none⟩:Addr).add j)=some u:=fun j u hu=>by
      have ho:=hst8.own.own
      rw [← HUL.out] at ho
      rw [← HFT.out.2,List.getElem?_drop] at hu
      have hlt':k' * 6 + j < us.flatten.length:=(List.getElem?_eq_some_iff.1 hu).1
      rw [Addr.add_lit,ho.cellAt (k' * 6 + j) (by rw [HFL.out] at hlt';exact hlt')]
      exact hu
     have hdl:(us.drop k').flatten.length=(L.length - k') * 6:=by rw [flat_len _ fun u hu=>HLN.out u (List.mem_of_mem_drop hu),List.length_drop,HUL.out]
     have hdo:∀ u ∈ (us.drop k').flatten,u.oneCell'=true:=fun u hu=>HON.out u (by rw [← HFT.out.2] at hu;exact List.mem_of_mem_drop hu)
     have e9:k' + 1 + (L.length - k')=L.length + 1:=by omega
     refine wpList_append_own_spare _ rfl _ _ 41 rfl (w.heap.size + 1) 83 i0 6 Tryz.underlying41 hi hz1 w4.heap.size (k' + 1) (L.length + 1) _ rfl hown8 ⟨g,k' * 6,none⟩ (L.length - k') (lc - k') (us.drop k').flatten (by simp only [Act.eval];go_simp;intro e;omega) hdl hsrc8 hdo (by omega) ?_
     intro w9 hown9 hgrow9
     rw [e9] at hown9 ⊢
     have hb9:Below w4.heap.size w4 w9:=hb8.trans ⟨hgrow9.1,hgrow9.2,hgrow9.3,hgrow9.4,fun j hj=>hgrow9.5 j (by have:=hb8.size;omega) (by intro e;cases e;omega)⟩
     have hw0:w.heap.size < wr.heap.size:=(Array.getElem?_eq_some_iff.1 HBX.out).1
     have hw1:=HWD.out.2
     have hw2:=HB1.out.size
     have hst0:=HST.out
     rw [← HLE.out] at hst0
     have hcx:CelAt (fun b=>w.heap.size + 1≤b∧wr.heap.size≤b∧(Value.slice (some ⟨w4.heap.size,0,none⟩) (L.length + 1) (L.length + 1)).ownBlock≠some b) w9 CS x:=by
      rw [HCS.out]
      exact (HC4.out.ag (Ag.new _ hb9)).weak fun b hb=>⟨by have:=hb.1;omega,by have:=hb.1;omega,fun e=>by have h1:w4.heap.size=b:=Option.some.inj e;have h2:=hb.2;omega⟩
     have hins9:=PutSt.insert (k:=k') hst0 (Bt HB4.out hb9) hk'l (v':=.slice (some ⟨w4.heap.size,0,none⟩) (L.length + 1) (L.length + 1)) (fun b e=>by have:=Option.some.inj e;change w4.heap.size=b at this;omega) hown9 hcx (by rw [HCS.out];exact HND2.out) (by rw [HCS.out];exact HFR4.out.below hb9)
     have hfin9:=hins9.setBox (g:=w.heap.size) (i:=0) (by omega) (.slice (some ⟨w4.heap.size,0,none⟩) (L.length + 1) (L.length + 1))
     have hfold:L.take k' ++ x :: L.drop k'=fold ckLt Pay.add (C.take (k + 1)):=by
      rw [Tess.fold_take hlt,HXX.out,← HLE.out]
      exact (Tess.Kl.ins_here hk'l (fun j hj hjk=>(HKJ.out j hj).2 hjk) (fun h=>⟨by
       cases hh:ckLt L[k'].1 x.1
       ·rfl
       ·have:=(HKJ.out k' h).1 hh;omega,by rw [HYE.out];exact HR.out⟩)).symm
     rw [hfold] at hfin9
     have hbx9:=(hb9.block _ hN4).trans HBX4.out
     have hbf:=heap_setCell_same w9 w.heap.size 0 _ _ (.slice (some ⟨w4.heap.size,0,none⟩) (L.length + 1) (L.length + 1)) hbx9
     have HFIN:=Lib.hid hfin9
     have HBF:=Lib.hid hbf
     have HBB:=Lib.hid (show Below w.heap.size w (w9.setCell ⟨w.heap.size,0,none⟩ (.slice (some ⟨w4.heap.size,0,none⟩) (L.length + 1) (L.length + 1))) from (Bt HB.out (Bt HB4.out hb9)).setCell (Nat.le_refl _) _)
     have fl9:=(cell_of_box hbx9).1
     have fz9:=(cell_of_box hbx9).2
     have hN9:w.heap.size < w9.heap.size:=(Array.getElem?_eq_some_iff.1 hbx9).1
     clear hgrow9 hw0 hw1 hw2 hst0 hcx hins9 hfin9 hbf hbx9 hown9 hb9 hdl hdo hsrc8 hst8 hown8 hcsl hb8 hB8 hw8 hfold
     go_simp
     go_wp2_with (fail)
     go_roundw
     case rel=>exact ⟨k + 1,_,_,by omega,by go_num,HBF.out,HFIN.out,fun h=>by omega,HBB.out⟩
     case measure=>simp [intOf];omega
   ·have hkeq:k'=L.length:=by omega
    subst hkeq
    clear hkL
    have hkLi:¬ (L.length:Int) < (L.length:Int):=by omega
    clear g0 g1 g2 g3 g4 g5
    go_wp2_with (fail)
    refine Flow.wp_region_flow (Flow.specs [.inl ?_,.inl ?_,.inl ?_,.inl (.bool false),.inl (.bool false),.inl undef,.inl undef,.inl undef,.inl undef,.inl undef,.inl undef,.inl undef,.inl (.bool false)]) (by kernel_rfl) (by kernel_rfl) ?_ ?_
    rotate_left 3
    ·refine Flow.specs_mono ?_
     repeat (first | exact Flow.lmono_nil | refine Flow.lmono_inl ?_)
    iterate 13 (refine Flow.tree_valK rfl (fun K hK=>⟨fun w hw hG => ?_,?_⟩);(have hcl:=Flow.bcell hw;clear hG hw;unfold Flow.Runs Flow.yields;go_simp;try rfl);go_simp;refine hK _ ?_;clear hK K)
    refine Flow.tree_nil fun w4 hw4 hG => ?_
    clear hG
    have HB4:=Lib.hid (Bt HB3.out hw4)
    have HST4:=Lib.hid (HST3.out.below hw4)
    have HBX4:=Lib.hid ((hw4.block _ hN3).trans HBX3.out)
    have HK4:=Lib.hid ((hw4.block _ hc3).trans HK3.out)
    have HC4:=Lib.hid (HC3.out.ag (Ag.new _ hw4))
    have HFR4:=Lib.hid (HFR3.out.below hw4)
    have fl4:=(cell_of_box HBX4.out).1
    have hN4:w.heap.size < w4.heap.size:=Nat.lt_of_lt_of_le hN3 hw4.size
    have hc4:w2.heap.size < w4.heap.size:=Nat.lt_of_lt_of_le hc3 hw4.size
    have hlc4:L.length≤lc:=by
     obtain ⟨_,_,e,h1,_⟩:=HST4.out.shape
     cases e
     exact h1
    clear hw4 HB3 HST3 HBX3 HK3 HC3 HFR3 fl3 hN3 hc3 HVC3
    rcases HLA.out with ⟨rfl,rfl,hL0⟩ | ⟨g,rfl,_,_⟩
    ·obtain rfl:L=[]:=List.length_eq_zero_iff.1 hL0
     simp only [List.length_nil,Int.natCast_zero] at *
     obtain ⟨i0,hi,hz0,hz1,hz2⟩:=info_parts infoCell
     obtain ⟨wm,curm,hrm,hgm,hsm,hbm⟩:=run_make_some (P:=Tryz.prog) w4 41 83 i0 _ 6 Tryz.underlying41 hi hz0 hz1 .i64 .i64 0 (0 + 1) (by omega) (by rw [hz2];omega) (by unfold maxLen;omega)
     replace hrm:Sem.run Tryz.prog (Instr.makeSlice 41 (.int .i64 0) (.int .i64 1)) w4 = .ok (.slice (some ⟨w4.heap.size,0,none⟩) 0 1) wm:=hrm
     have fm:=(cell_of_box ((hbm.block _ hN4).trans HBX4.out)).1
     have hNm:w.heap.size < wm.heap.size:=Nat.lt_of_lt_of_le hN4 hbm.size
     have hul:us.length=0:=HST4.out.own.len
     have hrc:=run_copy_nilK (P:=Tryz.prog) wm 41 41 3 83 (some ⟨w4.heap.size,0,none⟩) 0 1 6 Tryz.underlying41 (by rw [hi];simp [hz1])
     have HRC:=Lib.hid hrc
     have HUL:=Lib.hid hul
     have HGC:=Lib.hid hgm
     have HC1S:=Lib.hid (show curm.size=(0 + 1) * 6 from hsm)
     have HC1T:=Lib.hid (show curm.toList.take (0 * 6)=(us.take 0).flatten by simp)
     have HBC:=Lib.hid hbm
     have hbc:=hbm
     have hNc:w.heap.size < wm.heap.size:=hNm
     clear hul hrc hgm hsm hbm
     clear hbc
     go_simp
     go_wp2_with (fail)
     rw [HRC.out]
     clear hrm hNm
     go_simp
     go_wp2_with (fail)
     obtain ⟨CS,hCS⟩:∃ CS:List Value,CS=[.int .i64 x.1.1,.slice sd x.1.2.length td,.int .i64 x.2.n,.slice s3 x.2.sums.length t3,.slice s4 x.2.mins.length t4,.slice s5 x.2.maxs.length t5]:=⟨_,rfl⟩
     have HCS:=Lib.hid hCS
     clear hCS
     have HKC:=Lib.hid ((HBC.out.block _ hc4).trans HK4.out)
     have hc5:w2.heap.size < wm.heap.size:=Nat.lt_of_lt_of_le hc4 HBC.out.size
     have HBXC:=Lib.hid ((HBC.out.block _ hN4).trans HBX4.out)
     have HSZ:=Lib.hid (show w.heap.size < w4.heap.size∧w2.heap.size < w4.heap.size∧w4.heap.size < wm.heap.size from ⟨hN4,hc4,(Array.getElem?_eq_some_iff.1 HGC.out).1⟩)
     have HKW:=Lib.hid (fun V (hw:(one w4.heap.size (.cells curm 83 (0,0)) (.cells (over curm (0 * 6) CS) 83 (0,0))).r wm V)=>(can6 ((one_block hw hc5 (by have:=HSZ.out;omega)).trans HKC.out)).1)
     have HLW:=Lib.hid (fun V (hw:(one w4.heap.size (.cells curm 83 (0,0)) (.cells (over curm (0 * 6) CS) 83 (0,0))).r wm V)=>(cell_of_box ((one_block hw hNc (by have:=HSZ.out;omega)).trans HBXC.out)).1)
     have hk'l:0≤([]:List (CK×Pay)).length:=Nat.le_refl _
     clear hc5
     refine FlowR.wp_region_flow_tail (R:=one w4.heap.size (.cells curm 83 (0,0)) (.cells (over curm (0 * 6) CS) 83 (0,0))) 8 (FlowR.specs 44 (fun _ => .inl undef) (.inl ?_ :: .inl ?_ :: .inl ?_ :: .inr (newRow w4.heap.size CS) :: .inr (turnedTo w4.heap.size (.cells (over curm (0 * 6) CS) 83 (0,0)) (.slice (some ⟨w4.heap.size,0,none⟩) (0 + 1) (0 + 1))) :: .inl ?_ :: .inl ?_ :: .inl ?_ :: [])) (fun _=>0) (FlowR.specs_ok (by kernel_rfl)) (by kernel_rfl) (by kernel_rfl) ?_ ?_
     rotate_left 6
     ·refine FlowR.specs_mono (fun x=>FlowR.mono_inl _) ?_
      repeat (first | exact FlowR.lmono_nil | refine FlowR.lmono_inl ?_ | refine FlowR.lmono_inr (newRow_mono _) ?_ | refine FlowR.lmono_inr (turnedTo_mono _) ?_)
     all_goals try simp only [List.take_succ_cons,List.take_zero,List.drop_succ_cons,List.drop_zero]
     iterate 3 (refine FlowR.tree_valK rfl (fun K hK=>⟨fun V hw hG => ?_,?_⟩);(obtain ⟨t1,t2,t3,t4,t5,t6⟩:=HKW.out V hw;clear hG hw;unfold FlowR.Runs FlowR.yields;go_simp;try rfl);go_simp;refine hK _ ?_;clear hK K)
     (refine FlowR.tree_varK rfl (fun K hK=>⟨fun V hw hG => ?_,?_⟩);(have hVl:w4.heap.size < V.heap.size:=(Nat.lt_of_lt_of_le HSZ.out.2.2 hw.2.2.2.1);clear hG hw;unfold FlowR.Runs FlowR.yields;go_simp;exact ⟨one_alloc hVl _,(⟨V.heap.size,rfl,by simp,by omega,fun j u hu=>by rw [cell_of_row _ _ _ _ _ _ (heap_alloc_new _ _)];rw [HCS.out] at hu;simpa using hu⟩:newRow w4.heap.size CS (.slice (some ⟨V.heap.size,0,none⟩) 1 1) (V.alloc _))⟩);intro vr;go_simp;refine hK _ _ ?_;clear hK K)
     (refine FlowR.tree_varK rfl (fun K hK=>⟨fun V hw hG => ?_,?_⟩);(have hnr:=(show newRow w4.heap.size CS vr V by simpa [FlowR.upd] using hG 3 (by kernel_rfl));obtain ⟨V2,hrun,hR2,hT2⟩:=one_append (P:=Tryz.prog) (ty:=41) (t:=41) (n:=0) (cap:=0 + 1) Tryz.underlying41 hi hz1 hw HGC.out (by rw [HCS.out];rfl) (by rw [HCS.out];intro u hu;simp only [List.mem_cons,List.not_mem_nil,or_false] at hu;rcases hu with rfl | rfl | rfl | rfl | rfl | rfl <;> rfl) HC1S.out (by omega) hnr;clear hG hw hnr;exact runs_append (t:=41) (.tmp 62) (.tmp 65) rfl rfl rfl rfl hrun hR2 hT2);intro vt;go_simp;refine hK _ _ ?_;clear hK K)
     iterate 3 (refine FlowR.tree_valK rfl (fun K hK=>⟨fun V hw hG => ?_,?_⟩);(have hcl:=HLW.out V hw;clear hG hw;unfold FlowR.Runs FlowR.yields;go_simp;try rfl);go_simp;refine hK _ ?_;clear hK K)
     refine FlowR.tree_nil fun w8 hw8 hG => ?_
     obtain ⟨rfl,hB8⟩:=(show turnedTo w4.heap.size (.cells (over curm (0 * 6) CS) 83 (0,0)) (.slice (some ⟨w4.heap.size,0,none⟩) (0 + 1) (0 + 1)) vt w8 by simpa [FlowR.upd] using hG 4)
     clear hG
     have hb8:Below w4.heap.size w4 w8:=HBC.out.trans (one_below hw8 (Nat.le_refl _) (by have:=HSZ.out;omega))
     have hcsl:CS.length=6:=by rw [HCS.out];rfl
     have hown8:=over_owns (N:=w.heap.size + 1) (n:=0) (cap:=0 + 1) (by omega) hB8 hcsl HC1S.out (by omega) (by unfold maxLen;omega) HC1T.out
     refine wpList_append_nil rfl _ _ 41 rfl 83 i0 Tryz.underlying41 hi ⟨w4.heap.size,0,none⟩ (0 + 1) (0 + 1) rfl rfl (Nat.le_refl _) ?_
     have hown9:w8.ownsRow (w.heap.size + 1) 83 6 (.slice (some ⟨w4.heap.size,0,none⟩) (0 + 1) (0 + 1)) (([]:List (CK×Pay)).length + 1) ((us.take 0).flatten ++ CS ++ (us.drop 0).flatten):=by
      have:us=[]:=List.length_eq_zero_iff.1 HUL.out
      subst this
      simpa using hown8
     have hb9:=hb8
     have hw0:w.heap.size < wr.heap.size:=(Array.getElem?_eq_some_iff.1 HBX.out).1
     have hw1:=HWD.out.2
     have hw2:=HB1.out.size
     have hst0:=HST.out
     rw [← HLE.out] at hst0
     have hcx:CelAt (fun b=>w.heap.size + 1≤b∧wr.heap.size≤b∧(Value.slice (some ⟨w4.heap.size,0,none⟩) (0 + 1) (0 + 1)).ownBlock≠some b) w8 CS x:=by
      rw [HCS.out]
      exact (HC4.out.ag (Ag.new _ hb9)).weak fun b hb=>⟨by have:=hb.1;omega,by have:=hb.1;omega,fun e=>by have h1:w4.heap.size=b:=Option.some.inj e;have h2:=hb.2;omega⟩
     have hins9:=PutSt.insert (k:=0) hst0 (Bt HB4.out hb9) hk'l (v':=.slice (some ⟨w4.heap.size,0,none⟩) (0 + 1) (0 + 1)) (fun b e=>by have:=Option.some.inj e;change w4.heap.size=b at this;omega) hown9 hcx (by rw [HCS.out];exact HND2.out) (by rw [HCS.out];exact HFR4.out.below hb9)
     have hfin9:=hins9.setBox (g:=w.heap.size) (i:=0) (by omega) (.slice (some ⟨w4.heap.size,0,none⟩) (0 + 1) (0 + 1))
     have hfold:([]:List (CK×Pay)).take 0 ++ x :: ([]:List (CK×Pay)).drop 0=fold ckLt Pay.add (C.take (k + 1)):=by
      rw [Tess.fold_take hlt,HXX.out,← HLE.out]
      exact (Tess.Kl.ins_here (L:=[]) (k:=0) (Nat.le_refl _) (fun j hj hjk=>(HKJ.out j hj).2 hjk) (fun h=>absurd h (Nat.lt_irrefl _))).symm
     rw [hfold] at hfin9
     have hbx9:=(hb9.block _ hN4).trans HBX4.out
     have hbf:=heap_setCell_same w8 w.heap.size 0 _ _ (.slice (some ⟨w4.heap.size,0,none⟩) (0 + 1) (0 + 1)) hbx9
     have HFIN:=Lib.hid hfin9
     have HBF:=Lib.hid hbf
     have HBB:=Lib.hid (show Below w.heap.size w (w8.setCell ⟨w.heap.size,0,none⟩ (.slice (some ⟨w4.heap.size,0,none⟩) (0 + 1) (0 + 1))) from (Bt HB.out (Bt HB4.out hb9)).setCell (Nat.le_refl _) _)
     have fl9:=(cell_of_box hbx9).1
     have fz9:=(cell_of_box hbx9).2
     have hN9:w.heap.size < w8.heap.size:=(Array.getElem?_eq_some_iff.1 hbx9).1
     clear hw0 hw1 hw2 hst0 hcx hins9 hfin9 hbf hbx9 hown9 hb9 hown8 hcsl hb8 hB8 hw8 hfold
     go_simp
     go_wp2_with (fail)
     go_roundw
     case rel=>exact ⟨k + 1,_,_,by omega,by go_num,HBF.out,HFIN.out,fun h=>by omega,HBB.out⟩
     case measure=>simp [intOf];omega
    ·obtain ⟨i0,hi,hz0,hz1,hz2⟩:=info_parts infoCell
     obtain ⟨wm,curm,hrm,hgm,hsm,hbm⟩:=run_make_some (P:=Tryz.prog) w4 41 83 i0 _ 6 Tryz.underlying41 hi hz0 hz1 .i64 .i64 L.length (L.length + 1) (by omega) (by rw [hz2];omega) (by unfold maxLen;omega)
     simp only [Int.natCast_add,Int.natCast_one] at hrm
     have fm:=(cell_of_box ((hbm.block _ hN4).trans HBX4.out)).1
     have hNm:w.heap.size < wm.heap.size:=Nat.lt_of_lt_of_le hN4 hbm.size
     have hul:us.length=L.length:=HST4.out.own.len
     have hlens:=HST4.out.own.lens cel_nest
     have hones:=HST4.out.own.ones cel_nest
     have hft:=flat_take (k:=L.length) hlens (by omega)
     have hfl:=flat_len us hlens
     have hown4:w4.ownsRow (w.heap.size + 1) 83 6 (.slice (some ⟨g,0,none⟩) us.length lc) us.length us.flatten:=by have:=HST4.out.own.own;rwa [← hul] at this
     have hownm:=owns_below hown4 hbm
     obtain ⟨cs0,hcs0⟩:∃ cs0,cs0=us.flatten.take (L.length * 6):=⟨_,rfl⟩
     have hcl0:cs0.length=L.length * 6:=by rw [hcs0,List.length_take,hfl];omega
     have hrc:=run_copy_rowK (P:=Tryz.prog) wm 41 41 3 83 w4.heap.size 0 L.length (L.length + 1) 6 ⟨g,0,none⟩ L.length L.length curm 83 cs0 Tryz.underlying41 (by rw [hi];simp [hz1]) hgm (by rw [hcl0,show Nat.min L.length L.length=L.length from Nat.min_self L.length]) (fun j v hv=>by
      have hj:j < L.length * 6:=by rw [← hcl0];exact (List.getElem?_eq_some_iff.1 hv).1
      rw [Addr.add_lit,Nat.zero_add,hownm.cellAt j (by omega),← hv,hcs0,List.getElem?_take,if_pos hj]) (by omega) (fun v hv=>hones v (List.mem_of_mem_take (by rw [← hcs0];exact hv)))
     rw [show Nat.min L.length L.length=L.length from Nat.min_self L.length] at hrc
     obtain ⟨wc,hwc⟩:∃ wc,wm.setRow w4.heap.size (curm.toList.take 0 ++ cs0 ++ curm.toList.drop (0 + cs0.length)).toArray=wc:=⟨_,rfl⟩
     obtain ⟨cur1,hcur1⟩:∃ cur1,cur1=over curm 0 cs0:=⟨_,rfl⟩
     have hgc:wc.heap[w4.heap.size]? = some (.cells cur1 83 (0,0)):=by rw [← hwc,hcur1];exact setRow_heap wm _ curm _ _ _ hgm
     have hc1s:cur1.size=(L.length + 1) * 6:=by rw [hcur1,over_size (by omega),hsm]
     have hc1t:cur1.toList.take (L.length * 6)=(us.take L.length).flatten:=by
      have:=over_take (cur:=curm) (n:=0) (cs:=cs0) (by omega)
      rw [Nat.zero_add,hcl0,← hcur1] at this
      rw [this,hcs0,hft.1];simp
     have hbc:Below w4.heap.size w4 wc:=hbm.trans (by rw [← hwc];exact ⟨rfl,rfl,rfl,by rw [setRow_size];exact Nat.le_refl _,fun j hj=>setRow_other wm _ j _ (by omega)⟩)
     rw [hwc] at hrc
     have HUL:=Lib.hid hul
     have HLN:=Lib.hid hlens
     have HON:=Lib.hid hones
     have HFT:=Lib.hid hft
     have HFL:=Lib.hid hfl
     have HGC:=Lib.hid hgc
     have HC1S:=Lib.hid hc1s
     have HC1T:=Lib.hid hc1t
     have HBC:=Lib.hid hbc
     have hNc:w.heap.size < wc.heap.size:=Nat.lt_of_lt_of_le hN4 hbc.size
     clear hwc hgm hsm hbm hcur1 hul hlens hones hft hfl hgc hc1s hc1t hown4 hownm hcl0 hcs0
     have fc:=(cell_of_box ((hbc.block _ hN4).trans HBX4.out)).1
     clear hbc
     have HRC:=Lib.hid hrc
     clear hrc
     go_simp
     go_wp2_with (fail)
     rw [HRC.out]
     clear hrm fm hNm
     go_simp
     go_wp2_with (fail)
     obtain ⟨CS,hCS⟩:∃ CS:List Value,CS=[.int .i64 x.1.1,.slice sd x.1.2.length td,.int .i64 x.2.n,.slice s3 x.2.sums.length t3,.slice s4 x.2.mins.length t4,.slice s5 x.2.maxs.length t5]:=⟨_,rfl⟩
     have HCS:=Lib.hid hCS
     clear hCS
     have HKC:=Lib.hid ((HBC.out.block _ hc4).trans HK4.out)
     have hc5:w2.heap.size < wc.heap.size:=Nat.lt_of_lt_of_le hc4 HBC.out.size
     have HBXC:=Lib.hid ((HBC.out.block _ hN4).trans HBX4.out)
     have HSZ:=Lib.hid (show w.heap.size < w4.heap.size∧w2.heap.size < w4.heap.size∧w4.heap.size < wc.heap.size from ⟨hN4,hc4,(Array.getElem?_eq_some_iff.1 HGC.out).1⟩)
     have HKW:=Lib.hid (fun V (hw:(one w4.heap.size (.cells cur1 83 (0,0)) (.cells (over cur1 (L.length * 6) CS) 83 (0,0))).r wc V)=>(can6 ((one_block hw hc5 (by have:=HSZ.out;omega)).trans HKC.out)).1)
     have HLW:=Lib.hid (fun V (hw:(one w4.heap.size (.cells cur1 83 (0,0)) (.cells (over cur1 (L.length * 6) CS) 83 (0,0))).r wc V)=>(cell_of_box ((one_block hw hNc (by have:=HSZ.out;omega)).trans HBXC.out)).1)
     have hk'l:L.length≤L.length:=Nat.le_refl _
     clear hc5
     refine FlowR.wp_region_flow_tail (R:=one w4.heap.size (.cells cur1 83 (0,0)) (.cells (over cur1 (L.length * 6) CS) 83 (0,0))) 8 (FlowR.specs 44 (fun _ => .inl undef) (.inl ?_ :: .inl ?_ :: .inl ?_ :: .inr (newRow w4.heap.size CS) :: .inr (turnedTo w4.heap.size (.cells (over cur1 (L.length * 6) CS) 83 (0,0)) (.slice (some ⟨w4.heap.size,0,none⟩) (L.length + 1) (L.length + 1))) :: .inl ?_ :: .inl ?_ :: .inl ?_ :: [])) (fun _=>0) (FlowR.specs_ok (by kernel_rfl)) (by kernel_rfl) (by kernel_rfl) ?_ ?_
     rotate_left 6
     ·refine FlowR.specs_mono (fun x=>FlowR.mono_inl _) ?_
      repeat (first | exact FlowR.lmono_nil | refine FlowR.lmono_inl ?_ | refine FlowR.lmono_inr (newRow_mono _) ?_ | refine FlowR.lmono_inr (turnedTo_mono _) ?_)
     all_goals try simp only [List.take_succ_cons,List.take_zero,List.drop_succ_cons,List.drop_zero]
     iterate 3 (refine FlowR.tree_valK rfl (fun K hK=>⟨fun V hw hG => ?_,?_⟩);(obtain ⟨t1,t2,t3,t4,t5,t6⟩:=HKW.out V hw;clear hG hw;unfold FlowR.Runs FlowR.yields;go_simp;try rfl);go_simp;refine hK _ ?_;clear hK K)
     (refine FlowR.tree_varK rfl (fun K hK=>⟨fun V hw hG => ?_,?_⟩);(have hVl:w4.heap.size < V.heap.size:=(Nat.lt_of_lt_of_le HSZ.out.2.2 hw.2.2.2.1);clear hG hw;unfold FlowR.Runs FlowR.yields;go_simp;exact ⟨one_alloc hVl _,(⟨V.heap.size,rfl,by simp,by omega,fun j u hu=>by rw [cell_of_row _ _ _ _ _ _ (heap_alloc_new _ _)];rw [HCS.out] at hu;simpa using hu⟩:newRow w4.heap.size CS (.slice (some ⟨V.heap.size,0,none⟩) 1 1) (V.alloc _))⟩);intro vr;go_simp;refine hK _ _ ?_;clear hK K)
     (refine FlowR.tree_varK rfl (fun K hK=>⟨fun V hw hG => ?_,?_⟩);(have hnr:=(show newRow w4.heap.size CS vr V by simpa [FlowR.upd] using hG 3 (by kernel_rfl));obtain ⟨V2,hrun,hR2,hT2⟩:=one_append (P:=Tryz.prog) (ty:=41) (t:=41) (n:=L.length) (cap:=L.length + 1) Tryz.underlying41 hi hz1 hw HGC.out (by rw [HCS.out];rfl) (by rw [HCS.out];intro u hu;simp only [List.mem_cons,List.not_mem_nil,or_false] at hu;rcases hu with rfl | rfl | rfl | rfl | rfl | rfl <;> rfl) HC1S.out (by omega) hnr;clear hG hw hnr;exact runs_append (t:=41) (.tmp 62) (.tmp 65) rfl rfl rfl rfl hrun hR2 hT2);intro vt;go_simp;refine hK _ _ ?_;clear hK K)
     iterate 3 (refine FlowR.tree_valK rfl (fun K hK=>⟨fun V hw hG => ?_,?_⟩);(have hcl:=HLW.out V hw;clear hG hw;unfold FlowR.Runs FlowR.yields;go_simp;try rfl);go_simp;refine hK _ ?_;clear hK K)
     refine FlowR.tree_nil fun w8 hw8 hG => ?_
     obtain ⟨rfl,hB8⟩:=(show turnedTo w4.heap.size (.cells (over cur1 (L.length * 6) CS) 83 (0,0)) (.slice (some ⟨w4.heap.size,0,none⟩) (L.length + 1) (L.length + 1)) vt w8 by simpa [FlowR.upd] using hG 4)
     clear hG
     have hb8:Below w4.heap.size w4 w8:=HBC.out.trans (one_below hw8 (Nat.le_refl _) (by have:=HSZ.out;omega))
     have hcsl:CS.length=6:=by rw [HCS.out];rfl
     have hown8:=over_owns (N:=w.heap.size + 1) (n:=L.length) (cap:=L.length + 1) (by omega) hB8 hcsl HC1S.out (by omega) (by unfold maxLen;omega) HC1T.out
     have hst8:=HST4.out.below hb8
     have hdn:(us.drop L.length).flatten=[]:=by rw [← HUL.out];simp
     have hsrc8:∀ (ad:Addr) j u,(us.drop L.length).flatten[j]? = some u→w8.cell? (ad.add j)=some u:=fun ad j u hu=>by rw [hdn] at hu;simp at hu
     have hdl:(us.drop L.length).flatten.length=(L.length - L.length) * 6:=by rw [flat_len _ fun u hu=>HLN.out u (List.mem_of_mem_drop hu),List.length_drop,HUL.out]
     have hdo:∀ u ∈ (us.drop L.length).flatten,u.oneCell'=true:=fun u hu=>HON.out u (by rw [← HFT.out.2] at hu;exact List.mem_of_mem_drop hu)
     have e9:L.length + 1 + (L.length - L.length)=L.length + 1:=by omega
     refine wpList_append_own_spare _ rfl _ _ 41 rfl (w.heap.size + 1) 83 i0 6 Tryz.underlying41 hi hz1 w4.heap.size (L.length + 1) (L.length + 1) _ rfl hown8 ⟨g,if lc=L.length then 0 else L.length * 6,none⟩ (L.length - L.length) (lc - L.length) (us.drop L.length).flatten (by simp only [Act.eval];go_simp;split <;> rfl) hdl (hsrc8 _) hdo (by omega) ?_
     intro w9 hown9 hgrow9
     rw [e9] at hown9 ⊢
     have hb9:Below w4.heap.size w4 w9:=hb8.trans ⟨hgrow9.1,hgrow9.2,hgrow9.3,hgrow9.4,fun j hj=>hgrow9.5 j (by have:=hb8.size;omega) (by intro e;cases e;omega)⟩
     have hw0:w.heap.size < wr.heap.size:=(Array.getElem?_eq_some_iff.1 HBX.out).1
     have hw1:=HWD.out.2
     have hw2:=HB1.out.size
     have hst0:=HST.out
     rw [← HLE.out] at hst0
     have hcx:CelAt (fun b=>w.heap.size + 1≤b∧wr.heap.size≤b∧(Value.slice (some ⟨w4.heap.size,0,none⟩) (L.length + 1) (L.length + 1)).ownBlock≠some b) w9 CS x:=by
      rw [HCS.out]
      exact (HC4.out.ag (Ag.new _ hb9)).weak fun b hb=>⟨by have:=hb.1;omega,by have:=hb.1;omega,fun e=>by have h1:w4.heap.size=b:=Option.some.inj e;have h2:=hb.2;omega⟩
     have hins9:=PutSt.insert (k:=L.length) hst0 (Bt HB4.out hb9) hk'l (v':=.slice (some ⟨w4.heap.size,0,none⟩) (L.length + 1) (L.length + 1)) (fun b e=>by have:=Option.some.inj e;change w4.heap.size=b at this;omega) hown9 hcx (by rw [HCS.out];exact HND2.out) (by rw [HCS.out];exact HFR4.out.below hb9)
     have hfin9:=hins9.setBox (g:=w.heap.size) (i:=0) (by omega) (.slice (some ⟨w4.heap.size,0,none⟩) (L.length + 1) (L.length + 1))
     have hfold:L.take L.length ++ x :: L.drop L.length=fold ckLt Pay.add (C.take (k + 1)):=by
      rw [Tess.fold_take hlt,HXX.out,← HLE.out]
      exact (Tess.Kl.ins_here (Nat.le_refl _) (fun j hj hjk=>(HKJ.out j hj).2 hjk) (fun h=>absurd h (Nat.lt_irrefl _))).symm
     rw [hfold] at hfin9
     have hbx9:=(hb9.block _ hN4).trans HBX4.out
     have hbf:=heap_setCell_same w9 w.heap.size 0 _ _ (.slice (some ⟨w4.heap.size,0,none⟩) (L.length + 1) (L.length + 1)) hbx9
     have HFIN:=Lib.hid hfin9
     have HBF:=Lib.hid hbf
     have HBB:=Lib.hid (show Below w.heap.size w (w9.setCell ⟨w.heap.size,0,none⟩ (.slice (some ⟨w4.heap.size,0,none⟩) (L.length + 1) (L.length + 1))) from (Bt HB.out (Bt HB4.out hb9)).setCell (Nat.le_refl _) _)
     have fl9:=(cell_of_box hbx9).1
     have fz9:=(cell_of_box hbx9).2
     have hN9:w.heap.size < w9.heap.size:=(Array.getElem?_eq_some_iff.1 hbx9).1
     clear hdn hgrow9 hw0 hw1 hw2 hst0 hcx hins9 hfin9 hbf hbx9 hown9 hb9 hdl hdo hsrc8 hst8 hown8 hcsl hb8 hB8 hw8 hfold
     go_simp
     go_wp2_with (fail)
     go_roundw
     case rel=>exact ⟨k + 1,_,_,by omega,by go_num,HBF.out,HFIN.out,fun h=>by omega,HBB.out⟩
     case measure=>simp [intOf];omega
  ·obtain rfl:k=C.length:=by omega
   have hki:¬ (C.length:Int) < (C.length:Int):=by omega
   have fl:=(cell_of_box hbx).1
   rw [List.take_length] at hst
   have HST:=Lib.hid hst
   have HB:=Lib.hid hB
   have HN:=Lib.hid hnil
   clear hst hB hnil hbx HC
   go_wp2
   go_ret
   exact ⟨_,rfl,⟨_,HST.out⟩,fun e=>HN.out (by rw [e];rfl),HB.out⟩
end Go.Proofs.YtaddkkkchkdgkaaGreatDoor
