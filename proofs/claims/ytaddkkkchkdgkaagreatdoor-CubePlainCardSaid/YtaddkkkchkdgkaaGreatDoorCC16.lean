/- Cells put among some: the program's put, walked. -/
import Derived.Test.YtaddkkkchkdgkaaGreatDoorCC15
namespace Go.Proofs.YtaddkkkchkdgkaaGreatDoor
open Go.RowKit Go.Sort
open Tess (CK Pay ckLt PO)
open Tess.Kl (Asc fold ins)
theorem CA2.shapes {p:Nat→Prop} {w:World} {cs:List Value} {x:CK×Pay} (h:CA2 p w cs x):∃ ad cd a3 c3 a4 c4 a5 c5,cs=[.int .i64 x.1.1,.slice ad x.1.2.length cd,.int .i64 x.2.n,.slice a3 x.2.sums.length c3,.slice a4 x.2.mins.length c4,.slice a5 x.2.maxs.length c5]∧VC w ad (x.1.2.map Tess.valOf):=by
 obtain ⟨vd,vs,vm,vx,rfl,h1,h2⟩:=h
 obtain ⟨ad,cd,rfl,_,hc⟩:=h1.cells
 obtain ⟨a3,c3,rfl⟩:=h2.sums.shape
 obtain ⟨a4,c4,rfl⟩:=h2.mins.shape
 obtain ⟨a5,c5,rfl⟩:=h2.maxs.shape
 exact ⟨ad,cd,a3,c3,a4,c4,a5,c5,by rw [List.length_map],hc⟩
theorem VC.below {w w':World} {a:Option Addr} {l:List Tess.Val} (h:VC w a l) (hb:Below w.heap.size w w'):VC w' a l:=fun j hj=>
 let ⟨b,off,ha,hbl,h0,h1⟩:=h j hj;⟨b,off,ha,Nat.lt_of_lt_of_le hbl hb.size,(hb.cell (p:=⟨b,off + j * 2,none⟩) hbl).trans h0,(hb.cell (p:=⟨b,off + j * 2 + 1,none⟩) hbl).trans h1⟩
theorem iC2:(Tryz.prog.info? 83).map (fun i=>(i.zero,i.size,i.bytes))=some (some (.agg #[.int .i64 0,.slice none 0 0,.int .i64 0,.slice none 0 0,.slice none 0 0,.slice none 0 0]),6,112):=by kernel_rfl
theorem fold_len (l:List (CK×Pay)):(fold ckLt Pay.add l).length≤l.length:=by
 have h2:∀ (x:CK×Pay) (m:List (CK×Pay)),(ins ckLt Pay.add x m).length≤m.length + 1:=fun x m=>by
  induction m with
  | nil=>simp [ins]
  | cons y m ih2=>
    rw [ins]
    split
    ·simp only [List.length_cons];omega
    ·split <;> simp only [List.length_cons] <;> omega
 have h1:∀ (l m:List (CK×Pay)),(l.foldl (fun m x=>ins ckLt Pay.add x m) m).length≤m.length + l.length:=fun l=>by
  induction l with
  | nil=>intro m;simp
  | cons x l ih=>
    intro m
    rw [List.foldl_cons,List.length_cons]
    have:=ih (ins ckLt Pay.add x m)
    have:=h2 x m
    omega
 have:=h1 l []
 unfold fold
 simpa using this
theorem PS.shape {N:Nat} {W:World} {v:Value} {us:List (List Value)} {L:List (CK×Pay)} (h:PS N W v us L):∃ la lc,v = .slice la L.length lc∧L.length≤lc∧lc≤maxLen∧((la=none∧lc=0∧L.length=0)∨∃ g,la=some ⟨g,0,none⟩∧N≤g∧g < W.heap.size):=by
 have Aa:=h.own.len
 rcases h.own.own.2 with ⟨rfl,h0⟩ | ⟨g,Ac,Ad,rfl,hg,hh,Ab,hm,_,_⟩
 ·exact ⟨none,0,by rw [← Aa,h0],by omega,Nat.zero_le _,.inl ⟨rfl,rfl,by omega⟩⟩
 ·exact ⟨_,Ac,by rw [Aa],by omega,hm,.inr ⟨g,rfl,hg,(Array.getElem?_eq_some_iff.1 hh).1⟩⟩
theorem PS.mutsLt {N:Nat} {W:World} {v:Value} {us:List (List Value)} {L:List (CK×Pay)} (h:PS N W v us L):∀ j (hj:j < us.length),∀ b ∈ muts us[j],N≤b∧b < W.heap.size:=fun j hj b hb=>by
 have:=(cn2.lt (h.own.at_ j (by have:=h.own.len;omega) hj)).iM2 b hb
 exact ⟨this.1.1,this.2⟩
theorem nodup_three {t n:Int} {vd vs vm vx:Value} (h:(muts [.int .i64 t,vd,.int .i64 n,vs,vm,vx]).Nodup):(∀ b,blkN vs=some b→blkN vm≠some b)∧(∀ b,blkN vs=some b→blkN vx≠some b)∧∀ b,blkN vm=some b→blkN vx≠some b:=by
 unfold muts at h
 rw [List.nodup_iff_pairwise_ne,List.pairwise_filterMap] at h
 simp only [List.pairwise_cons,List.mem_cons,List.not_mem_nil,or_false,forall_eq_or_imp,forall_eq,List.Pairwise.nil,and_true] at h
 obtain ⟨_,_,_,⟨h1,h2⟩,h3,_⟩:=h
 exact ⟨fun b hb hb'=>h1 b hb b hb' rfl,fun b hb hb'=>h2 b hb b hb' rfl,fun b hb hb'=>h3 b hb b hb' rfl⟩
theorem mem_muts {v:Value} {cs:List Value} {b:Nat} (hv:v ∈ cs) (hb:blkN v=some b):b ∈ muts cs:=List.mem_filterMap.2 ⟨v,hv,hb⟩
set_option maxRecDepth 100000 in
set_option maxHeartbeats 8000000 in
theorem put_any (p:Nat→Prop) (va:Value) (C:List (CK×Pay)) (M:Nat) (w:World) (hv:CA3 p w va C) (hM:∀ x ∈ C,PO M x.2∧x.1.2.length≤1000) (hMM:M≤1000) (htot:(C.map (·.2.n)).sum≤1000000) (hCl:C.length≤1000) :
  Calls Tryz.prog 33 #[.slice none 0 0,va] w fun e w' => ∃ v' us,e = .returned v'∧PS (w.heap.size + 1) w' v' us (fold ckLt Pay.add C)∧(C=[]→v' = .slice none 0 0)∧Below w.heap.size w w':=by
 obtain ⟨a,cap,rfl,_,hl,_,hc⟩:=LA.open hv
 have hl:C.length≤9223372036854775807:=by omega
 have HC:=Hd hc
 clear hc hv
 obtain ⟨W0,Gb⟩:∃ W0,w.alloc (.cells #[.slice none 0 0] 41)=W0:=⟨_,rfl⟩
 obtain ⟨k0,kS,kB⟩:=la2 w (.cells #[.slice none 0 0] 41)
 rw [Gb] at k0 kS kB
 have K0:=Hd k0
 have KB:=Hd kB
 clear k0 kB
 go_enter Tryz.func33,Tryz.ntmps33
 go_wp2_with (fail)
 clear Gb
 go_loopw [13] (fun i wr => ∃ (k:Nat) (v:Value) (us:List (List Value)),k≤C.length∧i = .int .i64 k∧wr.heap[w.heap.size]? = some (.cells #[v] 41 (0,0))∧PS (w.heap.size + 1) wr v us (fold ckLt Pay.add (C.take k))∧(k=0→v = .slice none 0 0)∧Below w.heap.size w wr) (fun i _=>C.length - (intOf i).toNat)
 case atStart=>exact ⟨0,_,[],Nat.zero_le _,rfl,K0.out,⟨OwnL.nil _,by simp,fun cs h=>by cases h⟩,fun _=>rfl,KB.out⟩
 case round=>
  obtain ⟨k,v,us,hk,rfl,Eq,Db,Cb,hB⟩:=hrel
  by_cases hlt:k < C.length
  ·have Gh:(k:Int) < (C.length:Int):=by omega
   obtain ⟨b,Bh,rfl,hb,_,cs,_,Cp,Ap⟩:=HC.out k hlt
   have hx:=(hM _ (List.getElem_mem hlt)).1
   have Hu:=(hM _ (List.getElem_mem hlt)).2
   generalize hX:C[k]=x at *
   obtain ⟨ad,cd,a3,c3,a4,c4,a5,c5,rfl,_⟩:=Cp.shapes
   have e0:wr.cell? ⟨b,Bh + k * 6,none⟩=some (.int .i64 x.1.1):=(hB.cell (p:=⟨b,Bh + k * 6,none⟩) hb).trans (Ap 0 (by omega))
   have e1:wr.cell? ⟨b,Bh + k * 6 + 1,none⟩=some (.slice ad x.1.2.length cd):=(hB.cell (p:=⟨b,Bh + k * 6 + 1,none⟩) hb).trans (Ap 1 (by omega))
   have e2:wr.cell? ⟨b,Bh + k * 6 + 2,none⟩=some (.int .i64 x.2.n):=(hB.cell (p:=⟨b,Bh + k * 6 + 2,none⟩) hb).trans (Ap 2 (by omega))
   have e3:wr.cell? ⟨b,Bh + k * 6 + 3,none⟩=some (.slice a3 x.2.sums.length c3):=(hB.cell (p:=⟨b,Bh + k * 6 + 3,none⟩) hb).trans (Ap 3 (by omega))
   have e4:wr.cell? ⟨b,Bh + k * 6 + 4,none⟩=some (.slice a4 x.2.mins.length c4):=(hB.cell (p:=⟨b,Bh + k * 6 + 4,none⟩) hb).trans (Ap 4 (by omega))
   have e5:wr.cell? ⟨b,Bh + k * 6 + 5,none⟩=some (.slice a5 x.2.maxs.length c5):=(hB.cell (p:=⟨b,Bh + k * 6 + 5,none⟩) hb).trans (Ap 5 (by omega))
   have G4:b < wr.heap.size:=Nat.lt_of_lt_of_le hb hB.size
   obtain ⟨W1,G7⟩:∃ W1,wr.alloc (.cells #[.int .i64 x.1.1,.slice ad x.1.2.length cd,.int .i64 x.2.n,.slice a3 x.2.sums.length c3,.slice a4 x.2.mins.length c4,.slice a5 x.2.maxs.length c5] 83)=W1:=⟨_,rfl⟩
   obtain ⟨k1,Gy,Es⟩:=la2 wr (.cells #[.int .i64 x.1.1,.slice ad x.1.2.length cd,.int .i64 x.2.n,.slice a3 x.2.sums.length c3,.slice a4 x.2.mins.length c4,.slice a5 x.2.maxs.length c5] 83)
   rw [G7] at k1 Gy Es
   obtain ⟨⟨f0,f1,f2,f3,f4,f5⟩,_⟩:=can6 k1
   have Fe:=Hd (own6_any p _ x W1 (Cp.ag (Ag.new p (Bt hB Es))) ⟨by omega,by rw [hx.len.1];omega,by rw [hx.len.2.1];omega,by rw [hx.len.2.2];omega⟩)
   have HB:=Hd hB
   have D1:=Hd Eq
   have C8:=Hd Db
   have F6:=Hd Db.mutsLt
   have HN:=Hd Cb
   have C5:=Hd Es
   have Ed:=Hd hX
   clear Ap hB Eq Db Cb k1 Es Cp hX
   go_wp2_with (fail)
   go_at_call 56
   refine Fe.out.mono ?_
   rintro e w2 ⟨Hp,rfl,Da,D3,El,E9⟩
   replace Da:=cn2.lt Da
   obtain ⟨sd,td,s3,t3,s4,t4,s5,t5,rfl,Dr⟩:=Da.shapes
   obtain ⟨W2,Gr⟩:∃ W2,w2.alloc (.cells #[.int .i64 x.1.1,.slice sd x.1.2.length td,.int .i64 x.2.n,.slice s3 x.2.sums.length t3,.slice s4 x.2.mins.length t4,.slice s5 x.2.maxs.length t5] 126)=W2:=⟨_,rfl⟩
   obtain ⟨k2,F0,Cw⟩:=la2 w2 (.cells #[.int .i64 x.1.1,.slice sd x.1.2.length td,.int .i64 x.2.n,.slice s3 x.2.sums.length t3,.slice s4 x.2.mins.length t4,.slice s5 x.2.maxs.length t5] 126)
   rw [Gr] at k2 F0 Cw
   have Ca:Below wr.heap.size wr W2:=Bt (Bt C5.out E9) Cw
   have Bz:=C8.out.below Ca
   have Bq:=(Ca.block _ (Array.getElem?_eq_some_iff.1 D1.out).1).trans D1.out
   obtain ⟨L,hL⟩:∃ L,L=fold ckLt Pay.add (C.take k):=⟨_,rfl⟩
   rw [← hL] at Bz
   have Cx:Asc ckLt L:=by rw [hL];exact Tess.Kl.fa8 Tess.cs3 _
   have B6:=Hd hL
   obtain ⟨la,lc,rfl,He,Gp,Fr⟩:=Bz.shape
   have Hg:L.length≤1000:=by rw [B6.out];exact Nat.le_trans (fold_len _) (by rw [List.length_take];omega)
   have Gj:L.length < 4611686018427387904:=by omega
   have Gw:=Hd (search_any (bl:=w.heap.size) (bc:=w2.heap.size) Bz Cx Gj Bq k2 (Da.ag (Ag.new _ Cw)))
   have Gd:=Hd (Da.ag (Ag.new _ Cw))
   have D6:=Hd (El.below Cw)
   have Cq:=Hd D3
   have Dt:=Hd Bz
   have Dy:=Hd (Dr.below Cw)
   have Di:=Hd Bq
   have F8:=Hd k2
   have Ea:=Hd Ca
   have Gs:=Hd Cx
   have G3:=Hd Fr
   have Cz:=Hd (show w2.heap.size < W2.heap.size∧W1.heap.size≤w2.heap.size from ⟨by omega,E9.size⟩)
   have fl:=(cob Bq).1
   have E2:w.heap.size < W2.heap.size:=(Array.getElem?_eq_some_iff.1 Bq).1
   clear f0 f1 f2 f3 f4 f5 e0 e1 e2 e3 e4 e5 hL Da D3 El E9 Dr k2 Cw F0 Ca Bz Bq Cx Fr G4 Gp He
   go_wp2_with (fail)
   go_at_call 59
   refine Gw.out.mono ?_
   rintro e w3 ⟨k',rfl,Gx,Fg,B0⟩
   have Dp:=Bt Ea.out B0
   have Eg:=Dt.out.below B0
   have Fa:=(B0.block _ Cz.out.1).trans F8.out
   have En:=Hd Dp
   have Bv:=Hd Eg
   have Bu:=Hd ((B0.block _ E2).trans Di.out)
   have Eo:=Hd Fa
   have Ep:=Hd (Gd.out.ag (Ag.new _ B0))
   have B3:=Hd (D6.out.below B0)
   have C0:=Hd (Dy.out.below B0)
   have E8:=Hd (show w2.heap.size < w3.heap.size from Nat.lt_of_lt_of_le Cz.out.1 B0.size)
   have F5:=(cob Bu.out).1
   obtain ⟨⟨g0,g1,g2,g3,g4,g5⟩,_⟩:=can6 Fa
   have Dd:w.heap.size < w3.heap.size:=Nat.lt_of_lt_of_le E2 B0.size
   have C7:w2.heap.size < w3.heap.size:=E8.out
   have Fm:(L.length:Int) + 1≤9223372036854775807:=by omega
   clear fl E2 B0 Dp Eg Fa Ea Dt Di F8 Gd D6 Dy
   have C4:=Hd Fg
   clear Fg
   by_cases hkL:k' < L.length
   ·have E6:(k':Int) < (L.length:Int):=by omega
    obtain ⟨g,G9,Hh,F9,Hn,B8,Ge,⟨cur,Eb⟩,⟨Et,F3⟩,Bb,Cr⟩:=Bv.out.row hkL
    simp only [Value.slice.injEq] at F9
    obtain ⟨rfl,_,rfl⟩:=F9
    obtain ⟨Bk,Bi,A9,A6,A8,Ba,A7,A5,rfl,Dk⟩:=Bb.shapes
    have Fu:∀ W,Below w3.heap.size w3 W→Calls Tryz.prog 61 #[.agg #[.int .i64 x.1.1,.slice sd x.1.2.length td,.int .i64 x.2.n,.slice s3 x.2.sums.length t3,.slice s4 x.2.mins.length t4,.slice s5 x.2.maxs.length t5],.agg #[.int .i64 L[k'].1.1,.slice Bk L[k'].1.2.length Bi,.int .i64 L[k'].2.n,.slice A9 L[k'].2.sums.length A6,.slice A8 L[k'].2.mins.length Ba,.slice A7 L[k'].2.maxs.length A5]] W
      fun e w'=>e = .returned (.bool (ckLt x.1 L[k'].1))∧Below W.heap.size W w':=fun W hW=>by
     have:=aa2 sd Bk td Bi (x.1.2.map Tess.valOf) (L[k'].1.2.map Tess.valOf) x.1.1 L[k'].1.1 x.2.n L[k'].2.n s3 s4 s5 A9 A8 A7 x.2.sums.length x.2.mins.length x.2.maxs.length t3 t4 t5 L[k'].2.sums.length L[k'].2.mins.length L[k'].2.maxs.length A6 Ba A5 W (by obtain ⟨_,_,_,_,_,h,_⟩:=Bb;obtain ⟨_,_,_,h,_⟩:=h;unfold maxLen at h;omega) (C0.out.below hW) (Dk.below hW)
     rw [vc2,vc2,List.length_map,List.length_map] at this
     refine this.mono ?_
     rintro e w' ⟨rfl,q',os,rfl⟩
     exact ⟨rfl,below_grown_sl W.heap.size W q' os (Nat.le_refl _)⟩
    have Fz:=Hd Fu
    have h0:w3.cell? ⟨g,k' * 6,none⟩=some (.int .i64 L[k'].1.1):=Cr 0 (by omega)
    have h1:w3.cell? ⟨g,k' * 6 + 1,none⟩=some (.slice Bk L[k'].1.2.length Bi):=Cr 1 (by omega)
    have h2:w3.cell? ⟨g,k' * 6 + 2,none⟩=some (.int .i64 L[k'].2.n):=Cr 2 (by omega)
    have h3:w3.cell? ⟨g,k' * 6 + 3,none⟩=some (.slice A9 L[k'].2.sums.length A6):=Cr 3 (by omega)
    have h4:w3.cell? ⟨g,k' * 6 + 4,none⟩=some (.slice A8 L[k'].2.mins.length Ba):=Cr 4 (by omega)
    have h5:w3.cell? ⟨g,k' * 6 + 5,none⟩=some (.slice A7 L[k'].2.maxs.length A5):=Cr 5 (by omega)
    have Fx:=Hd Bb
    have Dw:=Hd F3
    have Eh:=Hd Eb
    clear Fu Cr Bb Dk F3 Eb
    generalize hr:ckLt x.1 L[k'].1=r at *
    have HR:=Hd hr
    clear hr
    generalize hY:L[k']=y at *
    have Ei:=Hd hY
    clear hY
    go_wp2_with (fail)
    refine Flow.wrf2 (Flow.sp3 [.inl ?_,.inl ?_,.inl ?_,.inl ?_,.inl ?_,.inl ?_,.inl ?_,.inl ?_,.inl ?_,.inl ?_,.inr (isV (.bool r)),.inl (.bool (!r)),.inl (.bool (!r))]) (by kernel_rfl) (by kernel_rfl) ?_ ?_
    rotate_left 10
    ·refine Flow.sm2 ?_
     repeat (first | exact Flow.ln2 | refine Flow.li2 ?_ | refine Flow.li3 (isV_mono _) ?_)
    iterate 10 (refine Flow.tvK rfl (fun K hK=>⟨fun w hw hG => ?_,?_⟩);(have Ef:=Flow.bc4 hw;clear hG hw;unfold Flow.Runs Flow.yields;go_simp;try rfl);go_simp;refine hK _ ?_;clear hK K)
    (refine Flow.tvK2 rfl (fun K hK=>⟨fun w hw hG => ?_,?_⟩);(have HW:=Hd hw;clear hG hw;unfold Flow.Runs Flow.yields;go_simp;refine (Fz.out _ HW.out).mono ?_;rintro e w4 ⟨rfl,Gf⟩;exact ⟨_,rfl,Gf,rfl⟩);intro vz;go_simp;refine hK _ _ ?_;clear hK K)
    (refine Flow.tvK rfl (fun K hK=>⟨fun w hw hG => ?_,?_⟩);(obtain rfl:=(show vz = .bool r by simpa [Flow.upd,isV] using hG 10 (by kernel_rfl));clear hG hw;unfold Flow.Runs Flow.yields;go_simp;try rfl);go_simp;refine hK _ ?_;clear hK K)
    iterate 1 (refine Flow.tvK rfl (fun K hK=>⟨fun w hw hG => ?_,?_⟩);(have Ef:=Flow.bc4 hw;clear hG hw;unfold Flow.Runs Flow.yields;go_simp;try rfl);go_simp;refine hK _ ?_;clear hK K)
    refine Flow.tn2 fun w4 hw4 hG => ?_
    clear hG
    have B4:=Hd (Bt En.out hw4)
    have Ai:=Hd (Bv.out.below hw4)
    have Af:=Hd ((hw4.block _ Dd).trans Bu.out)
    have C6:=Hd ((hw4.block _ C7).trans Eo.out)
    have C2:=Hd (Ep.out.ag (Ag.new _ hw4))
    have Bp:=Hd (B3.out.below hw4)
    have D5:=Hd (Fx.out.ag (Ag.new _ hw4))
    have Dl:=Hd ((hw4.block _ B8).trans Eh.out)
    have Fw:=(cob Af.out).1
    have Hb:w4.cell? ⟨g,k' * 6,none⟩=some (.int .i64 y.1.1):=(hw4.cell (p:=⟨g,k' * 6,none⟩) B8).trans h0
    have Go:w4.cell? ⟨g,k' * 6 + 1,none⟩=some (.slice Bk y.1.2.length Bi):=(hw4.cell (p:=⟨g,k' * 6 + 1,none⟩) B8).trans h1
    have Gi:w4.cell? ⟨g,k' * 6 + 2,none⟩=some (.int .i64 y.2.n):=(hw4.cell (p:=⟨g,k' * 6 + 2,none⟩) B8).trans h2
    have Gg:w4.cell? ⟨g,k' * 6 + 3,none⟩=some (.slice A9 y.2.sums.length A6):=(hw4.cell (p:=⟨g,k' * 6 + 3,none⟩) B8).trans h3
    have Gz:w4.cell? ⟨g,k' * 6 + 4,none⟩=some (.slice A8 y.2.mins.length Ba):=(hw4.cell (p:=⟨g,k' * 6 + 4,none⟩) B8).trans h4
    have G0:w4.cell? ⟨g,k' * 6 + 5,none⟩=some (.slice A7 y.2.maxs.length A5):=(hw4.cell (p:=⟨g,k' * 6 + 5,none⟩) B8).trans h5
    have Gv:g < w4.heap.size:=Nat.lt_of_lt_of_le B8 hw4.size
    have At:w.heap.size < w4.heap.size:=Nat.lt_of_lt_of_le Dd hw4.size
    have Bl:w2.heap.size < w4.heap.size:=Nat.lt_of_lt_of_le C7 hw4.size
    clear hw4 En Bv Bu Eo Ep B3 Fx Eh Fz F5 h0 h1 h2 h3 h4 h5 B8 Dd C7 g0 g1 g2 g3 g4 g5 C0
    cases r
    ·obtain ⟨W5,Gl⟩:∃ W5,w4.alloc (.cells #[.int .i64 y.1.1,.slice Bk y.1.2.length Bi,.int .i64 y.2.n,.slice A9 y.2.sums.length A6,.slice A8 y.2.mins.length Ba,.slice A7 y.2.maxs.length A5] 126)=W5:=⟨_,rfl⟩
     obtain ⟨k5,Fn,Ck⟩:=la2 w4 (.cells #[.int .i64 y.1.1,.slice Bk y.1.2.length Bi,.int .i64 y.2.n,.slice A9 y.2.sums.length A6,.slice A8 y.2.mins.length Ba,.slice A7 y.2.maxs.length A5] 126)
     rw [Gl] at k5 Fn Ck
     have Fv:=(Ck.block _ Bl).trans C6.out
     obtain ⟨⟨g0,g1,g2,g3,g4,g5⟩,_⟩:=can6 Fv
     have Cd:w2.heap.size < W5.heap.size:=by omega
     have Fi:=Hd (Bt B4.out Ck)
     have By:=Hd (Ai.out.below Ck)
     have Ej:=Hd ((Ck.block _ At).trans Af.out)
     have H_d:=Hd (C2.out.ag (Ag.new _ Ck))
     have Fd:=Hd (D5.out.ag (Ag.new _ Ck))
     have Gt:=Hd k5
     have Fk:=Hd (show w4.heap.size < W5.heap.size∧w2.heap.size < w4.heap.size from ⟨by omega,Bl⟩)
     clear k5 Fn Ck B4 Ai Af C6 C2 Bp D5 Dl Fv
     go_simp
     go_wp2_with (fail)
     have hp:=Tess.fold_pay (C:=C.take k) (M:=M) (fun z hz=>(hM z (List.mem_of_mem_take hz)).1) y (by rw [← B6.out,← Ei.out];exact List.getElem_mem hkL)
     have Ga:y.2.n + x.2.n≤1000000:=by
      have:=Tess.take_sum (fun z hz=>(hM z hz).1) hlt
      rw [Ed.out] at this
      omega
     have Er:=nodup_three (by have:=(np2 By.out.nod).1 _ (List.getElem_mem Et);rw [Dw.out] at this;exact this)
     have Ff:∀ b,b ∈ muts [.int .i64 y.1.1,.slice Bk y.1.2.length Bi,.int .i64 y.2.n,.slice A9 y.2.sums.length A6,.slice A8 y.2.mins.length Ba,.slice A7 y.2.maxs.length A5]→b < wr.heap.size:=fun b hb=>(F6.out k' Et b (by rw [Dw.out];exact hb)).2
     have E3:wr.heap.size≤W1.heap.size:=C5.out.size
     have Cs:=Cz.out.2
     have G6:=Fk.out
     have Ay:=By.out.free _ (List.getElem_mem Et)
     rw [Dw.out] at Ay
     obtain ⟨Hr,Hq,Hw,Ht,Fl,_,Ez⟩:=H_d.out
     simp only [List.cons.injEq,and_true] at Fl
     obtain ⟨_,rfl,_,rfl,rfl,rfl⟩:=Fl
     obtain ⟨Hk,Hv,Hm,Hi,Fq,_,Ex⟩:=Fd.out
     simp only [List.cons.injEq,and_true] at Fq
     obtain ⟨_,rfl,_,rfl,rfl,rfl⟩:=Fq
     obtain ⟨S,hS⟩:∃ S:Nat→Prop,S=fun b=>b=w4.heap.size∨b ∈ muts [.slice A9 y.2.sums.length A6,.slice A8 y.2.mins.length Ba,.slice A7 y.2.maxs.length A5]:=⟨_,rfl⟩
     have Fb:∀ b,b ∈ muts [.slice A9 y.2.sums.length A6,.slice A8 y.2.mins.length Ba,.slice A7 y.2.maxs.length A5]→b < wr.heap.size:=fun b hb=>Ff b (by
      obtain ⟨v,hv,e⟩:=List.mem_filterMap.1 hb
      exact List.mem_filterMap.2 ⟨v,by simp only [List.mem_cons,List.not_mem_nil,or_false] at hv ⊢;rcases hv with rfl | rfl | rfl <;> simp,e⟩)
     have Ew:∀ b,W1.heap.size≤b∧b < w2.heap.size→¬ S b:=fun b hb e=>by
      rw [hS] at e
      rcases e with e | e
      ·omega
      ·have:=Fb b e;omega
     have Cn:Adds w4.heap.size M S y.1.1 y.2.n (.slice Bk y.1.2.length Bi) (.slice A9 y.2.sums.length A6) (.slice A8 y.2.mins.length Ba) (.slice A7 y.2.maxs.length A5) (.slice s3 x.2.sums.length t3) (.slice s4 x.2.mins.length t4) (.slice s5 x.2.maxs.length t5) y.2.sums y.2.mins y.2.maxs x.2.sums x.2.mins x.2.maxs W5:=
      ⟨Gt.out,Ex.sums.weak fun _ _=>trivial,Ex.mins.weak fun _ _=>trivial,Ex.maxs.weak fun _ _=>trivial,Ay _ (by simp),Ay _ (by simp),Ay _ (by simp),Ez.sums.weak Ew,Ez.mins.weak Ew,Ez.maxs.weak Ew⟩
     have Fj:Wr w4.heap.size (.slice A9 y.2.sums.length A6) (.slice A8 y.2.mins.length Ba) (.slice A7 y.2.maxs.length A5) S:=by
      have Hs:wr.heap.size≤w4.heap.size:=by omega
      refine ⟨by rw [hS];exact .inl rfl,fun b hb => ?_,fun b hb => ?_,fun b hb => ?_,Er.1,Er.2.1,Er.2.2⟩
      all_goals
       have Fo:b ∈ muts [.slice A9 y.2.sums.length A6,.slice A8 y.2.mins.length Ba,.slice A7 y.2.maxs.length A5]:=mem_muts (by simp) hb
       exact ⟨by rw [hS];exact .inr Fo,by have:=Fb b Fo;omega⟩
     have Ev:=hp.1.len
     have B7:=hx.len
     have Gk:=hp.1.one
     have G1:=hx.one
     have Hc:=Hd (add_any w4.heap.size M S y.1.1 y.2.n x.1.1 x.2.n _ _ _ _ _ _ _ y.2.sums y.2.mins y.2.maxs x.2.sums x.2.mins x.2.maxs Bk sd y.1.2.length Bi x.1.2.length td W5 Cn Fj rfl Ev.1 Ev.2.1 Ev.2.2 B7.1 B7.2.1 B7.2.2 ⟨by omega,by omega⟩ (Tess.pay_sum hp.1 hx Ga))
     have F4:=Hd hS
     clear Cn Fj Ev B7 Gk G1 hS Ew Fb Ez Ex Ay G6 Cs E3 Ff Er Ga hp
     refine Hc.out.mono ?_
     rintro e w6 ⟨rfl,Ey,C9⟩
     obtain ⟨g2,Gm,Ho,D8,G5,C1,_,⟨Gu,Ci⟩,⟨_,Dh⟩,Cm,Dm⟩:=By.out.row hkL
     simp only [Value.slice.injEq,Option.some.injEq,Addr.mk.injEq] at D8
     obtain ⟨⟨rfl,_⟩,_,rfl⟩:=D8
     rw [Dw.out] at Dh
     subst Dh
     have F2:∀ b ∈ muts [.int .i64 y.1.1,.slice Bk y.1.2.length Bi,.int .i64 y.2.n,.slice A9 y.2.sums.length A6,.slice A8 y.2.mins.length Ba,.slice A7 y.2.maxs.length A5],w.heap.size + 1≤b∧b≠g:=fun b hb=>Cm.iM2 b hb
     have Dn:∀ b,S b→w.heap.size + 1≤b∧b≠g:=fun b hb=>by
      rw [F4.out] at hb
      rcases hb with rfl | hb
      ·exact ⟨by omega,by omega⟩
      ·refine F2 b ?_
       obtain ⟨v,hv,e⟩:=List.mem_filterMap.1 hb
       exact List.mem_filterMap.2 ⟨v,by simp only [List.mem_cons,List.not_mem_nil,or_false] at hv ⊢;rcases hv with rfl | rfl | rfl <;> simp,e⟩
     have Cv:=(C9.block g C1 fun e=>(Dn g e).2 rfl).trans Ci
     have B5:=(C9.block w.heap.size (Array.getElem?_eq_some_iff.1 Ej.out).1 fun e=>by have:=(Dn _ e).1;omega).trans Ej.out
     have Hj:=(cob B5).1
     obtain ⟨⟨m0,m1,m2,m3,m4,m5⟩,_⟩:=can6 Ey.box
     have z:∀ i,i < 6→w6.cell? ⟨g,k' * 6 + i,none⟩=_:=fun i hi=>(World.cell?_of_block (a:=⟨g,k' * 6 + i,none⟩) (C9.block g C1 fun e=>(Dn g e).2 rfl)).trans (Dm i hi)
     have z0:w6.cell? ⟨g,k' * 6,none⟩=some (.int .i64 y.1.1):=z 0 (by omega)
     have z1:w6.cell? ⟨g,k' * 6 + 1,none⟩=some (.slice Bk y.1.2.length Bi):=z 1 (by omega)
     have z2:w6.cell? ⟨g,k' * 6 + 2,none⟩=some (.int .i64 y.2.n):=z 2 (by omega)
     have z3:w6.cell? ⟨g,k' * 6 + 3,none⟩=some (.slice A9 y.2.sums.length A6):=z 3 (by omega)
     have z4:w6.cell? ⟨g,k' * 6 + 4,none⟩=some (.slice A8 y.2.mins.length Ba):=z 4 (by omega)
     have z5:w6.cell? ⟨g,k' * 6 + 5,none⟩=some (.slice A7 y.2.maxs.length A5):=z 5 (by omega)
     have q0:=frozen_of_row w6 g (k' * 6) _ _ Cv
     have q1:=frozen_of_row w6 g (k' * 6 + 1) _ _ Cv
     have q2:=frozen_of_row w6 g (k' * 6 + 2) _ _ Cv
     have q3:=frozen_of_row w6 g (k' * 6 + 3) _ _ Cv
     have q4:=frozen_of_row w6 g (k' * 6 + 4) _ _ Cv
     have q5:=frozen_of_row w6 g (k' * 6 + 5) _ _ Cv
     have Ha:g < w6.heap.size:=Nat.lt_of_lt_of_le C1 C9.size
     have Hf:w4.heap.size < w6.heap.size:=(Array.getElem?_eq_some_iff.1 Ey.box).1
     have Hl:w.heap.size < w6.heap.size:=(Array.getElem?_eq_some_iff.1 B5).1
     have C3:=Hd Ey
     have Fy:=Hd C9
     have E5:=Hd B5
     have G8:=Hd Dn
     clear Ey C9 B5 Dn F2 Cv z Dm Cm Ci g0 g1 g2 g3 g4 g5 Fw Hb Go Gi Gg Gz G0
     go_simp
     go_wp2_with (fail)
     have Bg:us.length=L.length:=By.out.own.len
     have h5:PS (w.heap.size + 1) W5 (.slice (some ⟨g,0,none⟩) us.length lc) us L:=by rw [Bg];exact By.out
     have h7:=h5.replace (y:=y.2.add x.2) (n':=y.2.n + x.2.n) hkL Fy.out Et Dw.out (by rw [Ei.out]) (fun b hb=>by rw [F4.out] at hb;exact hb)
      (.inr ⟨fun j hj hb=>by have:=(F6.out j hj _ hb).2;have:=Cz.out.2;have:=C5.out.size;have:=Fk.out.2;omega,by omega⟩)
      C3.out.ls C3.out.lm C3.out.lx C3.out.fs C3.out.fm C3.out.fx rfl
     rw [Bg] at h7
     have Dq:L.set k' (L[k'].1,y.2.add x.2)=fold ckLt Pay.add (C.take (k + 1)):=by
      rw [Tess.ft2 hlt,Ed.out,← B6.out]
      have e1:ckLt L[k'].1 x.1=false:=by
       cases hh:ckLt L[k'].1 x.1
       ·rfl
       ·have:=(C4.out k' hkL).1 hh;omega
      have e2:ckLt x.1 L[k'].1=false:=by rw [Ei.out];exact HR.out
      rw [Tess.Kl.ins_at hkL (fun j hj hjk=>(C4.out j hj).2 hjk) e1 e2,Ei.out]
     rw [Dq] at h7
     have Fs:∀ i (u:Value) (V:World),Below w.heap.size w V→Below w.heap.size w (V.setCell ⟨g,i,none⟩ u):=fun i u V hV=>hV.setCell (by show w.heap.size≤g;omega) _
     have Fh:Below w.heap.size w w6:=(Bt HB.out Fi.out).trans (Fy.out.below (Bt HB.out Fi.out).size fun b hb=>by have:=(G8.out b hb).1;omega)
     have A4:=Hd h7
     have Gq:=Hd Fh
     have De:=Hd Fs
     clear h7 Fh Fs h5 Dq
     have E7:=(so3 (k:=k') (.int .i64 y.1.1) (.slice Bk y.1.2.length Bi) (.int .i64 (y.2.n + x.2.n)) (.slice A9 y.2.sums.length A6) (.slice A8 y.2.mins.length Ba) (.slice A7 y.2.maxs.length A5) (show w.heap.size≠g by omega)).trans E5.out
     have E4:=Hd E7
     go_roundw
     case rel=>exact ⟨k + 1,_,_,by omega,by go_num,E4.out,A4.out,fun h=>by omega,De.out _ _ _ (De.out _ _ _ (De.out _ _ _ (De.out _ _ _ (De.out _ _ _ (De.out _ _ _ Gq.out)))))⟩
     case measure=>simp [intOf];omega
    ·obtain ⟨i0,hi,Dz,Bf,D4⟩:=info_parts iC2
     obtain ⟨wm,Ac,Cc,B1,Cg,A2⟩:=rms (P:=Tryz.prog) w4 41 83 i0 _ 6 Tryz.underlying41 hi Dz Bf .i64 .i64 k' (L.length + 1) (by omega) (by rw [D4];omega) (by unfold maxLen;omega)
     simp only [Int.natCast_add,Int.natCast_one] at Cc
     have fm:=(cob ((A2.block _ At).trans Af.out)).1
     have Dc:w.heap.size < wm.heap.size:=Nat.lt_of_lt_of_le At A2.size
     have Bg:us.length=L.length:=Ai.out.own.len
     have Aj:=Ai.out.own.lens cn2
     have Ar:=Ai.out.own.ones cn2
     have Cu:=flat_take (k:=k') Aj (by omega)
     have Ct:=fl2 us Aj
     have Ax:w4.ownsRow (w.heap.size + 1) 83 6 (.slice (some ⟨g,0,none⟩) us.length lc) us.length us.flatten:=by have:=Ai.out.own.own;rwa [← Bg] at this
     have A0:=ob2 Ax A2
     obtain ⟨Aw,Ao⟩:∃ Aw,Aw=us.flatten.take (k' * 6):=⟨_,rfl⟩
     have Av:Aw.length=k' * 6:=by rw [Ao,List.length_take,Ct];omega
     have Bm:=rcr (P:=Tryz.prog) wm 41 41 3 83 w4.heap.size 0 k' (L.length + 1) 6 ⟨g,0,none⟩ k' k' Ac 83 Aw Tryz.underlying41 (by rw [hi];simp [Bf]) B1 (by rw [Av,show Nat.min k' k'=k' from Nat.min_self k']) (fun j v hv=>by
      have hj:j < k' * 6:=by rw [← Av];exact (List.getElem?_eq_some_iff.1 hv).1
      rw [Addr.add_lit,Nat.zero_add,A0.cellAt j (by omega),← hv,Ao,List.getElem?_take,if_pos hj]) (by omega) (fun v hv=>Ar v (List.mem_of_mem_take (by rw [← Ao];exact hv)))
     rw [show Nat.min k' k'=k' from Nat.min_self k'] at Bm
     obtain ⟨wc,B2⟩:∃ wc,wm.setRow w4.heap.size (Ac.toList.take 0 ++ Aw ++ Ac.toList.drop (0 + Aw.length)).toArray=wc:=⟨_,rfl⟩
     obtain ⟨Ab,Ak⟩:∃ Ab,Ab=over Ac 0 Aw:=⟨_,rfl⟩
     have D7:wc.heap[w4.heap.size]? = some (.cells Ab 83 (0,0)):=by rw [← B2,Ak];exact setRow_heap wm _ Ac _ _ _ B1
     have Bs:Ab.size=(L.length + 1) * 6:=by rw [Ak,os4 (by omega),Cg]
     have Br:Ab.toList.take (k' * 6)=(us.take k').flatten:=by
      have:=ot2 (cur:=Ac) (n:=0) (cs:=Aw) (by omega)
      rw [Nat.zero_add,Av,← Ak] at this
      rw [this,Ao,Cu.1];simp
     have Bo:Below w4.heap.size w4 wc:=A2.trans (by rw [← B2];exact ⟨rfl,rfl,rfl,by rw [setRow_size];exact Nat.le_refl _,fun j hj=>setRow_other wm _ j _ (by omega)⟩)
     rw [B2] at Bm
     have Cy:=Hd Bg
     have Fc:=Hd Aj
     have E0:=Hd Ar
     have Eu:=Hd Cu
     have Ft:=Hd Ct
     have Cf:=Hd D7
     have A1:=Hd Bs
     have Bx:=Hd Br
     have Bc:=Hd Bo
     have D9:w.heap.size < wc.heap.size:=Nat.lt_of_lt_of_le At Bo.size
     clear B2 B1 Cg A2 Ak Bg Aj Ar Cu Ct D7 Bs Br Ax A0 Av Ao
     have fc:=(cob ((Bo.block _ At).trans Af.out)).1
     clear Bo
     have Do:=Hd Bm
     clear Bm
     go_simp
     go_wp2_with (fail)
     rw [Do.out]
     clear Cc fm Dc
     go_simp
     go_wp2_with (fail)
     obtain ⟨CS,Ce⟩:∃ CS:List Value,CS=[.int .i64 x.1.1,.slice sd x.1.2.length td,.int .i64 x.2.n,.slice s3 x.2.sums.length t3,.slice s4 x.2.mins.length t4,.slice s5 x.2.maxs.length t5]:=⟨_,rfl⟩
     have Aq:=Hd Ce
     clear Ce
     have Dg:=Hd ((Bc.out.block _ Bl).trans C6.out)
     have Cd:w2.heap.size < wc.heap.size:=Nat.lt_of_lt_of_le Bl Bc.out.size
     have Bn:=Hd ((Bc.out.block _ At).trans Af.out)
     have Bd:=Hd (show w.heap.size < w4.heap.size∧w2.heap.size < w4.heap.size∧w4.heap.size < wc.heap.size from ⟨At,Bl,(Array.getElem?_eq_some_iff.1 Cf.out).1⟩)
     have Du:=Hd (fun V (hw:(one w4.heap.size (.cells Ab 83 (0,0)) (.cells (over Ab (k' * 6) CS) 83 (0,0))).r wc V)=>(can6 ((ob3 hw Cd (by have:=Bd.out;omega)).trans Dg.out)).1)
     have Dx:=Hd (fun V (hw:(one w4.heap.size (.cells Ab 83 (0,0)) (.cells (over Ab (k' * 6) CS) 83 (0,0))).r wc V)=>(cob ((ob3 hw D9 (by have:=Bd.out;omega)).trans Bn.out)).1)
     have Be:k'≤L.length:=Gx
     clear Cd
     refine FlowR.wrf (R:=one w4.heap.size (.cells Ab 83 (0,0)) (.cells (over Ab (k' * 6) CS) 83 (0,0))) 8 (FlowR.sp3 44 (fun _ => .inl undef) (.inl ?_ :: .inl ?_ :: .inl ?_ :: .inr (newRow w4.heap.size CS) :: .inr (tT2 w4.heap.size (.cells (over Ab (k' * 6) CS) 83 (0,0)) (.slice (some ⟨w4.heap.size,0,none⟩) (k' + 1) (L.length + 1))) :: .inl ?_ :: .inl ?_ :: .inl ?_ :: [])) (fun _=>0) (FlowR.so6 (by kernel_rfl)) (by kernel_rfl) (by kernel_rfl) ?_ ?_
     rotate_left 6
     ·refine FlowR.sm2 (fun x=>FlowR.mi _) ?_
      repeat (first | exact FlowR.ln2 | refine FlowR.li2 ?_ | refine FlowR.li3 (nRm _) ?_ | refine FlowR.li3 (tTm _) ?_)
     all_goals try simp only [List.take_succ_cons,List.take_zero,List.drop_succ_cons,List.drop_zero]
     iterate 3 (refine FlowR.tvK rfl (fun K hK=>⟨fun V hw hG => ?_,?_⟩);(obtain ⟨t1,t2,t3,t4,t5,t6⟩:=Du.out V hw;clear hG hw;unfold FlowR.Runs FlowR.yields;go_simp;try rfl);go_simp;refine hK _ ?_;clear hK K)
     (refine FlowR.tvK2 rfl (fun K hK=>⟨fun V hw hG => ?_,?_⟩);(have Dv:w4.heap.size < V.heap.size:=(Nat.lt_of_lt_of_le Bd.out.2.2 hw.2.2.2.1);clear hG hw;unfold FlowR.Runs FlowR.yields;go_simp;exact ⟨oa4 Dv _,(⟨V.heap.size,rfl,by simp,by omega,fun j u hu=>by rw [cell_of_row _ _ _ _ _ _ (heap_alloc_new _ _)];rw [Aq.out] at hu;simpa using hu⟩:newRow w4.heap.size CS (.slice (some ⟨V.heap.size,0,none⟩) 1 1) (V.alloc _))⟩);intro vr;go_simp;refine hK _ _ ?_;clear hK K)
     (refine FlowR.tvK2 rfl (fun K hK=>⟨fun V hw hG => ?_,?_⟩);(have Cl:=(show newRow w4.heap.size CS vr V by simpa [FlowR.upd] using hG 3 (by kernel_rfl));obtain ⟨V2,Bw,Ec,D2⟩:=oa3 (P:=Tryz.prog) (ty:=41) (t:=41) (n:=k') (cap:=L.length + 1) Tryz.underlying41 hi Bf hw Cf.out (by rw [Aq.out];rfl) (by rw [Aq.out];intro u hu;simp only [List.mem_cons,List.not_mem_nil,or_false] at hu;rcases hu with rfl | rfl | rfl | rfl | rfl | rfl <;> rfl) A1.out (by omega) Cl;clear hG hw Cl;exact ra2 (t:=41) (.tmp 62) (.tmp 65) rfl rfl rfl rfl Bw Ec D2);intro vt;go_simp;refine hK _ _ ?_;clear hK K)
     iterate 3 (refine FlowR.tvK rfl (fun K hK=>⟨fun V hw hG => ?_,?_⟩);(have Ef:=Dx.out V hw;clear hG hw;unfold FlowR.Runs FlowR.yields;go_simp;try rfl);go_simp;refine hK _ ?_;clear hK K)
     refine FlowR.tn2 fun w8 hw8 hG => ?_
     obtain ⟨rfl,Ch⟩:=(show tT2 w4.heap.size (.cells (over Ab (k' * 6) CS) 83 (0,0)) (.slice (some ⟨w4.heap.size,0,none⟩) (k' + 1) (L.length + 1)) vt w8 by simpa [FlowR.upd] using hG 4)
     clear hG
     have Bj:Below w4.heap.size w4 w8:=Bc.out.trans (ob4 hw8 (Nat.le_refl _) (by have:=Bd.out;omega))
     have Az:CS.length=6:=by rw [Aq.out];rfl
     have Am:=oo (N:=w.heap.size + 1) (n:=k') (cap:=L.length + 1) (by omega) Ch Az A1.out (by omega) (by unfold maxLen;omega) Bx.out
     have B9:=Ai.out.below Bj
     have A3:∀ j u,(us.drop k').flatten[j]? = some u→w8.cell? ((⟨g,k' * 6,none⟩:Addr).add j)=some u:=fun j u hu=>by
      have ho:=B9.own.own
      rw [← Cy.out] at ho
      rw [← Eu.out.2,List.getElem?_drop] at hu
      have Em:k' * 6 + j < us.flatten.length:=(List.getElem?_eq_some_iff.1 hu).1
      rw [Addr.add_lit,ho.cellAt (k' * 6 + j) (by rw [Ft.out] at Em;exact Em)]
      exact hu
     have D0:(us.drop k').flatten.length=(L.length - k') * 6:=by rw [fl2 _ fun u hu=>Fc.out u (List.mem_of_mem_drop hu),List.length_drop,Cy.out]
     have Ds:∀ u ∈ (us.drop k').flatten,u.oneCell'=true:=fun u hu=>E0.out u (by rw [← Eu.out.2] at hu;exact List.mem_of_mem_drop hu)
     have e9:k' + 1 + (L.length - k')=L.length + 1:=by omega
     refine wpList_append_own_spare _ rfl _ _ 41 rfl (w.heap.size + 1) 83 i0 6 Tryz.underlying41 hi Bf w4.heap.size (k' + 1) (L.length + 1) _ rfl Am ⟨g,k' * 6,none⟩ (L.length - k') (lc - k') (us.drop k').flatten (by simp only [Act.eval];go_simp;intro e;omega) D0 A3 Ds (by omega) ?_
     intro w9 Ah Aa
     rw [e9] at Ah ⊢
     have Au:Below w4.heap.size w4 w9:=Bj.trans ⟨Aa.1,Aa.2,Aa.3,Aa.4,fun j hj=>Aa.5 j (by have:=Bj.size;omega) (by intro e;cases e;omega)⟩
     have Dj:w.heap.size < wr.heap.size:=(Array.getElem?_eq_some_iff.1 D1.out).1
     have Ee:=Cz.out.2
     have Cs:=C5.out.size
     have As:=C8.out
     rw [← B6.out] at As
     have Cj:CA2 (fun b=>w.heap.size + 1≤b∧wr.heap.size≤b∧(Value.slice (some ⟨w4.heap.size,0,none⟩) (L.length + 1) (L.length + 1)).ownBlock≠some b) w9 CS x:=by
      rw [Aq.out]
      exact (C2.out.ag (Ag.new _ Au)).weak fun b hb=>⟨by have:=hb.1;omega,by have:=hb.1;omega,fun e=>by have h1:w4.heap.size=b:=Option.some.inj e;have h2:=hb.2;omega⟩
     have An:=PS.insert (k:=k') As (Bt B4.out Au) Be (v':=.slice (some ⟨w4.heap.size,0,none⟩) (L.length + 1) (L.length + 1)) (fun b e=>by have:=Option.some.inj e;change w4.heap.size=b at this;omega) Ah Cj (by rw [Aq.out];exact Cq.out) (by rw [Aq.out];exact Bp.out.below Au)
     have Ad:=An.setBox (g:=w.heap.size) (i:=0) (by omega) (.slice (some ⟨w4.heap.size,0,none⟩) (L.length + 1) (L.length + 1))
     have Al:L.take k' ++ x :: L.drop k'=fold ckLt Pay.add (C.take (k + 1)):=by
      rw [Tess.ft2 hlt,Ed.out,← B6.out]
      exact (Tess.Kl.ih4 Be (fun j hj hjk=>(C4.out j hj).2 hjk) (fun h=>⟨by
       cases hh:ckLt L[k'].1 x.1
       ·rfl
       ·have:=(C4.out k' h).1 hh;omega,by rw [Ei.out];exact HR.out⟩)).symm
     rw [Al] at Ad
     have Ae:=(Au.block _ At).trans Af.out
     have Co:=heap_setCell_same w9 w.heap.size 0 _ _ (.slice (some ⟨w4.heap.size,0,none⟩) (L.length + 1) (L.length + 1)) Ae
     have A4:=Hd Ad
     have Ek:=Hd Co
     have Df:=Hd (show Below w.heap.size w (w9.setCell ⟨w.heap.size,0,none⟩ (.slice (some ⟨w4.heap.size,0,none⟩) (L.length + 1) (L.length + 1))) from (Bt HB.out (Bt B4.out Au)).setCell (Nat.le_refl _) _)
     have Gc:=(cob Ae).1
     have F1:=(cob Ae).2
     have Fp:w.heap.size < w9.heap.size:=(Array.getElem?_eq_some_iff.1 Ae).1
     clear Aa Dj Ee Cs As Cj An Ad Co Ae Ah Au D0 Ds A3 B9 Am Az Bj Ch hw8 Al
     go_simp
     go_wp2_with (fail)
     go_roundw
     case rel=>exact ⟨k + 1,_,_,by omega,by go_num,Ek.out,A4.out,fun h=>by omega,Df.out⟩
     case measure=>simp [intOf];omega
   ·have E1:k'=L.length:=by omega
    subst E1
    clear hkL
    have E6:¬ (L.length:Int) < (L.length:Int):=by omega
    clear g0 g1 g2 g3 g4 g5
    go_wp2_with (fail)
    refine Flow.wrf2 (Flow.sp3 [.inl ?_,.inl ?_,.inl ?_,.inl (.bool false),.inl (.bool false),.inl undef,.inl undef,.inl undef,.inl undef,.inl undef,.inl undef,.inl undef,.inl (.bool false)]) (by kernel_rfl) (by kernel_rfl) ?_ ?_
    rotate_left 3
    ·refine Flow.sm2 ?_
     repeat (first | exact Flow.ln2 | refine Flow.li2 ?_)
    iterate 13 (refine Flow.tvK rfl (fun K hK=>⟨fun w hw hG => ?_,?_⟩);(have Ef:=Flow.bc4 hw;clear hG hw;unfold Flow.Runs Flow.yields;go_simp;try rfl);go_simp;refine hK _ ?_;clear hK K)
    refine Flow.tn2 fun w4 hw4 hG => ?_
    clear hG
    have B4:=Hd (Bt En.out hw4)
    have Ai:=Hd (Bv.out.below hw4)
    have Af:=Hd ((hw4.block _ Dd).trans Bu.out)
    have C6:=Hd ((hw4.block _ C7).trans Eo.out)
    have C2:=Hd (Ep.out.ag (Ag.new _ hw4))
    have Bp:=Hd (B3.out.below hw4)
    have Fw:=(cob Af.out).1
    have At:w.heap.size < w4.heap.size:=Nat.lt_of_lt_of_le Dd hw4.size
    have Bl:w2.heap.size < w4.heap.size:=Nat.lt_of_lt_of_le C7 hw4.size
    have Gn:L.length≤lc:=by
     obtain ⟨_,_,e,h1,_⟩:=Ai.out.shape
     cases e
     exact h1
    clear hw4 En Bv Bu Eo Ep B3 F5 Dd C7 C0
    rcases G3.out with ⟨rfl,rfl,G2⟩ | ⟨g,rfl,_,_⟩
    ·obtain rfl:L=[]:=List.length_eq_zero_iff.1 G2
     simp only [List.length_nil,Int.natCast_zero] at *
     obtain ⟨i0,hi,Dz,Bf,D4⟩:=info_parts iC2
     obtain ⟨wm,Ac,Cc,B1,Cg,A2⟩:=rms (P:=Tryz.prog) w4 41 83 i0 _ 6 Tryz.underlying41 hi Dz Bf .i64 .i64 0 (0 + 1) (by omega) (by rw [D4];omega) (by unfold maxLen;omega)
     replace Cc:Sem.run Tryz.prog (Instr.makeSlice 41 (.int .i64 0) (.int .i64 1)) w4 = .ok (.slice (some ⟨w4.heap.size,0,none⟩) 0 1) wm:=Cc
     have fm:=(cob ((A2.block _ At).trans Af.out)).1
     have Dc:w.heap.size < wm.heap.size:=Nat.lt_of_lt_of_le At A2.size
     have Bg:us.length=0:=Ai.out.own.len
     have Bm:=rcn (P:=Tryz.prog) wm 41 41 3 83 (some ⟨w4.heap.size,0,none⟩) 0 1 6 Tryz.underlying41 (by rw [hi];simp [Bf])
     have Do:=Hd Bm
     have Cy:=Hd Bg
     have Cf:=Hd B1
     have A1:=Hd (show Ac.size=(0 + 1) * 6 from Cg)
     have Bx:=Hd (show Ac.toList.take (0 * 6)=(us.take 0).flatten by simp)
     have Bc:=Hd A2
     have Bo:=A2
     have D9:w.heap.size < wm.heap.size:=Dc
     clear Bg Bm B1 Cg A2
     clear Bo
     go_simp
     go_wp2_with (fail)
     rw [Do.out]
     clear Cc Dc
     go_simp
     go_wp2_with (fail)
     obtain ⟨CS,Ce⟩:∃ CS:List Value,CS=[.int .i64 x.1.1,.slice sd x.1.2.length td,.int .i64 x.2.n,.slice s3 x.2.sums.length t3,.slice s4 x.2.mins.length t4,.slice s5 x.2.maxs.length t5]:=⟨_,rfl⟩
     have Aq:=Hd Ce
     clear Ce
     have Dg:=Hd ((Bc.out.block _ Bl).trans C6.out)
     have Cd:w2.heap.size < wm.heap.size:=Nat.lt_of_lt_of_le Bl Bc.out.size
     have Bn:=Hd ((Bc.out.block _ At).trans Af.out)
     have Bd:=Hd (show w.heap.size < w4.heap.size∧w2.heap.size < w4.heap.size∧w4.heap.size < wm.heap.size from ⟨At,Bl,(Array.getElem?_eq_some_iff.1 Cf.out).1⟩)
     have Du:=Hd (fun V (hw:(one w4.heap.size (.cells Ac 83 (0,0)) (.cells (over Ac (0 * 6) CS) 83 (0,0))).r wm V)=>(can6 ((ob3 hw Cd (by have:=Bd.out;omega)).trans Dg.out)).1)
     have Dx:=Hd (fun V (hw:(one w4.heap.size (.cells Ac 83 (0,0)) (.cells (over Ac (0 * 6) CS) 83 (0,0))).r wm V)=>(cob ((ob3 hw D9 (by have:=Bd.out;omega)).trans Bn.out)).1)
     have Be:0≤([]:List (CK×Pay)).length:=Nat.le_refl _
     clear Cd
     refine FlowR.wrf (R:=one w4.heap.size (.cells Ac 83 (0,0)) (.cells (over Ac (0 * 6) CS) 83 (0,0))) 8 (FlowR.sp3 44 (fun _ => .inl undef) (.inl ?_ :: .inl ?_ :: .inl ?_ :: .inr (newRow w4.heap.size CS) :: .inr (tT2 w4.heap.size (.cells (over Ac (0 * 6) CS) 83 (0,0)) (.slice (some ⟨w4.heap.size,0,none⟩) (0 + 1) (0 + 1))) :: .inl ?_ :: .inl ?_ :: .inl ?_ :: [])) (fun _=>0) (FlowR.so6 (by kernel_rfl)) (by kernel_rfl) (by kernel_rfl) ?_ ?_
     rotate_left 6
     ·refine FlowR.sm2 (fun x=>FlowR.mi _) ?_
      repeat (first | exact FlowR.ln2 | refine FlowR.li2 ?_ | refine FlowR.li3 (nRm _) ?_ | refine FlowR.li3 (tTm _) ?_)
     all_goals try simp only [List.take_succ_cons,List.take_zero,List.drop_succ_cons,List.drop_zero]
     iterate 3 (refine FlowR.tvK rfl (fun K hK=>⟨fun V hw hG => ?_,?_⟩);(obtain ⟨t1,t2,t3,t4,t5,t6⟩:=Du.out V hw;clear hG hw;unfold FlowR.Runs FlowR.yields;go_simp;try rfl);go_simp;refine hK _ ?_;clear hK K)
     (refine FlowR.tvK2 rfl (fun K hK=>⟨fun V hw hG => ?_,?_⟩);(have Dv:w4.heap.size < V.heap.size:=(Nat.lt_of_lt_of_le Bd.out.2.2 hw.2.2.2.1);clear hG hw;unfold FlowR.Runs FlowR.yields;go_simp;exact ⟨oa4 Dv _,(⟨V.heap.size,rfl,by simp,by omega,fun j u hu=>by rw [cell_of_row _ _ _ _ _ _ (heap_alloc_new _ _)];rw [Aq.out] at hu;simpa using hu⟩:newRow w4.heap.size CS (.slice (some ⟨V.heap.size,0,none⟩) 1 1) (V.alloc _))⟩);intro vr;go_simp;refine hK _ _ ?_;clear hK K)
     (refine FlowR.tvK2 rfl (fun K hK=>⟨fun V hw hG => ?_,?_⟩);(have Cl:=(show newRow w4.heap.size CS vr V by simpa [FlowR.upd] using hG 3 (by kernel_rfl));obtain ⟨V2,Bw,Ec,D2⟩:=oa3 (P:=Tryz.prog) (ty:=41) (t:=41) (n:=0) (cap:=0 + 1) Tryz.underlying41 hi Bf hw Cf.out (by rw [Aq.out];rfl) (by rw [Aq.out];intro u hu;simp only [List.mem_cons,List.not_mem_nil,or_false] at hu;rcases hu with rfl | rfl | rfl | rfl | rfl | rfl <;> rfl) A1.out (by omega) Cl;clear hG hw Cl;exact ra2 (t:=41) (.tmp 62) (.tmp 65) rfl rfl rfl rfl Bw Ec D2);intro vt;go_simp;refine hK _ _ ?_;clear hK K)
     iterate 3 (refine FlowR.tvK rfl (fun K hK=>⟨fun V hw hG => ?_,?_⟩);(have Ef:=Dx.out V hw;clear hG hw;unfold FlowR.Runs FlowR.yields;go_simp;try rfl);go_simp;refine hK _ ?_;clear hK K)
     refine FlowR.tn2 fun w8 hw8 hG => ?_
     obtain ⟨rfl,Ch⟩:=(show tT2 w4.heap.size (.cells (over Ac (0 * 6) CS) 83 (0,0)) (.slice (some ⟨w4.heap.size,0,none⟩) (0 + 1) (0 + 1)) vt w8 by simpa [FlowR.upd] using hG 4)
     clear hG
     have Bj:Below w4.heap.size w4 w8:=Bc.out.trans (ob4 hw8 (Nat.le_refl _) (by have:=Bd.out;omega))
     have Az:CS.length=6:=by rw [Aq.out];rfl
     have Am:=oo (N:=w.heap.size + 1) (n:=0) (cap:=0 + 1) (by omega) Ch Az A1.out (by omega) (by unfold maxLen;omega) Bx.out
     refine wLa rfl _ _ 41 rfl 83 i0 Tryz.underlying41 hi ⟨w4.heap.size,0,none⟩ (0 + 1) (0 + 1) rfl rfl (Nat.le_refl _) ?_
     have Ah:w8.ownsRow (w.heap.size + 1) 83 6 (.slice (some ⟨w4.heap.size,0,none⟩) (0 + 1) (0 + 1)) (([]:List (CK×Pay)).length + 1) ((us.take 0).flatten ++ CS ++ (us.drop 0).flatten):=by
      have:us=[]:=List.length_eq_zero_iff.1 Cy.out
      subst this
      simpa using Am
     have Au:=Bj
     have Dj:w.heap.size < wr.heap.size:=(Array.getElem?_eq_some_iff.1 D1.out).1
     have Ee:=Cz.out.2
     have Cs:=C5.out.size
     have As:=C8.out
     rw [← B6.out] at As
     have Cj:CA2 (fun b=>w.heap.size + 1≤b∧wr.heap.size≤b∧(Value.slice (some ⟨w4.heap.size,0,none⟩) (0 + 1) (0 + 1)).ownBlock≠some b) w8 CS x:=by
      rw [Aq.out]
      exact (C2.out.ag (Ag.new _ Au)).weak fun b hb=>⟨by have:=hb.1;omega,by have:=hb.1;omega,fun e=>by have h1:w4.heap.size=b:=Option.some.inj e;have h2:=hb.2;omega⟩
     have An:=PS.insert (k:=0) As (Bt B4.out Au) Be (v':=.slice (some ⟨w4.heap.size,0,none⟩) (0 + 1) (0 + 1)) (fun b e=>by have:=Option.some.inj e;change w4.heap.size=b at this;omega) Ah Cj (by rw [Aq.out];exact Cq.out) (by rw [Aq.out];exact Bp.out.below Au)
     have Ad:=An.setBox (g:=w.heap.size) (i:=0) (by omega) (.slice (some ⟨w4.heap.size,0,none⟩) (0 + 1) (0 + 1))
     have Al:([]:List (CK×Pay)).take 0 ++ x :: ([]:List (CK×Pay)).drop 0=fold ckLt Pay.add (C.take (k + 1)):=by
      rw [Tess.ft2 hlt,Ed.out,← B6.out]
      exact (Tess.Kl.ih4 (L:=[]) (k:=0) (Nat.le_refl _) (fun j hj hjk=>(C4.out j hj).2 hjk) (fun h=>absurd h (Nat.lt_irrefl _))).symm
     rw [Al] at Ad
     have Ae:=(Au.block _ At).trans Af.out
     have Co:=heap_setCell_same w8 w.heap.size 0 _ _ (.slice (some ⟨w4.heap.size,0,none⟩) (0 + 1) (0 + 1)) Ae
     have A4:=Hd Ad
     have Ek:=Hd Co
     have Df:=Hd (show Below w.heap.size w (w8.setCell ⟨w.heap.size,0,none⟩ (.slice (some ⟨w4.heap.size,0,none⟩) (0 + 1) (0 + 1))) from (Bt HB.out (Bt B4.out Au)).setCell (Nat.le_refl _) _)
     have Gc:=(cob Ae).1
     have F1:=(cob Ae).2
     have Fp:w.heap.size < w8.heap.size:=(Array.getElem?_eq_some_iff.1 Ae).1
     clear Dj Ee Cs As Cj An Ad Co Ae Ah Au Am Az Bj Ch hw8 Al
     go_simp
     go_wp2_with (fail)
     go_roundw
     case rel=>exact ⟨k + 1,_,_,by omega,by go_num,Ek.out,A4.out,fun h=>by omega,Df.out⟩
     case measure=>simp [intOf];omega
    ·obtain ⟨i0,hi,Dz,Bf,D4⟩:=info_parts iC2
     obtain ⟨wm,Ac,Cc,B1,Cg,A2⟩:=rms (P:=Tryz.prog) w4 41 83 i0 _ 6 Tryz.underlying41 hi Dz Bf .i64 .i64 L.length (L.length + 1) (by omega) (by rw [D4];omega) (by unfold maxLen;omega)
     simp only [Int.natCast_add,Int.natCast_one] at Cc
     have fm:=(cob ((A2.block _ At).trans Af.out)).1
     have Dc:w.heap.size < wm.heap.size:=Nat.lt_of_lt_of_le At A2.size
     have Bg:us.length=L.length:=Ai.out.own.len
     have Aj:=Ai.out.own.lens cn2
     have Ar:=Ai.out.own.ones cn2
     have Cu:=flat_take (k:=L.length) Aj (by omega)
     have Ct:=fl2 us Aj
     have Ax:w4.ownsRow (w.heap.size + 1) 83 6 (.slice (some ⟨g,0,none⟩) us.length lc) us.length us.flatten:=by have:=Ai.out.own.own;rwa [← Bg] at this
     have A0:=ob2 Ax A2
     obtain ⟨Aw,Ao⟩:∃ Aw,Aw=us.flatten.take (L.length * 6):=⟨_,rfl⟩
     have Av:Aw.length=L.length * 6:=by rw [Ao,List.length_take,Ct];omega
     have Bm:=rcr (P:=Tryz.prog) wm 41 41 3 83 w4.heap.size 0 L.length (L.length + 1) 6 ⟨g,0,none⟩ L.length L.length Ac 83 Aw Tryz.underlying41 (by rw [hi];simp [Bf]) B1 (by rw [Av,show Nat.min L.length L.length=L.length from Nat.min_self L.length]) (fun j v hv=>by
      have hj:j < L.length * 6:=by rw [← Av];exact (List.getElem?_eq_some_iff.1 hv).1
      rw [Addr.add_lit,Nat.zero_add,A0.cellAt j (by omega),← hv,Ao,List.getElem?_take,if_pos hj]) (by omega) (fun v hv=>Ar v (List.mem_of_mem_take (by rw [← Ao];exact hv)))
     rw [show Nat.min L.length L.length=L.length from Nat.min_self L.length] at Bm
     obtain ⟨wc,B2⟩:∃ wc,wm.setRow w4.heap.size (Ac.toList.take 0 ++ Aw ++ Ac.toList.drop (0 + Aw.length)).toArray=wc:=⟨_,rfl⟩
     obtain ⟨Ab,Ak⟩:∃ Ab,Ab=over Ac 0 Aw:=⟨_,rfl⟩
     have D7:wc.heap[w4.heap.size]? = some (.cells Ab 83 (0,0)):=by rw [← B2,Ak];exact setRow_heap wm _ Ac _ _ _ B1
     have Bs:Ab.size=(L.length + 1) * 6:=by rw [Ak,os4 (by omega),Cg]
     have Br:Ab.toList.take (L.length * 6)=(us.take L.length).flatten:=by
      have:=ot2 (cur:=Ac) (n:=0) (cs:=Aw) (by omega)
      rw [Nat.zero_add,Av,← Ak] at this
      rw [this,Ao,Cu.1];simp
     have Bo:Below w4.heap.size w4 wc:=A2.trans (by rw [← B2];exact ⟨rfl,rfl,rfl,by rw [setRow_size];exact Nat.le_refl _,fun j hj=>setRow_other wm _ j _ (by omega)⟩)
     rw [B2] at Bm
     have Cy:=Hd Bg
     have Fc:=Hd Aj
     have E0:=Hd Ar
     have Eu:=Hd Cu
     have Ft:=Hd Ct
     have Cf:=Hd D7
     have A1:=Hd Bs
     have Bx:=Hd Br
     have Bc:=Hd Bo
     have D9:w.heap.size < wc.heap.size:=Nat.lt_of_lt_of_le At Bo.size
     clear B2 B1 Cg A2 Ak Bg Aj Ar Cu Ct D7 Bs Br Ax A0 Av Ao
     have fc:=(cob ((Bo.block _ At).trans Af.out)).1
     clear Bo
     have Do:=Hd Bm
     clear Bm
     go_simp
     go_wp2_with (fail)
     rw [Do.out]
     clear Cc fm Dc
     go_simp
     go_wp2_with (fail)
     obtain ⟨CS,Ce⟩:∃ CS:List Value,CS=[.int .i64 x.1.1,.slice sd x.1.2.length td,.int .i64 x.2.n,.slice s3 x.2.sums.length t3,.slice s4 x.2.mins.length t4,.slice s5 x.2.maxs.length t5]:=⟨_,rfl⟩
     have Aq:=Hd Ce
     clear Ce
     have Dg:=Hd ((Bc.out.block _ Bl).trans C6.out)
     have Cd:w2.heap.size < wc.heap.size:=Nat.lt_of_lt_of_le Bl Bc.out.size
     have Bn:=Hd ((Bc.out.block _ At).trans Af.out)
     have Bd:=Hd (show w.heap.size < w4.heap.size∧w2.heap.size < w4.heap.size∧w4.heap.size < wc.heap.size from ⟨At,Bl,(Array.getElem?_eq_some_iff.1 Cf.out).1⟩)
     have Du:=Hd (fun V (hw:(one w4.heap.size (.cells Ab 83 (0,0)) (.cells (over Ab (L.length * 6) CS) 83 (0,0))).r wc V)=>(can6 ((ob3 hw Cd (by have:=Bd.out;omega)).trans Dg.out)).1)
     have Dx:=Hd (fun V (hw:(one w4.heap.size (.cells Ab 83 (0,0)) (.cells (over Ab (L.length * 6) CS) 83 (0,0))).r wc V)=>(cob ((ob3 hw D9 (by have:=Bd.out;omega)).trans Bn.out)).1)
     have Be:L.length≤L.length:=Nat.le_refl _
     clear Cd
     refine FlowR.wrf (R:=one w4.heap.size (.cells Ab 83 (0,0)) (.cells (over Ab (L.length * 6) CS) 83 (0,0))) 8 (FlowR.sp3 44 (fun _ => .inl undef) (.inl ?_ :: .inl ?_ :: .inl ?_ :: .inr (newRow w4.heap.size CS) :: .inr (tT2 w4.heap.size (.cells (over Ab (L.length * 6) CS) 83 (0,0)) (.slice (some ⟨w4.heap.size,0,none⟩) (L.length + 1) (L.length + 1))) :: .inl ?_ :: .inl ?_ :: .inl ?_ :: [])) (fun _=>0) (FlowR.so6 (by kernel_rfl)) (by kernel_rfl) (by kernel_rfl) ?_ ?_
     rotate_left 6
     ·refine FlowR.sm2 (fun x=>FlowR.mi _) ?_
      repeat (first | exact FlowR.ln2 | refine FlowR.li2 ?_ | refine FlowR.li3 (nRm _) ?_ | refine FlowR.li3 (tTm _) ?_)
     all_goals try simp only [List.take_succ_cons,List.take_zero,List.drop_succ_cons,List.drop_zero]
     iterate 3 (refine FlowR.tvK rfl (fun K hK=>⟨fun V hw hG => ?_,?_⟩);(obtain ⟨t1,t2,t3,t4,t5,t6⟩:=Du.out V hw;clear hG hw;unfold FlowR.Runs FlowR.yields;go_simp;try rfl);go_simp;refine hK _ ?_;clear hK K)
     (refine FlowR.tvK2 rfl (fun K hK=>⟨fun V hw hG => ?_,?_⟩);(have Dv:w4.heap.size < V.heap.size:=(Nat.lt_of_lt_of_le Bd.out.2.2 hw.2.2.2.1);clear hG hw;unfold FlowR.Runs FlowR.yields;go_simp;exact ⟨oa4 Dv _,(⟨V.heap.size,rfl,by simp,by omega,fun j u hu=>by rw [cell_of_row _ _ _ _ _ _ (heap_alloc_new _ _)];rw [Aq.out] at hu;simpa using hu⟩:newRow w4.heap.size CS (.slice (some ⟨V.heap.size,0,none⟩) 1 1) (V.alloc _))⟩);intro vr;go_simp;refine hK _ _ ?_;clear hK K)
     (refine FlowR.tvK2 rfl (fun K hK=>⟨fun V hw hG => ?_,?_⟩);(have Cl:=(show newRow w4.heap.size CS vr V by simpa [FlowR.upd] using hG 3 (by kernel_rfl));obtain ⟨V2,Bw,Ec,D2⟩:=oa3 (P:=Tryz.prog) (ty:=41) (t:=41) (n:=L.length) (cap:=L.length + 1) Tryz.underlying41 hi Bf hw Cf.out (by rw [Aq.out];rfl) (by rw [Aq.out];intro u hu;simp only [List.mem_cons,List.not_mem_nil,or_false] at hu;rcases hu with rfl | rfl | rfl | rfl | rfl | rfl <;> rfl) A1.out (by omega) Cl;clear hG hw Cl;exact ra2 (t:=41) (.tmp 62) (.tmp 65) rfl rfl rfl rfl Bw Ec D2);intro vt;go_simp;refine hK _ _ ?_;clear hK K)
     iterate 3 (refine FlowR.tvK rfl (fun K hK=>⟨fun V hw hG => ?_,?_⟩);(have Ef:=Dx.out V hw;clear hG hw;unfold FlowR.Runs FlowR.yields;go_simp;try rfl);go_simp;refine hK _ ?_;clear hK K)
     refine FlowR.tn2 fun w8 hw8 hG => ?_
     obtain ⟨rfl,Ch⟩:=(show tT2 w4.heap.size (.cells (over Ab (L.length * 6) CS) 83 (0,0)) (.slice (some ⟨w4.heap.size,0,none⟩) (L.length + 1) (L.length + 1)) vt w8 by simpa [FlowR.upd] using hG 4)
     clear hG
     have Bj:Below w4.heap.size w4 w8:=Bc.out.trans (ob4 hw8 (Nat.le_refl _) (by have:=Bd.out;omega))
     have Az:CS.length=6:=by rw [Aq.out];rfl
     have Am:=oo (N:=w.heap.size + 1) (n:=L.length) (cap:=L.length + 1) (by omega) Ch Az A1.out (by omega) (by unfold maxLen;omega) Bx.out
     have B9:=Ai.out.below Bj
     have F7:(us.drop L.length).flatten=[]:=by rw [← Cy.out];simp
     have A3:∀ (ad:Addr) j u,(us.drop L.length).flatten[j]? = some u→w8.cell? (ad.add j)=some u:=fun ad j u hu=>by rw [F7] at hu;simp at hu
     have D0:(us.drop L.length).flatten.length=(L.length - L.length) * 6:=by rw [fl2 _ fun u hu=>Fc.out u (List.mem_of_mem_drop hu),List.length_drop,Cy.out]
     have Ds:∀ u ∈ (us.drop L.length).flatten,u.oneCell'=true:=fun u hu=>E0.out u (by rw [← Eu.out.2] at hu;exact List.mem_of_mem_drop hu)
     have e9:L.length + 1 + (L.length - L.length)=L.length + 1:=by omega
     refine wpList_append_own_spare _ rfl _ _ 41 rfl (w.heap.size + 1) 83 i0 6 Tryz.underlying41 hi Bf w4.heap.size (L.length + 1) (L.length + 1) _ rfl Am ⟨g,if lc=L.length then 0 else L.length * 6,none⟩ (L.length - L.length) (lc - L.length) (us.drop L.length).flatten (by simp only [Act.eval];go_simp;split <;> rfl) D0 (A3 _) Ds (by omega) ?_
     intro w9 Ah Aa
     rw [e9] at Ah ⊢
     have Au:Below w4.heap.size w4 w9:=Bj.trans ⟨Aa.1,Aa.2,Aa.3,Aa.4,fun j hj=>Aa.5 j (by have:=Bj.size;omega) (by intro e;cases e;omega)⟩
     have Dj:w.heap.size < wr.heap.size:=(Array.getElem?_eq_some_iff.1 D1.out).1
     have Ee:=Cz.out.2
     have Cs:=C5.out.size
     have As:=C8.out
     rw [← B6.out] at As
     have Cj:CA2 (fun b=>w.heap.size + 1≤b∧wr.heap.size≤b∧(Value.slice (some ⟨w4.heap.size,0,none⟩) (L.length + 1) (L.length + 1)).ownBlock≠some b) w9 CS x:=by
      rw [Aq.out]
      exact (C2.out.ag (Ag.new _ Au)).weak fun b hb=>⟨by have:=hb.1;omega,by have:=hb.1;omega,fun e=>by have h1:w4.heap.size=b:=Option.some.inj e;have h2:=hb.2;omega⟩
     have An:=PS.insert (k:=L.length) As (Bt B4.out Au) Be (v':=.slice (some ⟨w4.heap.size,0,none⟩) (L.length + 1) (L.length + 1)) (fun b e=>by have:=Option.some.inj e;change w4.heap.size=b at this;omega) Ah Cj (by rw [Aq.out];exact Cq.out) (by rw [Aq.out];exact Bp.out.below Au)
     have Ad:=An.setBox (g:=w.heap.size) (i:=0) (by omega) (.slice (some ⟨w4.heap.size,0,none⟩) (L.length + 1) (L.length + 1))
     have Al:L.take L.length ++ x :: L.drop L.length=fold ckLt Pay.add (C.take (k + 1)):=by
      rw [Tess.ft2 hlt,Ed.out,← B6.out]
      exact (Tess.Kl.ih4 (Nat.le_refl _) (fun j hj hjk=>(C4.out j hj).2 hjk) (fun h=>absurd h (Nat.lt_irrefl _))).symm
     rw [Al] at Ad
     have Ae:=(Au.block _ At).trans Af.out
     have Co:=heap_setCell_same w9 w.heap.size 0 _ _ (.slice (some ⟨w4.heap.size,0,none⟩) (L.length + 1) (L.length + 1)) Ae
     have A4:=Hd Ad
     have Ek:=Hd Co
     have Df:=Hd (show Below w.heap.size w (w9.setCell ⟨w.heap.size,0,none⟩ (.slice (some ⟨w4.heap.size,0,none⟩) (L.length + 1) (L.length + 1))) from (Bt HB.out (Bt B4.out Au)).setCell (Nat.le_refl _) _)
     have Gc:=(cob Ae).1
     have F1:=(cob Ae).2
     have Fp:w.heap.size < w9.heap.size:=(Array.getElem?_eq_some_iff.1 Ae).1
     clear F7 Aa Dj Ee Cs As Cj An Ad Co Ae Ah Au D0 Ds A3 B9 Am Az Bj Ch hw8 Al
     go_simp
     go_wp2_with (fail)
     go_roundw
     case rel=>exact ⟨k + 1,_,_,by omega,by go_num,Ek.out,A4.out,fun h=>by omega,Df.out⟩
     case measure=>simp [intOf];omega
  ·obtain rfl:k=C.length:=by omega
   have Gh:¬ (C.length:Int) < (C.length:Int):=by omega
   have fl:=(cob Eq).1
   rw [List.take_length] at Db
   have C8:=Hd Db
   have HB:=Hd hB
   have HN:=Hd Cb
   clear Db hB Cb Eq HC
   go_wp2
   go_ret
   exact ⟨_,rfl,⟨_,C8.out⟩,fun e=>HN.out (by rw [e];rfl),HB.out⟩
end Go.Proofs.YtaddkkkchkdgkaaGreatDoor
