/- Cells put among some: the program's put, walked. -/
import Derived.Test.YtjdccifdkjnknaaGreatDoorAC20
import Derived.Test.YtjdccifdkjnknaaGreatDoorAC04
namespace Go.Proofs.YtjdccifdkjnknaaGreatDoor
open Go.RowKit Go.Sort
open Tess (CK Pay ckLt PO)
open Tess.Kl (Asc fold ins)
theorem CA3.shapes {p:Nat→Prop} {w:World} {cs:List Value} {x:CK×Pay} (h:CA3 p w cs x):∃ ad cd a3 c3 a4 c4 a5 c5,cs=[.int .i64 x.1.1,.slice ad x.1.2.length cd,.int .i64 x.2.n,.slice a3 x.2.sums.length c3,.slice a4 x.2.mins.length c4,.slice a5 x.2.maxs.length c5]∧VC w ad (x.1.2.map Tess.valOf):=by
 obtain ⟨vd,vs,vm,vx,rfl,h1,h2⟩:=h
 obtain ⟨ad,cd,rfl,_,hc⟩:=h1.cells
 obtain ⟨a3,c3,rfl⟩:=h2.sums.shape
 obtain ⟨a4,c4,rfl⟩:=h2.mins.shape
 obtain ⟨a5,c5,rfl⟩:=h2.maxs.shape
 exact ⟨ad,cd,a3,c3,a4,c4,a5,c5,by rw [List.length_map],hc⟩
theorem VC.below {w w':World} {a:Option Addr} {l:List Tess.Val} (h:VC w a l) (hb:Below w.heap.size w w'):VC w' a l:=fun j hj=>
 let ⟨b,off,ha,hbl,h0,h1⟩:=h j hj;⟨b,off,ha,Nat.lt_of_lt_of_le hbl hb.size,(hb.cell (p:=⟨b,off + j * 2,none⟩) hbl).trans h0,(hb.cell (p:=⟨b,off + j * 2 + 1,none⟩) hbl).trans h1⟩
theorem iC:(Tryz.prog.info? 56).map (fun i=>(i.zero,i.size,i.bytes))=some (some (.agg #[.int .i64 0,.slice none 0 0,.int .i64 0,.slice none 0 0,.slice none 0 0,.slice none 0 0]),6,112):=by kernel_rfl
theorem fold_len (l:List (CK×Pay)):(fold ckLt Pay.add l).length≤l.length:=by
 have h2:∀ (x:CK×Pay) (m:List (CK×Pay)),(ins ckLt Pay.add x m).length≤m.length + 1:=fun x m=>by
  induction m with
  | nil=>simp [ins]
  | cons y m ih2=>
    rw [ins]
    split
    ·simp only [List.length_cons];omega
    ·split <;> simp only [List.length_cons] <;> omega
 have h1:∀ (l m:List (CK×Pay)),(l.foldl (fun m x=>ins ckLt Pay.add x m) m).length≤m.length + l.length:=fun l=>by
  induction l with
  | nil=>intro m;simp
  | cons x l ih=>
    intro m
    rw [List.foldl_cons,List.length_cons]
    have:=ih (ins ckLt Pay.add x m)
    have:=h2 x m
    omega
 have:=h1 l []
 unfold fold
 simpa using this
theorem PS.shape {N:Nat} {W:World} {v:Value} {us:List (List Value)} {L:List (CK×Pay)} (h:PS N W v us L):∃ la lc,v = .slice la L.length lc∧L.length≤lc∧lc≤maxLen∧((la=none∧lc=0∧L.length=0)∨∃ g,la=some ⟨g,0,none⟩∧N≤g∧g < W.heap.size):=by
 have Aa:=h.own.len
 rcases h.own.own.2 with ⟨rfl,h0⟩ | ⟨g,Ac,Ad,rfl,hg,hh,Ab,hm,_,_⟩
 ·exact ⟨none,0,by rw [← Aa,h0],by omega,Nat.zero_le _,.inl ⟨rfl,rfl,by omega⟩⟩
 ·exact ⟨_,Ac,by rw [Aa],by omega,hm,.inr ⟨g,rfl,hg,(Array.getElem?_eq_some_iff.1 hh).1⟩⟩
theorem PS.mutsLt {N:Nat} {W:World} {v:Value} {us:List (List Value)} {L:List (CK×Pay)} (h:PS N W v us L):∀ j (hj:j < us.length),∀ b ∈ muts us[j],N≤b∧b < W.heap.size:=fun j hj b hb=>by
 have:=(cn2.lt (h.own.at_ j (by have:=h.own.len;omega) hj)).iM b hb
 exact ⟨this.1.1,this.2⟩
theorem nt3 {t n:Int} {vd vs vm vx:Value} (h:(muts [.int .i64 t,vd,.int .i64 n,vs,vm,vx]).Nodup):(∀ b,blkN vs=some b→blkN vm≠some b)∧(∀ b,blkN vs=some b→blkN vx≠some b)∧∀ b,blkN vm=some b→blkN vx≠some b:=by
 unfold muts at h
 rw [List.nodup_iff_pairwise_ne,List.pairwise_filterMap] at h
 simp only [List.pairwise_cons,List.mem_cons,List.not_mem_nil,or_false,forall_eq_or_imp,forall_eq,List.Pairwise.nil,and_true] at h
 obtain ⟨_,_,_,⟨h1,h2⟩,h3,_⟩:=h
 exact ⟨fun b hb hb'=>h1 b hb b hb' rfl,fun b hb hb'=>h2 b hb b hb' rfl,fun b hb hb'=>h3 b hb b hb' rfl⟩
theorem mem_muts {v:Value} {cs:List Value} {b:Nat} (hv:v ∈ cs) (hb:blkN v=some b):b ∈ muts cs:=List.mem_filterMap.2 ⟨v,hv,hb⟩
set_option maxRecDepth 100000 in
set_option maxHeartbeats 8000000 in
theorem put_any (p:Nat→Prop) (va:Value) (C:List (CK×Pay)) (M:Nat) (w:World) (hv:CA2 p w va C) (hM:∀ x ∈ C,PO M x.2∧x.1.2.length≤1000) (hMM:M≤1000) (htot:(C.map (·.2.n)).sum≤1000000) (hCl:C.length≤1000) :
  Calls Tryz.prog 26 #[.slice none 0 0,va] w fun e w' => ∃ v' us,e = .returned v'∧PS (w.heap.size + 1) w' v' us (fold ckLt Pay.add C)∧(C=[]→v' = .slice none 0 0)∧Below w.heap.size w w':=by
 obtain ⟨a,cap,rfl,_,hl,_,hc⟩:=LA.open hv
 have hl:C.length≤9223372036854775807:=by omega
 have HC:=Hd hc
 clear hc hv
 obtain ⟨W0,Fi⟩:∃ W0,w.alloc (.cells #[.slice none 0 0] 28)=W0:=⟨_,rfl⟩
 obtain ⟨k0,kS,kB⟩:=la2 w (.cells #[.slice none 0 0] 28)
 rw [Fi] at k0 kS kB
 have K0:=Hd k0
 have KB:=Hd kB
 clear k0 kB
 go_enter Tryz.func26,Tryz.ntmps26
 go_wp2_with (fail)
 clear Fi
 go_loopw [13] (fun i wr => ∃ (k:Nat) (v:Value) (us:List (List Value)),k≤C.length∧i = .int .i64 k∧wr.heap[w.heap.size]? = some (.cells #[v] 28 (0,0))∧PS (w.heap.size + 1) wr v us (fold ckLt Pay.add (C.take k))∧(k=0→v = .slice none 0 0)∧Below w.heap.size w wr) (fun i _=>C.length - (intOf i).toNat)
 case atStart=>exact ⟨0,_,[],Nat.zero_le _,rfl,K0.out,⟨OwnL.nil _,by simp,fun cs h=>by cases h⟩,fun _=>rfl,KB.out⟩
 case round=>
  obtain ⟨k,v,us,hk,rfl,Et,Dc,B2,hB⟩:=hrel
  by_cases hlt:k < C.length
  ·have Gy:(k:Int) < (C.length:Int):=by omega
   obtain ⟨b,Bj,rfl,hb,_,cs,_,Cu,As⟩:=HC.out k hlt
   have hx:=(hM _ (List.getElem_mem hlt)).1
   have Hl:=(hM _ (List.getElem_mem hlt)).2
   generalize hX:C[k]=x at *
   obtain ⟨ad,cd,a3,c3,a4,c4,a5,c5,rfl,_⟩:=Cu.shapes
   have e0:wr.cell? ⟨b,Bj + k * 6,none⟩=some (.int .i64 x.1.1):=(hB.cell (p:=⟨b,Bj + k * 6,none⟩) hb).trans (As 0 (by omega))
   have e1:wr.cell? ⟨b,Bj + k * 6 + 1,none⟩=some (.slice ad x.1.2.length cd):=(hB.cell (p:=⟨b,Bj + k * 6 + 1,none⟩) hb).trans (As 1 (by omega))
   have e2:wr.cell? ⟨b,Bj + k * 6 + 2,none⟩=some (.int .i64 x.2.n):=(hB.cell (p:=⟨b,Bj + k * 6 + 2,none⟩) hb).trans (As 2 (by omega))
   have e3:wr.cell? ⟨b,Bj + k * 6 + 3,none⟩=some (.slice a3 x.2.sums.length c3):=(hB.cell (p:=⟨b,Bj + k * 6 + 3,none⟩) hb).trans (As 3 (by omega))
   have e4:wr.cell? ⟨b,Bj + k * 6 + 4,none⟩=some (.slice a4 x.2.mins.length c4):=(hB.cell (p:=⟨b,Bj + k * 6 + 4,none⟩) hb).trans (As 4 (by omega))
   have e5:wr.cell? ⟨b,Bj + k * 6 + 5,none⟩=some (.slice a5 x.2.maxs.length c5):=(hB.cell (p:=⟨b,Bj + k * 6 + 5,none⟩) hb).trans (As 5 (by omega))
   have G6:b < wr.heap.size:=Nat.lt_of_lt_of_le hb hB.size
   obtain ⟨W1,Gj⟩:∃ W1,wr.alloc (.cells #[.int .i64 x.1.1,.slice ad x.1.2.length cd,.int .i64 x.2.n,.slice a3 x.2.sums.length c3,.slice a4 x.2.mins.length c4,.slice a5 x.2.maxs.length c5] 56)=W1:=⟨_,rfl⟩
   obtain ⟨k1,Hb,Ex⟩:=la2 wr (.cells #[.int .i64 x.1.1,.slice ad x.1.2.length cd,.int .i64 x.2.n,.slice a3 x.2.sums.length c3,.slice a4 x.2.mins.length c4,.slice a5 x.2.maxs.length c5] 56)
   rw [Gj] at k1 Hb Ex
   obtain ⟨⟨f0,f1,f2,f3,f4,f5⟩,_⟩:=can6 k1
   have Fb:=Hd (own6_any p _ x W1 (Cu.ag (Ag.new p (Bt hB Ex))) ⟨by omega,by rw [hx.len.1];omega,by rw [hx.len.2.1];omega,by rw [hx.len.2.2];omega⟩)
   have HB:=Hd hB
   have Dp:=Hd Et
   have C2:=Hd Dc
   have F0:=Hd Dc.mutsLt
   have HN:=Hd B2
   have C6:=Hd Ex
   have Dj:=Hd hX
   clear As hB Et Dc B2 k1 Ex Cu hX
   go_wp2_with (fail)
   go_at_call 60
   refine Fb.out.mono ?_
   rintro e w2 ⟨Ho,rfl,Da,Ei,D5,Fe⟩
   replace Da:=cn2.lt Da
   obtain ⟨sd,td,s3,t3,s4,t4,s5,t5,rfl,D6⟩:=Da.shapes
   obtain ⟨W2,G0⟩:∃ W2,w2.alloc (.cells #[.int .i64 x.1.1,.slice sd x.1.2.length td,.int .i64 x.2.n,.slice s3 x.2.sums.length t3,.slice s4 x.2.mins.length t4,.slice s5 x.2.maxs.length t5] 80)=W2:=⟨_,rfl⟩
   obtain ⟨k2,Fv,Cs⟩:=la2 w2 (.cells #[.int .i64 x.1.1,.slice sd x.1.2.length td,.int .i64 x.2.n,.slice s3 x.2.sums.length t3,.slice s4 x.2.mins.length t4,.slice s5 x.2.maxs.length t5] 80)
   rw [G0] at k2 Fv Cs
   have B8:Below wr.heap.size wr W2:=Bt (Bt C6.out Fe) Cs
   have Bs:=C2.out.below B8
   have Bx:=(B8.block _ (Array.getElem?_eq_some_iff.1 Dp.out).1).trans Dp.out
   obtain ⟨L,hL⟩:∃ L,L=fold ckLt Pay.add (C.take k):=⟨_,rfl⟩
   rw [← hL] at Bs
   have C0:Asc ckLt L:=by rw [hL];exact Tess.Kl.fold_asc Tess.cs3 _
   have Cd:=Hd hL
   obtain ⟨la,lc,rfl,He,Gf,Fz⟩:=Bs.shape
   have Hv:L.length≤1000:=by rw [Cd.out];exact Nat.le_trans (fold_len _) (by rw [List.length_take];omega)
   have Gt:L.length < 4611686018427387904:=by omega
   have Hf:=Hd (search_any (bl:=w.heap.size) (bc:=w2.heap.size) Bs C0 Gt Bx k2 (Da.ag (Ag.new _ Cs)))
   have F4:=Hd (Da.ag (Ag.new _ Cs))
   have Ej:=Hd (D5.below Cs)
   have Cx:=Hd Ei
   have Dm:=Hd Bs
   have Dr:=Hd (D6.below Cs)
   have D1:=Hd Bx
   have F1:=Hd k2
   have Ee:=Hd B8
   have Gs:=Hd C0
   have G7:=Hd Fz
   have C1:=Hd (show w2.heap.size < W2.heap.size∧W1.heap.size≤w2.heap.size from ⟨by omega,Fe.size⟩)
   have fl:=(cob Bx).1
   have E4:w.heap.size < W2.heap.size:=(Array.getElem?_eq_some_iff.1 Bx).1
   clear f0 f1 f2 f3 f4 f5 e0 e1 e2 e3 e4 e5 hL Da Ei D5 Fe D6 k2 Cs Fv B8 Bs Bx C0 Fz G6 Gf He
   go_wp2_with (fail)
   go_at_call 62
   refine Hf.out.mono ?_
   rintro e w3 ⟨k',rfl,Gi,Fm,B1⟩
   have Ea:=Bt Ee.out B1
   have Dt:=Dm.out.below B1
   have Fa:=(B1.block _ C1.out.1).trans F1.out
   have Eo:=Hd Ea
   have Bp:=Hd Dt
   have Bz:=Hd ((B1.block _ E4).trans D1.out)
   have Ez:=Hd Fa
   have En:=Hd (F4.out.ag (Ag.new _ B1))
   have B5:=Hd (Ej.out.below B1)
   have Ct:=Hd (Dr.out.below B1)
   have E2:=Hd (show w2.heap.size < w3.heap.size from Nat.lt_of_lt_of_le C1.out.1 B1.size)
   have Fj:=(cob Bz.out).1
   obtain ⟨⟨g0,g1,g2,g3,g4,g5⟩,_⟩:=can6 Fa
   have Db:w.heap.size < w3.heap.size:=Nat.lt_of_lt_of_le E4 B1.size
   have C8:w2.heap.size < w3.heap.size:=E2.out
   have Gc:(L.length:Int) + 1≤9223372036854775807:=by omega
   clear fl E4 B1 Ea Dt Fa Ee Dm D1 F1 F4 Ej Dr
   have C5:=Hd Fm
   clear Fm
   by_cases hkL:k' < L.length
   ·have E1:(k':Int) < (L.length:Int):=by omega
    obtain ⟨g,Hg,Hp,Gb,Hi,B9,Fq,⟨cur,Dz⟩,⟨Ew,Fu⟩,Bc,Cv⟩:=Bp.out.row hkL
    simp only [Value.slice.injEq] at Gb
    obtain ⟨rfl,_,rfl⟩:=Gb
    obtain ⟨Bl,Bi,A7,A8,A9,A6,A4,Ba,rfl,D0⟩:=Bc.shapes
    have Fh:∀ W,Below w3.heap.size w3 W→Calls Tryz.prog 40 #[.agg #[.int .i64 x.1.1,.slice sd x.1.2.length td,.int .i64 x.2.n,.slice s3 x.2.sums.length t3,.slice s4 x.2.mins.length t4,.slice s5 x.2.maxs.length t5],.agg #[.int .i64 L[k'].1.1,.slice Bl L[k'].1.2.length Bi,.int .i64 L[k'].2.n,.slice A7 L[k'].2.sums.length A8,.slice A9 L[k'].2.mins.length A6,.slice A4 L[k'].2.maxs.length Ba]] W
      fun e w'=>e = .returned (.bool (ckLt x.1 L[k'].1))∧Below W.heap.size W w':=fun W hW=>by
     have:=aa sd Bl td Bi (x.1.2.map Tess.valOf) (L[k'].1.2.map Tess.valOf) x.1.1 L[k'].1.1 x.2.n L[k'].2.n s3 s4 s5 A7 A9 A4 x.2.sums.length x.2.mins.length x.2.maxs.length t3 t4 t5 L[k'].2.sums.length L[k'].2.mins.length L[k'].2.maxs.length A8 A6 Ba W (by obtain ⟨_,_,_,_,_,h,_⟩:=Bc;obtain ⟨_,_,_,h,_⟩:=h;unfold maxLen at h;omega) (Ct.out.below hW) (D0.below hW)
     rw [vc2,vc2,List.length_map,List.length_map] at this
     refine this.mono ?_
     rintro e w' ⟨rfl,q',os,rfl⟩
     exact ⟨rfl,below_grown_sl W.heap.size W q' os (Nat.le_refl _)⟩
    have F9:=Hd Fh
    have h0:w3.cell? ⟨g,k' * 6,none⟩=some (.int .i64 L[k'].1.1):=Cv 0 (by omega)
    have h1:w3.cell? ⟨g,k' * 6 + 1,none⟩=some (.slice Bl L[k'].1.2.length Bi):=Cv 1 (by omega)
    have h2:w3.cell? ⟨g,k' * 6 + 2,none⟩=some (.int .i64 L[k'].2.n):=Cv 2 (by omega)
    have h3:w3.cell? ⟨g,k' * 6 + 3,none⟩=some (.slice A7 L[k'].2.sums.length A8):=Cv 3 (by omega)
    have h4:w3.cell? ⟨g,k' * 6 + 4,none⟩=some (.slice A9 L[k'].2.mins.length A6):=Cv 4 (by omega)
    have h5:w3.cell? ⟨g,k' * 6 + 5,none⟩=some (.slice A4 L[k'].2.maxs.length Ba):=Cv 5 (by omega)
    have F7:=Hd Bc
    have D2:=Hd Fu
    have D3:=Hd Dz
    clear Fh Cv Bc D0 Fu Dz
    generalize hr:ckLt x.1 L[k'].1=r at *
    have HR:=Hd hr
    clear hr
    generalize hY:L[k']=y at *
    have Di:=Hd hY
    clear hY
    go_wp2_with (fail)
    refine Flow.wrf2 (Flow.sp3 [.inl ?_,.inl ?_,.inl ?_,.inl ?_,.inl ?_,.inl ?_,.inl ?_,.inl ?_,.inl ?_,.inl ?_,.inr (isV (.bool r)),.inl (.bool (!r)),.inl (.bool (!r))]) (by kernel_rfl) (by kernel_rfl) ?_ ?_
    rotate_left 10
    ·refine Flow.sm2 ?_
     repeat (first | exact Flow.ln2 | refine Flow.li2 ?_ | refine Flow.li3 (iVm _) ?_)
    iterate 10 (refine Flow.tvK rfl (fun K hK=>⟨fun w hw hG => ?_,?_⟩);(have Em:=Flow.bc4 hw;clear hG hw;unfold Flow.Runs Flow.yields;go_simp;try rfl);go_simp;refine hK _ ?_;clear hK K)
    (refine Flow.tvK2 rfl (fun K hK=>⟨fun w hw hG => ?_,?_⟩);(have HW:=Hd hw;clear hG hw;unfold Flow.Runs Flow.yields;go_simp;refine (F9.out _ HW.out).mono ?_;rintro e w4 ⟨rfl,Gu⟩;exact ⟨_,rfl,Gu,rfl⟩);intro vz;go_simp;refine hK _ _ ?_;clear hK K)
    (refine Flow.tvK rfl (fun K hK=>⟨fun w hw hG => ?_,?_⟩);(obtain rfl:=(show vz = .bool r by simpa [Flow.upd,isV] using hG 10 (by kernel_rfl));clear hG hw;unfold Flow.Runs Flow.yields;go_simp;try rfl);go_simp;refine hK _ ?_;clear hK K)
    iterate 1 (refine Flow.tvK rfl (fun K hK=>⟨fun w hw hG => ?_,?_⟩);(have Em:=Flow.bc4 hw;clear hG hw;unfold Flow.Runs Flow.yields;go_simp;try rfl);go_simp;refine hK _ ?_;clear hK K)
    refine Flow.tn2 fun w4 hw4 hG => ?_
    clear hG
    have B4:=Hd (Bt Eo.out hw4)
    have Ai:=Hd (Bp.out.below hw4)
    have Af:=Hd ((hw4.block _ Db).trans Bz.out)
    have De:=Hd ((hw4.block _ C8).trans Ez.out)
    have C4:=Hd (En.out.ag (Ag.new _ hw4))
    have Bq:=Hd (B5.out.below hw4)
    have D7:=Hd (F7.out.ag (Ag.new _ hw4))
    have Eh:=Hd ((hw4.block _ B9).trans D3.out)
    have F6:=(cob Af.out).1
    have Gn:w4.cell? ⟨g,k' * 6,none⟩=some (.int .i64 y.1.1):=(hw4.cell (p:=⟨g,k' * 6,none⟩) B9).trans h0
    have Hc:w4.cell? ⟨g,k' * 6 + 1,none⟩=some (.slice Bl y.1.2.length Bi):=(hw4.cell (p:=⟨g,k' * 6 + 1,none⟩) B9).trans h1
    have Gp:w4.cell? ⟨g,k' * 6 + 2,none⟩=some (.int .i64 y.2.n):=(hw4.cell (p:=⟨g,k' * 6 + 2,none⟩) B9).trans h2
    have Ha:w4.cell? ⟨g,k' * 6 + 3,none⟩=some (.slice A7 y.2.sums.length A8):=(hw4.cell (p:=⟨g,k' * 6 + 3,none⟩) B9).trans h3
    have Gz:w4.cell? ⟨g,k' * 6 + 4,none⟩=some (.slice A9 y.2.mins.length A6):=(hw4.cell (p:=⟨g,k' * 6 + 4,none⟩) B9).trans h4
    have Gx:w4.cell? ⟨g,k' * 6 + 5,none⟩=some (.slice A4 y.2.maxs.length Ba):=(hw4.cell (p:=⟨g,k' * 6 + 5,none⟩) B9).trans h5
    have Gr:g < w4.heap.size:=Nat.lt_of_lt_of_le B9 hw4.size
    have At:w.heap.size < w4.heap.size:=Nat.lt_of_lt_of_le Db hw4.size
    have Bm:w2.heap.size < w4.heap.size:=Nat.lt_of_lt_of_le C8 hw4.size
    clear hw4 Eo Bp Bz Ez En B5 F7 D3 F9 Fj h0 h1 h2 h3 h4 h5 B9 Db C8 g0 g1 g2 g3 g4 g5 Ct
    cases r
    ·obtain ⟨W5,G9⟩:∃ W5,w4.alloc (.cells #[.int .i64 y.1.1,.slice Bl y.1.2.length Bi,.int .i64 y.2.n,.slice A7 y.2.sums.length A8,.slice A9 y.2.mins.length A6,.slice A4 y.2.maxs.length Ba] 80)=W5:=⟨_,rfl⟩
     obtain ⟨k5,Ga,Cl⟩:=la2 w4 (.cells #[.int .i64 y.1.1,.slice Bl y.1.2.length Bi,.int .i64 y.2.n,.slice A7 y.2.sums.length A8,.slice A9 y.2.mins.length A6,.slice A4 y.2.maxs.length Ba] 80)
     rw [G9] at k5 Ga Cl
     have Fn:=(Cl.block _ Bm).trans De.out
     obtain ⟨⟨g0,g1,g2,g3,g4,g5⟩,_⟩:=can6 Fn
     have B6:w2.heap.size < W5.heap.size:=by omega
     have Gd:=Hd (Bt B4.out Cl)
     have Bu:=Hd (Ai.out.below Cl)
     have Df:=Hd ((Cl.block _ At).trans Af.out)
     have Gv:=Hd (C4.out.ag (Ag.new _ Cl))
     have E3:=Hd (D7.out.ag (Ag.new _ Cl))
     have G5:=Hd k5
     have Fk:=Hd (show w4.heap.size < W5.heap.size∧w2.heap.size < w4.heap.size from ⟨by omega,Bm⟩)
     clear k5 Ga Cl B4 Ai Af De C4 Bq D7 Eh Fn
     go_simp
     go_wp2_with (fail)
     have hp:=Tess.fold_pay (C:=C.take k) (M:=M) (fun z hz=>(hM z (List.mem_of_mem_take hz)).1) y (by rw [← Cd.out,← Di.out];exact List.getElem_mem hkL)
     have F3:y.2.n + x.2.n≤1000000:=by
      have:=Tess.take_sum (fun z hz=>(hM z hz).1) hlt
      rw [Dj.out] at this
      omega
     have Ev:=nt3 (by have:=(np2 Bu.out.nod).1 _ (List.getElem_mem Ew);rw [D2.out] at this;exact this)
     have Fr:∀ b,b ∈ muts [.int .i64 y.1.1,.slice Bl y.1.2.length Bi,.int .i64 y.2.n,.slice A7 y.2.sums.length A8,.slice A9 y.2.mins.length A6,.slice A4 y.2.maxs.length Ba]→b < wr.heap.size:=fun b hb=>(F0.out k' Ew b (by rw [D2.out];exact hb)).2
     have E0:wr.heap.size≤W1.heap.size:=C6.out.size
     have Cy:=C1.out.2
     have G3:=Fk.out
     have A0:=Bu.out.free _ (List.getElem_mem Ew)
     rw [D2.out] at A0
     obtain ⟨Hx,Hu,Hm,Hw,F5,_,Eq⟩:=Gv.out
     simp only [List.cons.injEq,and_true] at F5
     obtain ⟨_,rfl,_,rfl,rfl,rfl⟩:=F5
     obtain ⟨Hr,Hs,Hn,Hh,Fy,_,Eu⟩:=E3.out
     simp only [List.cons.injEq,and_true] at Fy
     obtain ⟨_,rfl,_,rfl,rfl,rfl⟩:=Fy
     obtain ⟨S,hS⟩:∃ S:Nat→Prop,S=fun b=>b=w4.heap.size∨b ∈ muts [.slice A7 y.2.sums.length A8,.slice A9 y.2.mins.length A6,.slice A4 y.2.maxs.length Ba]:=⟨_,rfl⟩
     have E8:∀ b,b ∈ muts [.slice A7 y.2.sums.length A8,.slice A9 y.2.mins.length A6,.slice A4 y.2.maxs.length Ba]→b < wr.heap.size:=fun b hb=>Fr b (by
      obtain ⟨v,hv,e⟩:=List.mem_filterMap.1 hb
      exact List.mem_filterMap.2 ⟨v,by simp only [List.mem_cons,List.not_mem_nil,or_false] at hv ⊢;rcases hv with rfl | rfl | rfl <;> simp,e⟩)
     have Es:∀ b,W1.heap.size≤b∧b < w2.heap.size→¬ S b:=fun b hb e=>by
      rw [hS] at e
      rcases e with e | e
      ·omega
      ·have:=E8 b e;omega
     have Ck:Adds w4.heap.size M S y.1.1 y.2.n (.slice Bl y.1.2.length Bi) (.slice A7 y.2.sums.length A8) (.slice A9 y.2.mins.length A6) (.slice A4 y.2.maxs.length Ba) (.slice s3 x.2.sums.length t3) (.slice s4 x.2.mins.length t4) (.slice s5 x.2.maxs.length t5) y.2.sums y.2.mins y.2.maxs x.2.sums x.2.mins x.2.maxs W5:=
      ⟨G5.out,Eu.sums.weak fun _ _=>trivial,Eu.mins.weak fun _ _=>trivial,Eu.maxs.weak fun _ _=>trivial,A0 _ (by simp),A0 _ (by simp),A0 _ (by simp),Eq.sums.weak Es,Eq.mins.weak Es,Eq.maxs.weak Es⟩
     have F8:Wr w4.heap.size (.slice A7 y.2.sums.length A8) (.slice A9 y.2.mins.length A6) (.slice A4 y.2.maxs.length Ba) S:=by
      have Hk:wr.heap.size≤w4.heap.size:=by omega
      refine ⟨by rw [hS];exact .inl rfl,fun b hb => ?_,fun b hb => ?_,fun b hb => ?_,Ev.1,Ev.2.1,Ev.2.2⟩
      all_goals
       have Fp:b ∈ muts [.slice A7 y.2.sums.length A8,.slice A9 y.2.mins.length A6,.slice A4 y.2.maxs.length Ba]:=mem_muts (by simp) hb
       exact ⟨by rw [hS];exact .inr Fp,by have:=E8 b Fp;omega⟩
     have Er:=hp.1.len
     have Cb:=hx.len
     have Gl:=hp.1.one
     have Gk:=hx.one
     have Gq:=Hd (add_any w4.heap.size M S y.1.1 y.2.n x.1.1 x.2.n _ _ _ _ _ _ _ y.2.sums y.2.mins y.2.maxs x.2.sums x.2.mins x.2.maxs Bl sd y.1.2.length Bi x.1.2.length td W5 Ck F8 rfl Er.1 Er.2.1 Er.2.2 Cb.1 Cb.2.1 Cb.2.2 ⟨by omega,by omega⟩ (Tess.pay_sum hp.1 hx F3))
     have Fx:=Hd hS
     clear Ck F8 Er Cb Gl Gk hS Es E8 Eq Eu A0 G3 Cy E0 Fr Ev F3 hp
     refine Gq.out.mono ?_
     rintro e w6 ⟨rfl,Ep,Dd⟩
     obtain ⟨g2,G1,Hq,Dh,G8,Cz,_,⟨G4,Co⟩,⟨_,Dk⟩,Cj,Dx⟩:=Bu.out.row hkL
     simp only [Value.slice.injEq,Option.some.injEq,Addr.mk.injEq] at Dh
     obtain ⟨⟨rfl,_⟩,_,rfl⟩:=Dh
     rw [D2.out] at Dk
     subst Dk
     have Ft:∀ b ∈ muts [.int .i64 y.1.1,.slice Bl y.1.2.length Bi,.int .i64 y.2.n,.slice A7 y.2.sums.length A8,.slice A9 y.2.mins.length A6,.slice A4 y.2.maxs.length Ba],w.heap.size + 1≤b∧b≠g:=fun b hb=>Cj.iM b hb
     have Dv:∀ b,S b→w.heap.size + 1≤b∧b≠g:=fun b hb=>by
      rw [Fx.out] at hb
      rcases hb with rfl | hb
      ·exact ⟨by omega,by omega⟩
      ·refine Ft b ?_
       obtain ⟨v,hv,e⟩:=List.mem_filterMap.1 hb
       exact List.mem_filterMap.2 ⟨v,by simp only [List.mem_cons,List.not_mem_nil,or_false] at hv ⊢;rcases hv with rfl | rfl | rfl <;> simp,e⟩
     have Cp:=(Dd.block g Cz fun e=>(Dv g e).2 rfl).trans Co
     have Cc:=(Dd.block w.heap.size (Array.getElem?_eq_some_iff.1 Df.out).1 fun e=>by have:=(Dv _ e).1;omega).trans Df.out
     have Ht:=(cob Cc).1
     obtain ⟨⟨m0,m1,m2,m3,m4,m5⟩,_⟩:=can6 Ep.box
     have z:∀ i,i < 6→w6.cell? ⟨g,k' * 6 + i,none⟩=_:=fun i hi=>(World.cell?_of_block (a:=⟨g,k' * 6 + i,none⟩) (Dd.block g Cz fun e=>(Dv g e).2 rfl)).trans (Dx i hi)
     have z0:w6.cell? ⟨g,k' * 6,none⟩=some (.int .i64 y.1.1):=z 0 (by omega)
     have z1:w6.cell? ⟨g,k' * 6 + 1,none⟩=some (.slice Bl y.1.2.length Bi):=z 1 (by omega)
     have z2:w6.cell? ⟨g,k' * 6 + 2,none⟩=some (.int .i64 y.2.n):=z 2 (by omega)
     have z3:w6.cell? ⟨g,k' * 6 + 3,none⟩=some (.slice A7 y.2.sums.length A8):=z 3 (by omega)
     have z4:w6.cell? ⟨g,k' * 6 + 4,none⟩=some (.slice A9 y.2.mins.length A6):=z 4 (by omega)
     have z5:w6.cell? ⟨g,k' * 6 + 5,none⟩=some (.slice A4 y.2.maxs.length Ba):=z 5 (by omega)
     have q0:=frozen_of_row w6 g (k' * 6) _ _ Cp
     have q1:=frozen_of_row w6 g (k' * 6 + 1) _ _ Cp
     have q2:=frozen_of_row w6 g (k' * 6 + 2) _ _ Cp
     have q3:=frozen_of_row w6 g (k' * 6 + 3) _ _ Cp
     have q4:=frozen_of_row w6 g (k' * 6 + 4) _ _ Cp
     have q5:=frozen_of_row w6 g (k' * 6 + 5) _ _ Cp
     have Gg:g < w6.heap.size:=Nat.lt_of_lt_of_le Cz Dd.size
     have Gw:w4.heap.size < w6.heap.size:=(Array.getElem?_eq_some_iff.1 Ep.box).1
     have Hj:w.heap.size < w6.heap.size:=(Array.getElem?_eq_some_iff.1 Cc).1
     have C3:=Hd Ep
     have Fl:=Hd Dd
     have E5:=Hd Cc
     have G2:=Hd Dv
     clear Ep Dd Cc Dv Ft Cp z Dx Cj Co g0 g1 g2 g3 g4 g5 F6 Gn Hc Gp Ha Gz Gx
     go_simp
     go_wp2_with (fail)
     have Be:us.length=L.length:=Bu.out.own.len
     have h5:PS (w.heap.size + 1) W5 (.slice (some ⟨g,0,none⟩) us.length lc) us L:=by rw [Be];exact Bu.out
     have h7:=h5.replace (y:=y.2.add x.2) (n':=y.2.n + x.2.n) hkL Fl.out Ew D2.out (by rw [Di.out]) (fun b hb=>by rw [Fx.out] at hb;exact hb)
      (.inr ⟨fun j hj hb=>by have:=(F0.out j hj _ hb).2;have:=C1.out.2;have:=C6.out.size;have:=Fk.out.2;omega,by omega⟩)
      C3.out.ls C3.out.lm C3.out.lx C3.out.fs C3.out.fm C3.out.fx rfl
     rw [Be] at h7
     have Do:L.set k' (L[k'].1,y.2.add x.2)=fold ckLt Pay.add (C.take (k + 1)):=by
      rw [Tess.ft2 hlt,Dj.out,← Cd.out]
      have e1:ckLt L[k'].1 x.1=false:=by
       cases hh:ckLt L[k'].1 x.1
       ·rfl
       ·have:=(C5.out k' hkL).1 hh;omega
      have e2:ckLt x.1 L[k'].1=false:=by rw [Di.out];exact HR.out
      rw [Tess.Kl.ins_at hkL (fun j hj hjk=>(C5.out j hj).2 hjk) e1 e2,Di.out]
     rw [Do] at h7
     have Ge:∀ i (u:Value) (V:World),Below w.heap.size w V→Below w.heap.size w (V.setCell ⟨g,i,none⟩ u):=fun i u V hV=>hV.setCell (by show w.heap.size≤g;omega) _
     have Fg:Below w.heap.size w w6:=(Bt HB.out Gd.out).trans (Fl.out.below (Bt HB.out Gd.out).size fun b hb=>by have:=(G2.out b hb).1;omega)
     have A5:=Hd h7
     have Go:=Hd Fg
     have C9:=Hd Ge
     clear h7 Fg Ge h5 Do
     have E7:=(so4 (k:=k') (.int .i64 y.1.1) (.slice Bl y.1.2.length Bi) (.int .i64 (y.2.n + x.2.n)) (.slice A7 y.2.sums.length A8) (.slice A9 y.2.mins.length A6) (.slice A4 y.2.maxs.length Ba) (show w.heap.size≠g by omega)).trans E5.out
     have E9:=Hd E7
     go_roundw
     case rel=>exact ⟨k + 1,_,_,by omega,by go_num,E9.out,A5.out,fun h=>by omega,C9.out _ _ _ (C9.out _ _ _ (C9.out _ _ _ (C9.out _ _ _ (C9.out _ _ _ (C9.out _ _ _ Go.out)))))⟩
     case measure=>simp [intOf];omega
    ·obtain ⟨i0,hi,D4,Bg,Eb⟩:=info_parts iC
     obtain ⟨wm,Ac,Ca,B0,Cn,A1⟩:=rms (P:=Tryz.prog) w4 28 56 i0 _ 6 Tryz.underlying28 hi D4 Bg .i64 .i64 k' (L.length + 1) (by omega) (by rw [Eb];omega) (by unfold maxLen;omega)
     simp only [Int.natCast_add,Int.natCast_one] at Ca
     have fm:=(cob ((A1.block _ At).trans Af.out)).1
     have C7:w.heap.size < wm.heap.size:=Nat.lt_of_lt_of_le At A1.size
     have Be:us.length=L.length:=Ai.out.own.len
     have Ak:=Ai.out.own.lens cn2
     have Aq:=Ai.out.own.ones cn2
     have Cw:=ft3 (k:=k') Ak (by omega)
     have Cr:=fl2 us Ak
     have A2:w4.ownsRow (w.heap.size + 1) 56 6 (.slice (some ⟨g,0,none⟩) us.length lc) us.length us.flatten:=by have:=Ai.out.own.own;rwa [← Be] at this
     have Aw:=ob2 A2 A1
     obtain ⟨Ax,Ao⟩:∃ Ax,Ax=us.flatten.take (k' * 6):=⟨_,rfl⟩
     have Av:Ax.length=k' * 6:=by rw [Ao,List.length_take,Cr];omega
     have Bh:=rcr (P:=Tryz.prog) wm 28 28 3 56 w4.heap.size 0 k' (L.length + 1) 6 ⟨g,0,none⟩ k' k' Ac 56 Ax Tryz.underlying28 (by rw [hi];simp [Bg]) B0 (by rw [Av,show Nat.min k' k'=k' from Nat.min_self k']) (fun j v hv=>by
      have hj:j < k' * 6:=by rw [← Av];exact (List.getElem?_eq_some_iff.1 hv).1
      rw [Addr.add_lit,Nat.zero_add,Aw.cellAt j (by omega),← hv,Ao,List.getElem?_take,if_pos hj]) (by omega) (fun v hv=>Aq v (List.mem_of_mem_take (by rw [← Ao];exact hv)))
     rw [show Nat.min k' k'=k' from Nat.min_self k'] at Bh
     obtain ⟨wc,B3⟩:∃ wc,wm.setRow w4.heap.size (Ac.toList.take 0 ++ Ax ++ Ac.toList.drop (0 + Ax.length)).toArray=wc:=⟨_,rfl⟩
     obtain ⟨Ab,Aj⟩:∃ Ab,Ab=over Ac 0 Ax:=⟨_,rfl⟩
     have Dn:wc.heap[w4.heap.size]? = some (.cells Ab 56 (0,0)):=by rw [← B3,Aj];exact setRow_heap wm _ Ac _ _ _ B0
     have Bn:Ab.size=(L.length + 1) * 6:=by rw [Aj,os5 (by omega),Cn]
     have Bw:Ab.toList.take (k' * 6)=(us.take k').flatten:=by
      have:=ot2 (cur:=Ac) (n:=0) (cs:=Ax) (by omega)
      rw [Nat.zero_add,Av,← Aj] at this
      rw [this,Ao,Cw.1];simp
     have By:Below w4.heap.size w4 wc:=A1.trans (by rw [← B3];exact ⟨rfl,rfl,rfl,by rw [setRow_size];exact Nat.le_refl _,fun j hj=>setRow_other wm _ j _ (by omega)⟩)
     rw [B3] at Bh
     have Cq:=Hd Be
     have Fd:=Hd Ak
     have Fc:=Hd Aq
     have Ey:=Hd Cw
     have F2:=Hd Cr
     have Ci:=Hd Dn
     have Az:=Hd Bn
     have Bv:=Hd Bw
     have Bb:=Hd By
     have Dw:w.heap.size < wc.heap.size:=Nat.lt_of_lt_of_le At By.size
     clear B3 B0 Cn A1 Aj Be Ak Aq Cw Cr Dn Bn Bw A2 Aw Av Ao
     have fc:=(cob ((By.block _ At).trans Af.out)).1
     clear By
     have D9:=Hd Bh
     clear Bh
     go_simp
     go_wp2_with (fail)
     rw [D9.out]
     clear Ca fm C7
     go_simp
     go_wp2_with (fail)
     obtain ⟨CS,Cm⟩:∃ CS:List Value,CS=[.int .i64 x.1.1,.slice sd x.1.2.length td,.int .i64 x.2.n,.slice s3 x.2.sums.length t3,.slice s4 x.2.mins.length t4,.slice s5 x.2.maxs.length t5]:=⟨_,rfl⟩
     have Ap:=Hd Cm
     clear Cm
     have Ed:=Hd ((Bb.out.block _ Bm).trans De.out)
     have B6:w2.heap.size < wc.heap.size:=Nat.lt_of_lt_of_le Bm Bb.out.size
     have Bo:=Hd ((Bb.out.block _ At).trans Af.out)
     have Bd:=Hd (show w.heap.size < w4.heap.size∧w2.heap.size < w4.heap.size∧w4.heap.size < wc.heap.size from ⟨At,Bm,(Array.getElem?_eq_some_iff.1 Ci.out).1⟩)
     have Dg:=Hd (fun V (hw:(one w4.heap.size (.cells Ab 56 (0,0)) (.cells (over Ab (k' * 6) CS) 56 (0,0))).r wc V)=>(can6 ((ob3 hw B6 (by have:=Bd.out;omega)).trans Ed.out)).1)
     have Eg:=Hd (fun V (hw:(one w4.heap.size (.cells Ab 56 (0,0)) (.cells (over Ab (k' * 6) CS) 56 (0,0))).r wc V)=>(cob ((ob3 hw Dw (by have:=Bd.out;omega)).trans Bo.out)).1)
     have Bf:k'≤L.length:=Gi
     clear B6
     refine FlowR.wrf (R:=one w4.heap.size (.cells Ab 56 (0,0)) (.cells (over Ab (k' * 6) CS) 56 (0,0))) 8 (FlowR.sp3 44 (fun _ => .inl undef) (.inl ?_ :: .inl ?_ :: .inl ?_ :: .inr (newRow w4.heap.size CS) :: .inr (tT2 w4.heap.size (.cells (over Ab (k' * 6) CS) 56 (0,0)) (.slice (some ⟨w4.heap.size,0,none⟩) (k' + 1) (L.length + 1))) :: .inl ?_ :: .inl ?_ :: .inl ?_ :: [])) (fun _=>0) (FlowR.so5 (by kernel_rfl)) (by kernel_rfl) (by kernel_rfl) ?_ ?_
     rotate_left 6
     ·refine FlowR.sm2 (fun x=>FlowR.mi _) ?_
      repeat (first | exact FlowR.ln2 | refine FlowR.li2 ?_ | refine FlowR.li3 (nRm _) ?_ | refine FlowR.li3 (tTm _) ?_)
     all_goals try simp only [List.take_succ_cons,List.take_zero,List.drop_succ_cons,List.drop_zero]
     iterate 3 (refine FlowR.tvK rfl (fun K hK=>⟨fun V hw hG => ?_,?_⟩);(obtain ⟨t1,t2,t3,t4,t5,t6⟩:=Dg.out V hw;clear hG hw;unfold FlowR.Runs FlowR.yields;go_simp;try rfl);go_simp;refine hK _ ?_;clear hK K)
     (refine FlowR.tvK2 rfl (fun K hK=>⟨fun V hw hG => ?_,?_⟩);(have Dy:w4.heap.size < V.heap.size:=(Nat.lt_of_lt_of_le Bd.out.2.2 hw.2.2.2.1);clear hG hw;unfold FlowR.Runs FlowR.yields;go_simp;exact ⟨oa4 Dy _,(⟨V.heap.size,rfl,by simp,by omega,fun j u hu=>by rw [cell_of_row _ _ _ _ _ _ (heap_alloc_new _ _)];rw [Ap.out] at hu;simpa using hu⟩:newRow w4.heap.size CS (.slice (some ⟨V.heap.size,0,none⟩) 1 1) (V.alloc _))⟩);intro vr;go_simp;refine hK _ _ ?_;clear hK K)
     (refine FlowR.tvK2 rfl (fun K hK=>⟨fun V hw hG => ?_,?_⟩);(have Ch:=(show newRow w4.heap.size CS vr V by simpa [FlowR.upd] using hG 3 (by kernel_rfl));obtain ⟨V2,Br,D8,Ef⟩:=oa3 (P:=Tryz.prog) (ty:=28) (t:=28) (n:=k') (cap:=L.length + 1) Tryz.underlying28 hi Bg hw Ci.out (by rw [Ap.out];rfl) (by rw [Ap.out];intro u hu;simp only [List.mem_cons,List.not_mem_nil,or_false] at hu;rcases hu with rfl | rfl | rfl | rfl | rfl | rfl <;> rfl) Az.out (by omega) Ch;clear hG hw Ch;exact ra2 (t:=28) (.tmp 62) (.tmp 65) rfl rfl rfl rfl Br D8 Ef);intro vt;go_simp;refine hK _ _ ?_;clear hK K)
     iterate 3 (refine FlowR.tvK rfl (fun K hK=>⟨fun V hw hG => ?_,?_⟩);(have Em:=Eg.out V hw;clear hG hw;unfold FlowR.Runs FlowR.yields;go_simp;try rfl);go_simp;refine hK _ ?_;clear hK K)
     refine FlowR.tn2 fun w8 hw8 hG => ?_
     obtain ⟨rfl,Ce⟩:=(show tT2 w4.heap.size (.cells (over Ab (k' * 6) CS) 56 (0,0)) (.slice (some ⟨w4.heap.size,0,none⟩) (k' + 1) (L.length + 1)) vt w8 by simpa [FlowR.upd] using hG 4)
     clear hG
     have Bk:Below w4.heap.size w4 w8:=Bb.out.trans (ob4 hw8 (Nat.le_refl _) (by have:=Bd.out;omega))
     have Ay:CS.length=6:=by rw [Ap.out];rfl
     have Al:=oo2 (N:=w.heap.size + 1) (n:=k') (cap:=L.length + 1) (by omega) Ce Ay Az.out (by omega) (by unfold maxLen;omega) Bv.out
     have B7:=Ai.out.below Bk
     have A3:∀ j u,(us.drop k').flatten[j]? = some u→w8.cell? ((⟨g,k' * 6,none⟩:Addr).add j)=some u:=fun j u hu=>by
      have ho:=B7.own.own
      rw [← Cq.out] at ho
      rw [← Ey.out.2,List.getElem?_drop] at hu
      have Ds:k' * 6 + j < us.flatten.length:=(List.getElem?_eq_some_iff.1 hu).1
      rw [Addr.add_lit,ho.cellAt (k' * 6 + j) (by rw [F2.out] at Ds;exact Ds)]
      exact hu
     have Ek:(us.drop k').flatten.length=(L.length - k') * 6:=by rw [fl2 _ fun u hu=>Fd.out u (List.mem_of_mem_drop hu),List.length_drop,Cq.out]
     have El:∀ u ∈ (us.drop k').flatten,u.oneCell'=true:=fun u hu=>Fc.out u (by rw [← Ey.out.2] at hu;exact List.mem_of_mem_drop hu)
     have e9:k' + 1 + (L.length - k')=L.length + 1:=by omega
     refine wpList_append_own_spare _ rfl _ _ 28 rfl (w.heap.size + 1) 56 i0 6 Tryz.underlying28 hi Bg w4.heap.size (k' + 1) (L.length + 1) _ rfl Al ⟨g,k' * 6,none⟩ (L.length - k') (lc - k') (us.drop k').flatten (by simp only [Act.eval];go_simp;intro e;omega) Ek A3 El (by omega) ?_
     intro w9 Ah Aa
     rw [e9] at Ah ⊢
     have Au:Below w4.heap.size w4 w9:=Bk.trans ⟨Aa.1,Aa.2,Aa.3,Aa.4,fun j hj=>Aa.5 j (by have:=Bk.size;omega) (by intro e;cases e;omega)⟩
     have Du:w.heap.size < wr.heap.size:=(Array.getElem?_eq_some_iff.1 Dp.out).1
     have Dq:=C1.out.2
     have Cy:=C6.out.size
     have Ar:=C2.out
     rw [← Cd.out] at Ar
     have Cf:CA3 (fun b=>w.heap.size + 1≤b∧wr.heap.size≤b∧(Value.slice (some ⟨w4.heap.size,0,none⟩) (L.length + 1) (L.length + 1)).ownBlock≠some b) w9 CS x:=by
      rw [Ap.out]
      exact (C4.out.ag (Ag.new _ Au)).weak fun b hb=>⟨by have:=hb.1;omega,by have:=hb.1;omega,fun e=>by have h1:w4.heap.size=b:=Option.some.inj e;have h2:=hb.2;omega⟩
     have Am:=PS.insert (k:=k') Ar (Bt B4.out Au) Bf (v':=.slice (some ⟨w4.heap.size,0,none⟩) (L.length + 1) (L.length + 1)) (fun b e=>by have:=Option.some.inj e;change w4.heap.size=b at this;omega) Ah Cf (by rw [Ap.out];exact Cx.out) (by rw [Ap.out];exact Bq.out.below Au)
     have Ad:=Am.setBox (g:=w.heap.size) (i:=0) (by omega) (.slice (some ⟨w4.heap.size,0,none⟩) (L.length + 1) (L.length + 1))
     have An:L.take k' ++ x :: L.drop k'=fold ckLt Pay.add (C.take (k + 1)):=by
      rw [Tess.ft2 hlt,Dj.out,← Cd.out]
      exact (Tess.Kl.ih4 Bf (fun j hj hjk=>(C5.out j hj).2 hjk) (fun h=>⟨by
       cases hh:ckLt L[k'].1 x.1
       ·rfl
       ·have:=(C5.out k' h).1 hh;omega,by rw [Di.out];exact HR.out⟩)).symm
     rw [An] at Ad
     have Ae:=(Au.block _ At).trans Af.out
     have Cg:=heap_setCell_same w9 w.heap.size 0 _ _ (.slice (some ⟨w4.heap.size,0,none⟩) (L.length + 1) (L.length + 1)) Ae
     have A5:=Hd Ad
     have Ec:=Hd Cg
     have Dl:=Hd (show Below w.heap.size w (w9.setCell ⟨w.heap.size,0,none⟩ (.slice (some ⟨w4.heap.size,0,none⟩) (L.length + 1) (L.length + 1))) from (Bt HB.out (Bt B4.out Au)).setCell (Nat.le_refl _) _)
     have Fw:=(cob Ae).1
     have Ff:=(cob Ae).2
     have Fs:w.heap.size < w9.heap.size:=(Array.getElem?_eq_some_iff.1 Ae).1
     clear Aa Du Dq Cy Ar Cf Am Ad Cg Ae Ah Au Ek El A3 B7 Al Ay Bk Ce hw8 An
     go_simp
     go_wp2_with (fail)
     go_roundw
     case rel=>exact ⟨k + 1,_,_,by omega,by go_num,Ec.out,A5.out,fun h=>by omega,Dl.out⟩
     case measure=>simp [intOf];omega
   ·have E6:k'=L.length:=by omega
    subst E6
    clear hkL
    have E1:¬ (L.length:Int) < (L.length:Int):=by omega
    clear g0 g1 g2 g3 g4 g5
    go_wp2_with (fail)
    refine Flow.wrf2 (Flow.sp3 [.inl ?_,.inl ?_,.inl ?_,.inl (.bool false),.inl (.bool false),.inl undef,.inl undef,.inl undef,.inl undef,.inl undef,.inl undef,.inl undef,.inl (.bool false)]) (by kernel_rfl) (by kernel_rfl) ?_ ?_
    rotate_left 3
    ·refine Flow.sm2 ?_
     repeat (first | exact Flow.ln2 | refine Flow.li2 ?_)
    iterate 13 (refine Flow.tvK rfl (fun K hK=>⟨fun w hw hG => ?_,?_⟩);(have Em:=Flow.bc4 hw;clear hG hw;unfold Flow.Runs Flow.yields;go_simp;try rfl);go_simp;refine hK _ ?_;clear hK K)
    refine Flow.tn2 fun w4 hw4 hG => ?_
    clear hG
    have B4:=Hd (Bt Eo.out hw4)
    have Ai:=Hd (Bp.out.below hw4)
    have Af:=Hd ((hw4.block _ Db).trans Bz.out)
    have De:=Hd ((hw4.block _ C8).trans Ez.out)
    have C4:=Hd (En.out.ag (Ag.new _ hw4))
    have Bq:=Hd (B5.out.below hw4)
    have F6:=(cob Af.out).1
    have At:w.heap.size < w4.heap.size:=Nat.lt_of_lt_of_le Db hw4.size
    have Bm:w2.heap.size < w4.heap.size:=Nat.lt_of_lt_of_le C8 hw4.size
    have Gh:L.length≤lc:=by
     obtain ⟨_,_,e,h1,_⟩:=Ai.out.shape
     cases e
     exact h1
    clear hw4 Eo Bp Bz Ez En B5 Fj Db C8 Ct
    rcases G7.out with ⟨rfl,rfl,Gm⟩ | ⟨g,rfl,_,_⟩
    ·obtain rfl:L=[]:=List.length_eq_zero_iff.1 Gm
     simp only [List.length_nil,Int.natCast_zero] at *
     obtain ⟨i0,hi,D4,Bg,Eb⟩:=info_parts iC
     obtain ⟨wm,Ac,Ca,B0,Cn,A1⟩:=rms (P:=Tryz.prog) w4 28 56 i0 _ 6 Tryz.underlying28 hi D4 Bg .i64 .i64 0 (0 + 1) (by omega) (by rw [Eb];omega) (by unfold maxLen;omega)
     replace Ca:Sem.run Tryz.prog (Instr.makeSlice 28 (.int .i64 0) (.int .i64 1)) w4 = .ok (.slice (some ⟨w4.heap.size,0,none⟩) 0 1) wm:=Ca
     have fm:=(cob ((A1.block _ At).trans Af.out)).1
     have C7:w.heap.size < wm.heap.size:=Nat.lt_of_lt_of_le At A1.size
     have Be:us.length=0:=Ai.out.own.len
     have Bh:=rcn (P:=Tryz.prog) wm 28 28 3 56 (some ⟨w4.heap.size,0,none⟩) 0 1 6 Tryz.underlying28 (by rw [hi];simp [Bg])
     have D9:=Hd Bh
     have Cq:=Hd Be
     have Ci:=Hd B0
     have Az:=Hd (show Ac.size=(0 + 1) * 6 from Cn)
     have Bv:=Hd (show Ac.toList.take (0 * 6)=(us.take 0).flatten by simp)
     have Bb:=Hd A1
     have By:=A1
     have Dw:w.heap.size < wm.heap.size:=C7
     clear Be Bh B0 Cn A1
     clear By
     go_simp
     go_wp2_with (fail)
     rw [D9.out]
     clear Ca C7
     go_simp
     go_wp2_with (fail)
     obtain ⟨CS,Cm⟩:∃ CS:List Value,CS=[.int .i64 x.1.1,.slice sd x.1.2.length td,.int .i64 x.2.n,.slice s3 x.2.sums.length t3,.slice s4 x.2.mins.length t4,.slice s5 x.2.maxs.length t5]:=⟨_,rfl⟩
     have Ap:=Hd Cm
     clear Cm
     have Ed:=Hd ((Bb.out.block _ Bm).trans De.out)
     have B6:w2.heap.size < wm.heap.size:=Nat.lt_of_lt_of_le Bm Bb.out.size
     have Bo:=Hd ((Bb.out.block _ At).trans Af.out)
     have Bd:=Hd (show w.heap.size < w4.heap.size∧w2.heap.size < w4.heap.size∧w4.heap.size < wm.heap.size from ⟨At,Bm,(Array.getElem?_eq_some_iff.1 Ci.out).1⟩)
     have Dg:=Hd (fun V (hw:(one w4.heap.size (.cells Ac 56 (0,0)) (.cells (over Ac (0 * 6) CS) 56 (0,0))).r wm V)=>(can6 ((ob3 hw B6 (by have:=Bd.out;omega)).trans Ed.out)).1)
     have Eg:=Hd (fun V (hw:(one w4.heap.size (.cells Ac 56 (0,0)) (.cells (over Ac (0 * 6) CS) 56 (0,0))).r wm V)=>(cob ((ob3 hw Dw (by have:=Bd.out;omega)).trans Bo.out)).1)
     have Bf:0≤([]:List (CK×Pay)).length:=Nat.le_refl _
     clear B6
     refine FlowR.wrf (R:=one w4.heap.size (.cells Ac 56 (0,0)) (.cells (over Ac (0 * 6) CS) 56 (0,0))) 8 (FlowR.sp3 44 (fun _ => .inl undef) (.inl ?_ :: .inl ?_ :: .inl ?_ :: .inr (newRow w4.heap.size CS) :: .inr (tT2 w4.heap.size (.cells (over Ac (0 * 6) CS) 56 (0,0)) (.slice (some ⟨w4.heap.size,0,none⟩) (0 + 1) (0 + 1))) :: .inl ?_ :: .inl ?_ :: .inl ?_ :: [])) (fun _=>0) (FlowR.so5 (by kernel_rfl)) (by kernel_rfl) (by kernel_rfl) ?_ ?_
     rotate_left 6
     ·refine FlowR.sm2 (fun x=>FlowR.mi _) ?_
      repeat (first | exact FlowR.ln2 | refine FlowR.li2 ?_ | refine FlowR.li3 (nRm _) ?_ | refine FlowR.li3 (tTm _) ?_)
     all_goals try simp only [List.take_succ_cons,List.take_zero,List.drop_succ_cons,List.drop_zero]
     iterate 3 (refine FlowR.tvK rfl (fun K hK=>⟨fun V hw hG => ?_,?_⟩);(obtain ⟨t1,t2,t3,t4,t5,t6⟩:=Dg.out V hw;clear hG hw;unfold FlowR.Runs FlowR.yields;go_simp;try rfl);go_simp;refine hK _ ?_;clear hK K)
     (refine FlowR.tvK2 rfl (fun K hK=>⟨fun V hw hG => ?_,?_⟩);(have Dy:w4.heap.size < V.heap.size:=(Nat.lt_of_lt_of_le Bd.out.2.2 hw.2.2.2.1);clear hG hw;unfold FlowR.Runs FlowR.yields;go_simp;exact ⟨oa4 Dy _,(⟨V.heap.size,rfl,by simp,by omega,fun j u hu=>by rw [cell_of_row _ _ _ _ _ _ (heap_alloc_new _ _)];rw [Ap.out] at hu;simpa using hu⟩:newRow w4.heap.size CS (.slice (some ⟨V.heap.size,0,none⟩) 1 1) (V.alloc _))⟩);intro vr;go_simp;refine hK _ _ ?_;clear hK K)
     (refine FlowR.tvK2 rfl (fun K hK=>⟨fun V hw hG => ?_,?_⟩);(have Ch:=(show newRow w4.heap.size CS vr V by simpa [FlowR.upd] using hG 3 (by kernel_rfl));obtain ⟨V2,Br,D8,Ef⟩:=oa3 (P:=Tryz.prog) (ty:=28) (t:=28) (n:=0) (cap:=0 + 1) Tryz.underlying28 hi Bg hw Ci.out (by rw [Ap.out];rfl) (by rw [Ap.out];intro u hu;simp only [List.mem_cons,List.not_mem_nil,or_false] at hu;rcases hu with rfl | rfl | rfl | rfl | rfl | rfl <;> rfl) Az.out (by omega) Ch;clear hG hw Ch;exact ra2 (t:=28) (.tmp 62) (.tmp 65) rfl rfl rfl rfl Br D8 Ef);intro vt;go_simp;refine hK _ _ ?_;clear hK K)
     iterate 3 (refine FlowR.tvK rfl (fun K hK=>⟨fun V hw hG => ?_,?_⟩);(have Em:=Eg.out V hw;clear hG hw;unfold FlowR.Runs FlowR.yields;go_simp;try rfl);go_simp;refine hK _ ?_;clear hK K)
     refine FlowR.tn2 fun w8 hw8 hG => ?_
     obtain ⟨rfl,Ce⟩:=(show tT2 w4.heap.size (.cells (over Ac (0 * 6) CS) 56 (0,0)) (.slice (some ⟨w4.heap.size,0,none⟩) (0 + 1) (0 + 1)) vt w8 by simpa [FlowR.upd] using hG 4)
     clear hG
     have Bk:Below w4.heap.size w4 w8:=Bb.out.trans (ob4 hw8 (Nat.le_refl _) (by have:=Bd.out;omega))
     have Ay:CS.length=6:=by rw [Ap.out];rfl
     have Al:=oo2 (N:=w.heap.size + 1) (n:=0) (cap:=0 + 1) (by omega) Ce Ay Az.out (by omega) (by unfold maxLen;omega) Bv.out
     refine wLa3 rfl _ _ 28 rfl 56 i0 Tryz.underlying28 hi ⟨w4.heap.size,0,none⟩ (0 + 1) (0 + 1) rfl rfl (Nat.le_refl _) ?_
     have Ah:w8.ownsRow (w.heap.size + 1) 56 6 (.slice (some ⟨w4.heap.size,0,none⟩) (0 + 1) (0 + 1)) (([]:List (CK×Pay)).length + 1) ((us.take 0).flatten ++ CS ++ (us.drop 0).flatten):=by
      have:us=[]:=List.length_eq_zero_iff.1 Cq.out
      subst this
      simpa using Al
     have Au:=Bk
     have Du:w.heap.size < wr.heap.size:=(Array.getElem?_eq_some_iff.1 Dp.out).1
     have Dq:=C1.out.2
     have Cy:=C6.out.size
     have Ar:=C2.out
     rw [← Cd.out] at Ar
     have Cf:CA3 (fun b=>w.heap.size + 1≤b∧wr.heap.size≤b∧(Value.slice (some ⟨w4.heap.size,0,none⟩) (0 + 1) (0 + 1)).ownBlock≠some b) w8 CS x:=by
      rw [Ap.out]
      exact (C4.out.ag (Ag.new _ Au)).weak fun b hb=>⟨by have:=hb.1;omega,by have:=hb.1;omega,fun e=>by have h1:w4.heap.size=b:=Option.some.inj e;have h2:=hb.2;omega⟩
     have Am:=PS.insert (k:=0) Ar (Bt B4.out Au) Bf (v':=.slice (some ⟨w4.heap.size,0,none⟩) (0 + 1) (0 + 1)) (fun b e=>by have:=Option.some.inj e;change w4.heap.size=b at this;omega) Ah Cf (by rw [Ap.out];exact Cx.out) (by rw [Ap.out];exact Bq.out.below Au)
     have Ad:=Am.setBox (g:=w.heap.size) (i:=0) (by omega) (.slice (some ⟨w4.heap.size,0,none⟩) (0 + 1) (0 + 1))
     have An:([]:List (CK×Pay)).take 0 ++ x :: ([]:List (CK×Pay)).drop 0=fold ckLt Pay.add (C.take (k + 1)):=by
      rw [Tess.ft2 hlt,Dj.out,← Cd.out]
      exact (Tess.Kl.ih4 (L:=[]) (k:=0) (Nat.le_refl _) (fun j hj hjk=>(C5.out j hj).2 hjk) (fun h=>absurd h (Nat.lt_irrefl _))).symm
     rw [An] at Ad
     have Ae:=(Au.block _ At).trans Af.out
     have Cg:=heap_setCell_same w8 w.heap.size 0 _ _ (.slice (some ⟨w4.heap.size,0,none⟩) (0 + 1) (0 + 1)) Ae
     have A5:=Hd Ad
     have Ec:=Hd Cg
     have Dl:=Hd (show Below w.heap.size w (w8.setCell ⟨w.heap.size,0,none⟩ (.slice (some ⟨w4.heap.size,0,none⟩) (0 + 1) (0 + 1))) from (Bt HB.out (Bt B4.out Au)).setCell (Nat.le_refl _) _)
     have Fw:=(cob Ae).1
     have Ff:=(cob Ae).2
     have Fs:w.heap.size < w8.heap.size:=(Array.getElem?_eq_some_iff.1 Ae).1
     clear Du Dq Cy Ar Cf Am Ad Cg Ae Ah Au Al Ay Bk Ce hw8 An
     go_simp
     go_wp2_with (fail)
     go_roundw
     case rel=>exact ⟨k + 1,_,_,by omega,by go_num,Ec.out,A5.out,fun h=>by omega,Dl.out⟩
     case measure=>simp [intOf];omega
    ·obtain ⟨i0,hi,D4,Bg,Eb⟩:=info_parts iC
     obtain ⟨wm,Ac,Ca,B0,Cn,A1⟩:=rms (P:=Tryz.prog) w4 28 56 i0 _ 6 Tryz.underlying28 hi D4 Bg .i64 .i64 L.length (L.length + 1) (by omega) (by rw [Eb];omega) (by unfold maxLen;omega)
     simp only [Int.natCast_add,Int.natCast_one] at Ca
     have fm:=(cob ((A1.block _ At).trans Af.out)).1
     have C7:w.heap.size < wm.heap.size:=Nat.lt_of_lt_of_le At A1.size
     have Be:us.length=L.length:=Ai.out.own.len
     have Ak:=Ai.out.own.lens cn2
     have Aq:=Ai.out.own.ones cn2
     have Cw:=ft3 (k:=L.length) Ak (by omega)
     have Cr:=fl2 us Ak
     have A2:w4.ownsRow (w.heap.size + 1) 56 6 (.slice (some ⟨g,0,none⟩) us.length lc) us.length us.flatten:=by have:=Ai.out.own.own;rwa [← Be] at this
     have Aw:=ob2 A2 A1
     obtain ⟨Ax,Ao⟩:∃ Ax,Ax=us.flatten.take (L.length * 6):=⟨_,rfl⟩
     have Av:Ax.length=L.length * 6:=by rw [Ao,List.length_take,Cr];omega
     have Bh:=rcr (P:=Tryz.prog) wm 28 28 3 56 w4.heap.size 0 L.length (L.length + 1) 6 ⟨g,0,none⟩ L.length L.length Ac 56 Ax Tryz.underlying28 (by rw [hi];simp [Bg]) B0 (by rw [Av,show Nat.min L.length L.length=L.length from Nat.min_self L.length]) (fun j v hv=>by
      have hj:j < L.length * 6:=by rw [← Av];exact (List.getElem?_eq_some_iff.1 hv).1
      rw [Addr.add_lit,Nat.zero_add,Aw.cellAt j (by omega),← hv,Ao,List.getElem?_take,if_pos hj]) (by omega) (fun v hv=>Aq v (List.mem_of_mem_take (by rw [← Ao];exact hv)))
     rw [show Nat.min L.length L.length=L.length from Nat.min_self L.length] at Bh
     obtain ⟨wc,B3⟩:∃ wc,wm.setRow w4.heap.size (Ac.toList.take 0 ++ Ax ++ Ac.toList.drop (0 + Ax.length)).toArray=wc:=⟨_,rfl⟩
     obtain ⟨Ab,Aj⟩:∃ Ab,Ab=over Ac 0 Ax:=⟨_,rfl⟩
     have Dn:wc.heap[w4.heap.size]? = some (.cells Ab 56 (0,0)):=by rw [← B3,Aj];exact setRow_heap wm _ Ac _ _ _ B0
     have Bn:Ab.size=(L.length + 1) * 6:=by rw [Aj,os5 (by omega),Cn]
     have Bw:Ab.toList.take (L.length * 6)=(us.take L.length).flatten:=by
      have:=ot2 (cur:=Ac) (n:=0) (cs:=Ax) (by omega)
      rw [Nat.zero_add,Av,← Aj] at this
      rw [this,Ao,Cw.1];simp
     have By:Below w4.heap.size w4 wc:=A1.trans (by rw [← B3];exact ⟨rfl,rfl,rfl,by rw [setRow_size];exact Nat.le_refl _,fun j hj=>setRow_other wm _ j _ (by omega)⟩)
     rw [B3] at Bh
     have Cq:=Hd Be
     have Fd:=Hd Ak
     have Fc:=Hd Aq
     have Ey:=Hd Cw
     have F2:=Hd Cr
     have Ci:=Hd Dn
     have Az:=Hd Bn
     have Bv:=Hd Bw
     have Bb:=Hd By
     have Dw:w.heap.size < wc.heap.size:=Nat.lt_of_lt_of_le At By.size
     clear B3 B0 Cn A1 Aj Be Ak Aq Cw Cr Dn Bn Bw A2 Aw Av Ao
     have fc:=(cob ((By.block _ At).trans Af.out)).1
     clear By
     have D9:=Hd Bh
     clear Bh
     go_simp
     go_wp2_with (fail)
     rw [D9.out]
     clear Ca fm C7
     go_simp
     go_wp2_with (fail)
     obtain ⟨CS,Cm⟩:∃ CS:List Value,CS=[.int .i64 x.1.1,.slice sd x.1.2.length td,.int .i64 x.2.n,.slice s3 x.2.sums.length t3,.slice s4 x.2.mins.length t4,.slice s5 x.2.maxs.length t5]:=⟨_,rfl⟩
     have Ap:=Hd Cm
     clear Cm
     have Ed:=Hd ((Bb.out.block _ Bm).trans De.out)
     have B6:w2.heap.size < wc.heap.size:=Nat.lt_of_lt_of_le Bm Bb.out.size
     have Bo:=Hd ((Bb.out.block _ At).trans Af.out)
     have Bd:=Hd (show w.heap.size < w4.heap.size∧w2.heap.size < w4.heap.size∧w4.heap.size < wc.heap.size from ⟨At,Bm,(Array.getElem?_eq_some_iff.1 Ci.out).1⟩)
     have Dg:=Hd (fun V (hw:(one w4.heap.size (.cells Ab 56 (0,0)) (.cells (over Ab (L.length * 6) CS) 56 (0,0))).r wc V)=>(can6 ((ob3 hw B6 (by have:=Bd.out;omega)).trans Ed.out)).1)
     have Eg:=Hd (fun V (hw:(one w4.heap.size (.cells Ab 56 (0,0)) (.cells (over Ab (L.length * 6) CS) 56 (0,0))).r wc V)=>(cob ((ob3 hw Dw (by have:=Bd.out;omega)).trans Bo.out)).1)
     have Bf:L.length≤L.length:=Nat.le_refl _
     clear B6
     refine FlowR.wrf (R:=one w4.heap.size (.cells Ab 56 (0,0)) (.cells (over Ab (L.length * 6) CS) 56 (0,0))) 8 (FlowR.sp3 44 (fun _ => .inl undef) (.inl ?_ :: .inl ?_ :: .inl ?_ :: .inr (newRow w4.heap.size CS) :: .inr (tT2 w4.heap.size (.cells (over Ab (L.length * 6) CS) 56 (0,0)) (.slice (some ⟨w4.heap.size,0,none⟩) (L.length + 1) (L.length + 1))) :: .inl ?_ :: .inl ?_ :: .inl ?_ :: [])) (fun _=>0) (FlowR.so5 (by kernel_rfl)) (by kernel_rfl) (by kernel_rfl) ?_ ?_
     rotate_left 6
     ·refine FlowR.sm2 (fun x=>FlowR.mi _) ?_
      repeat (first | exact FlowR.ln2 | refine FlowR.li2 ?_ | refine FlowR.li3 (nRm _) ?_ | refine FlowR.li3 (tTm _) ?_)
     all_goals try simp only [List.take_succ_cons,List.take_zero,List.drop_succ_cons,List.drop_zero]
     iterate 3 (refine FlowR.tvK rfl (fun K hK=>⟨fun V hw hG => ?_,?_⟩);(obtain ⟨t1,t2,t3,t4,t5,t6⟩:=Dg.out V hw;clear hG hw;unfold FlowR.Runs FlowR.yields;go_simp;try rfl);go_simp;refine hK _ ?_;clear hK K)
     (refine FlowR.tvK2 rfl (fun K hK=>⟨fun V hw hG => ?_,?_⟩);(have Dy:w4.heap.size < V.heap.size:=(Nat.lt_of_lt_of_le Bd.out.2.2 hw.2.2.2.1);clear hG hw;unfold FlowR.Runs FlowR.yields;go_simp;exact ⟨oa4 Dy _,(⟨V.heap.size,rfl,by simp,by omega,fun j u hu=>by rw [cell_of_row _ _ _ _ _ _ (heap_alloc_new _ _)];rw [Ap.out] at hu;simpa using hu⟩:newRow w4.heap.size CS (.slice (some ⟨V.heap.size,0,none⟩) 1 1) (V.alloc _))⟩);intro vr;go_simp;refine hK _ _ ?_;clear hK K)
     (refine FlowR.tvK2 rfl (fun K hK=>⟨fun V hw hG => ?_,?_⟩);(have Ch:=(show newRow w4.heap.size CS vr V by simpa [FlowR.upd] using hG 3 (by kernel_rfl));obtain ⟨V2,Br,D8,Ef⟩:=oa3 (P:=Tryz.prog) (ty:=28) (t:=28) (n:=L.length) (cap:=L.length + 1) Tryz.underlying28 hi Bg hw Ci.out (by rw [Ap.out];rfl) (by rw [Ap.out];intro u hu;simp only [List.mem_cons,List.not_mem_nil,or_false] at hu;rcases hu with rfl | rfl | rfl | rfl | rfl | rfl <;> rfl) Az.out (by omega) Ch;clear hG hw Ch;exact ra2 (t:=28) (.tmp 62) (.tmp 65) rfl rfl rfl rfl Br D8 Ef);intro vt;go_simp;refine hK _ _ ?_;clear hK K)
     iterate 3 (refine FlowR.tvK rfl (fun K hK=>⟨fun V hw hG => ?_,?_⟩);(have Em:=Eg.out V hw;clear hG hw;unfold FlowR.Runs FlowR.yields;go_simp;try rfl);go_simp;refine hK _ ?_;clear hK K)
     refine FlowR.tn2 fun w8 hw8 hG => ?_
     obtain ⟨rfl,Ce⟩:=(show tT2 w4.heap.size (.cells (over Ab (L.length * 6) CS) 56 (0,0)) (.slice (some ⟨w4.heap.size,0,none⟩) (L.length + 1) (L.length + 1)) vt w8 by simpa [FlowR.upd] using hG 4)
     clear hG
     have Bk:Below w4.heap.size w4 w8:=Bb.out.trans (ob4 hw8 (Nat.le_refl _) (by have:=Bd.out;omega))
     have Ay:CS.length=6:=by rw [Ap.out];rfl
     have Al:=oo2 (N:=w.heap.size + 1) (n:=L.length) (cap:=L.length + 1) (by omega) Ce Ay Az.out (by omega) (by unfold maxLen;omega) Bv.out
     have B7:=Ai.out.below Bk
     have Fo:(us.drop L.length).flatten=[]:=by rw [← Cq.out];simp
     have A3:∀ (ad:Addr) j u,(us.drop L.length).flatten[j]? = some u→w8.cell? (ad.add j)=some u:=fun ad j u hu=>by rw [Fo] at hu;simp at hu
     have Ek:(us.drop L.length).flatten.length=(L.length - L.length) * 6:=by rw [fl2 _ fun u hu=>Fd.out u (List.mem_of_mem_drop hu),List.length_drop,Cq.out]
     have El:∀ u ∈ (us.drop L.length).flatten,u.oneCell'=true:=fun u hu=>Fc.out u (by rw [← Ey.out.2] at hu;exact List.mem_of_mem_drop hu)
     have e9:L.length + 1 + (L.length - L.length)=L.length + 1:=by omega
     refine wpList_append_own_spare _ rfl _ _ 28 rfl (w.heap.size + 1) 56 i0 6 Tryz.underlying28 hi Bg w4.heap.size (L.length + 1) (L.length + 1) _ rfl Al ⟨g,if lc=L.length then 0 else L.length * 6,none⟩ (L.length - L.length) (lc - L.length) (us.drop L.length).flatten (by simp only [Act.eval];go_simp;split <;> rfl) Ek (A3 _) El (by omega) ?_
     intro w9 Ah Aa
     rw [e9] at Ah ⊢
     have Au:Below w4.heap.size w4 w9:=Bk.trans ⟨Aa.1,Aa.2,Aa.3,Aa.4,fun j hj=>Aa.5 j (by have:=Bk.size;omega) (by intro e;cases e;omega)⟩
     have Du:w.heap.size < wr.heap.size:=(Array.getElem?_eq_some_iff.1 Dp.out).1
     have Dq:=C1.out.2
     have Cy:=C6.out.size
     have Ar:=C2.out
     rw [← Cd.out] at Ar
     have Cf:CA3 (fun b=>w.heap.size + 1≤b∧wr.heap.size≤b∧(Value.slice (some ⟨w4.heap.size,0,none⟩) (L.length + 1) (L.length + 1)).ownBlock≠some b) w9 CS x:=by
      rw [Ap.out]
      exact (C4.out.ag (Ag.new _ Au)).weak fun b hb=>⟨by have:=hb.1;omega,by have:=hb.1;omega,fun e=>by have h1:w4.heap.size=b:=Option.some.inj e;have h2:=hb.2;omega⟩
     have Am:=PS.insert (k:=L.length) Ar (Bt B4.out Au) Bf (v':=.slice (some ⟨w4.heap.size,0,none⟩) (L.length + 1) (L.length + 1)) (fun b e=>by have:=Option.some.inj e;change w4.heap.size=b at this;omega) Ah Cf (by rw [Ap.out];exact Cx.out) (by rw [Ap.out];exact Bq.out.below Au)
     have Ad:=Am.setBox (g:=w.heap.size) (i:=0) (by omega) (.slice (some ⟨w4.heap.size,0,none⟩) (L.length + 1) (L.length + 1))
     have An:L.take L.length ++ x :: L.drop L.length=fold ckLt Pay.add (C.take (k + 1)):=by
      rw [Tess.ft2 hlt,Dj.out,← Cd.out]
      exact (Tess.Kl.ih4 (Nat.le_refl _) (fun j hj hjk=>(C5.out j hj).2 hjk) (fun h=>absurd h (Nat.lt_irrefl _))).symm
     rw [An] at Ad
     have Ae:=(Au.block _ At).trans Af.out
     have Cg:=heap_setCell_same w9 w.heap.size 0 _ _ (.slice (some ⟨w4.heap.size,0,none⟩) (L.length + 1) (L.length + 1)) Ae
     have A5:=Hd Ad
     have Ec:=Hd Cg
     have Dl:=Hd (show Below w.heap.size w (w9.setCell ⟨w.heap.size,0,none⟩ (.slice (some ⟨w4.heap.size,0,none⟩) (L.length + 1) (L.length + 1))) from (Bt HB.out (Bt B4.out Au)).setCell (Nat.le_refl _) _)
     have Fw:=(cob Ae).1
     have Ff:=(cob Ae).2
     have Fs:w.heap.size < w9.heap.size:=(Array.getElem?_eq_some_iff.1 Ae).1
     clear Fo Aa Du Dq Cy Ar Cf Am Ad Cg Ae Ah Au Ek El A3 B7 Al Ay Bk Ce hw8 An
     go_simp
     go_wp2_with (fail)
     go_roundw
     case rel=>exact ⟨k + 1,_,_,by omega,by go_num,Ec.out,A5.out,fun h=>by omega,Dl.out⟩
     case measure=>simp [intOf];omega
  ·obtain rfl:k=C.length:=by omega
   have Gy:¬ (C.length:Int) < (C.length:Int):=by omega
   have fl:=(cob Et).1
   rw [List.take_length] at Dc
   have C2:=Hd Dc
   have HB:=Hd hB
   have HN:=Hd B2
   clear Dc hB B2 Et HC
   go_wp2
   go_ret
   exact ⟨_,rfl,⟨_,C2.out⟩,fun e=>HN.out (by rw [e];rfl),HB.out⟩
end Go.Proofs.YtjdccifdkjnknaaGreatDoor
