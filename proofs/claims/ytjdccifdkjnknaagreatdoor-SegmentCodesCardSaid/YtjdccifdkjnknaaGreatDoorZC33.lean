/- Joined. -/
import Derived.Test.YtjdccifdkjnknaaGreatDoorZC32
set_option maxRecDepth 100000
set_option maxHeartbeats 4000000
namespace Go.Proofs.Q9
open Go.RowKit Go.Sort
open Tess (CK Pay DV pD2)
theorem cLp2{E E':Nat->CK×Pay}{k:Nat}{d:DV}(h1:E' k=pD2 (E k) d)(h2:∀j,j≠k->E' j=E j):∀i,celL E' i=if i=(k,0)then celL E i++[valC (Tess.valOf d)]else celL E i:=by
 rintro⟨j,fd⟩;by_cases e:j=k
 ·subst e;by_cases e2:fd=0
  ·subst e2;rw[qR rfl];unfold celL;rw[h1];simp[pD2]
  ·rw[qH (fun h=>e2 (by cases h;rfl))];unfold celL;simp only[qH e2];rw[h1];rfl
 ·rw[qH (fun h=>e (by cases h;rfl))];unfold celL;rw[h2 j e]
theorem sg3(a0 a1 a2:Addr)(wb:World)(r g:Nat)(i:Int)(E:Nat->CK×Pay)(V:Nat×Nat->Value)(b rest rest2:ByteArray)(d:List ByteArray)(ls:List Nat)(v1 v2 v3:Value)(w:World)(hv:∀W,Kept wb.heap.size r wb W->DV2 a0 a1 W/\SV a2 W)(hwb:Kept wb.heap.size r wb w)(hr:SRd r g ls.length E V b v1 v2 v3 w)(hB:wb.heap.size<=g)(hn:ls.length<=1000)(hE:∀k,k<ls.length->(E k).1.2.length<=1000)(hb:b.size<=1000000)
  (hdec:Tess.decW b=(d,rest,0)) (hunp:Tess.uP rest=(ls,rest2,0)) :
  Calls Tryz.prog 84 #[.pointer (some ⟨r,0,none⟩),.int .i64 i] w (DimP a2 wb r g ls.length E (match ls.mapM (Tess.vA2 d)with|some l=>some (l,rest2)|none=>none) v1 v2 v3):=by
 have HD:=Hd (do3 a0 a1 b w (hv _ hwb).1 hb);have HV:=Hd hv;have HR:=Hd hr;have B5:=Hd hwb;have Bo:=Hd hB;have B0:=Hd hE;obtain⟨T,hT⟩:=Xq ((match ls.mapM (Tess.vA2 d)with|some l=>some (l,rest2)|none=>none:Option (List DV×ByteArray)))
 rw[<-hT];have HT:=Hd hT;obtain⟨c0,c1,c2,c3,c4⟩:=hr.rdr.cells;have Cs:=hr.rdr.lt;unfold DPO at HD;rw[hdec]at HD;have HU:=Hd (fun(W:World) (hB:Kept wb.heap.size r wb W)=>pa2 a0 a1 rest W (HV.out _ hB).1);unfold PP2 at HU;rw[hunp]at HU;dsimp only at HD HU;clear hT hv hwb hr hE hdec hunp;go_enter Tryz.func84,Tryz.ntmps84
 go_wp2_with (first
  |(go_at_call 133;refine HD.out.mono ?_;rintro e w1 ⟨v,rfl,hv,hB⟩;obtain⟨a,B9,rfl,_⟩:=os4 hv;have Au:=Hd hv;have HB:=Hd (Kt B5.out hB);have A4:=Hd (HR.out.below hB);clear hv hB)
  |(go_at_call 134;refine(HU.out _ HB.out).mono ?_;rintro e w2 ⟨a',A9,rfl,hv,hB⟩;have A0:=Hd (Kt HB.out hB);have Aq:=Hd (ob2 Au.out hB);have As:=Hd (ol2 hv (qN _));have Aa:=Hd (A4.out.below hB);have q4:=Aa.out.rdr.cells.2.2.2.2;clear hv hB))
 clear q4 c0 c1 c2 c3 c4
 go_loopw [46] (fun v46 wr=>∃(k:Nat) (V':Nat×Nat->Value),k<=ls.length/\v46 = .int .i64 k/\SRd r g ls.length (fun j=>if j<k then pD2 (E j) ((Tess.vA2 d (ls.getD j 0)).getD none)else E j) V' b v1 v2 v3 wr/\wr.ownsRow 0 9 1 (.slice a d.length B9) d.length (d.map .string)/\wr.ownsRow 0 3 1 (.slice a' ls.length A9) ls.length (ls.map fun n=>.int .i64 (n:Nat))/\(∀j,j<k->Tess.vA2 d (ls.getD j 0)≠none)/\Kept wb.heap.size r wb wr) (fun v46 _=>ls.length-(intOf v46).toNat)
 case atStart=>exact⟨0,V,qN _,rfl,Aa.out,Aq.out,As.out,fun j hj=>absurd hj (zH j),A0.out⟩
 case round=>
  obtain⟨k,V',Cr,rfl,hR,hD,hL,Bs,hB⟩:=hrel;have Af:=Hd hR;have Bf:=Hd hD;have Az:=Hd hL;have Bq:=Hd Bs;have Aw:=Hd hB;clear hR hD hL Bs hB Aa Aq As A0 A4 Au HB HR HU HD;by_cases hk:k<ls.length
  ·obtain⟨lb,lc,el,_,B1,_,Bt⟩:=oc2 Az.out (by omega);obtain⟨Am,_⟩:=Bt k hk;rw[qp,qD hk]at Am;simp only[ji,qj]at Am;simp only[yQ,qAq]at el;obtain⟨rfl,rfl⟩:=el;obtain⟨x,hx⟩:=Xq (ls[k])
   rw[<-hx]at Am;have Bu:ls.getD k 0=x:=by rw[qE,qD hk,hx];rfl
   have HX:=Hd hx;have Bn:=Hd Bu;clear hx Bu Bt;obtain⟨W1,Bz⟩:=XQ (wr.alloc (.cells #[.string { data:=#[] },.bool true] 47))
   obtain⟨k1,kS,kB⟩:=la2 wr (.cells #[.string { data:=#[] },.bool true] 47);rw[Bz]at k1 kS kB;have A2:=Hd k1;have Ae:=Hd kB;have Co:=Hd kS;clear k1 kB kS;have Ar:=(Ae.out.cell (p:=⟨lb,k,none⟩) B1).trans Am;obtain⟨⟨y0,y1⟩,Bl,Bw⟩:=can2 A2.out;have A4:=Hd (Af.out.below Ae.out);have Au:=Hd (ob2 Bf.out Ae.out);have Cg:=Hd (ob2 Az.out Ae.out);have Bb:=Hd (Kt Aw.out Ae.out)
   rcases Nat.lt_trichotomy x d.length with Ad|Ad|Ad
   case inr.inr=>
    have Ax:(d.length:Int)<(x:Int):=by omega
    have g3:=(HV.out _ Bb.out).2.g3;go_wp2_with (fail);go_ret
    have Ao:T=none:=by rw[HT.out,Tess.mMn _ _ ⟨x,by rw[HX.out];exact qP hk,by unfold Tess.vA2;rw[qR Ad]⟩]
    rw[Ao];exact⟨rfl,Bb.out,fun x h=>by cases h⟩
   case' inl=>
    have Ax:¬(d.length:Int)<(x:Int):=by omega
    have Bg:(x:Int)<(d.length:Int):=by omega
    obtain⟨db,dc,ed,_,Ce,_,Bp⟩:=oc2 Au.out (by omega);obtain⟨A3,_⟩:=Bp x Ad;rw[qp,qD Ad]at A3;simp only[ji,qj]at A3;simp only[yQ,qAq]at ed;obtain⟨rfl,rfl⟩:=ed;obtain⟨s,hs⟩:=Xq (d[x])
    rw[<-hs]at A3;have Ap:=Hd (show Tess.vA2 d x=some (some s) by unfold Tess.vA2;rw[qH (by omega),dif_pos Ad,hs]);clear hs Bp;go_wp2_with (fail);obtain⟨W2,Ai⟩:=XQ ((W1.setCell ⟨wr.heap.size,0,none⟩ (.string s)).setCell ⟨wr.heap.size,1,none⟩ (.bool false))
    have Aj:W2.heap[wr.heap.size]?=some (.cells #[.string s,.bool false] 47 (0,0)):=by rw[<-Ai];exact qO _ _ 1 _ _ (.bool false) (qO _ _ 0 _ _ (.string s) A2.out)
    have Ab:Below wr.heap.size wr W2:=by rw[<-Ai];exact(Ae.out.setCell (qC _) _).setCell (qC _) _
    rw[Ai];obtain⟨nl,Ag⟩:=Xq false
    rw[<-Ag]at Aj;obtain⟨dv,Ah⟩:=Xq (some s:DV)
    rw[<-Ah]at Ap;have Bc:valC (Tess.valOf dv)=[.string s,.bool nl]:=by rw[Ah,Ag];rfl
    clear Ag Ah A3 Ce Ai y0 y1 Bl Bw Ar Am Ax Bg Ad
   case' inr.inl=>
    have Ax:¬(d.length:Int)<(x:Int):=by omega
    have Bg:¬(x:Int)<(d.length:Int):=by omega
    have Ap:=Hd (show Tess.vA2 d x=some none by unfold Tess.vA2;rw[qH (by omega),dif_neg (by omega)]);go_wp2_with (fail);obtain⟨W2,Ai⟩:=XQ W1
    have Aj:=A2.out;have Ab:=Ae.out;rw[Ai]at Aj Ab⊢;obtain⟨s,hs⟩:=Xq ({ data:=#[] }:ByteArray)
    obtain⟨nl,Ag⟩:=Xq true
    rw[<-Ag,<-hs]at Aj;obtain⟨dv,Ah⟩:=Xq (none:DV)
    rw[<-Ah]at Ap;have Bc:valC (Tess.valOf dv)=[.string s,.bool nl]:=by rw[Ah,Ag,hs];rfl
    clear Ag Ah hs Ai y0 y1 Bl Bw Ar Am Ax Bg Ad
   all_goals
    clear A4 Au Cg Bb A2 Ae Co Bz;have Aa:=Hd (Af.out.below Ab);have Aq:=Hd (ob2 Bf.out Ab);have As:=Hd (ob2 Az.out Ab);have A0:=Hd (Kt Aw.out Ab);have Bh:=(qA.1 Aj).1;have B2:=Hd Aj;have Cl:=Hd Bc;have Ak:∀y,(V' (k,0)).ownBlock=some y->g<y/\y<wr.heap.size:=fun y e=>Af.out.low (i:=(k,0)) ⟨hk,by omega⟩ y e;clear Af Bf Az Aw Aj Bc Ab
    obtain⟨f,hf⟩:=Xq (fOf W2 (V' (k,0)) (celS 0) [.string s,.bool nl])
    have An:∀y,y<=g∨wr.heap.size<=y->f y=none:=fun y hy=>by rw[hf];exact fOn fun e=>by have:=Ak y e;omega
    have Ci:=Hd (fun V (hV:(turns f).r W2 V)=>(ta2 hV Aa.out.rdr.lt (An r (.inl (yV Aa.out.rg))) (o:=4)).trans Aa.out.rdr.cells.2.2.2.2);have Cc:=Hd (fun V (hV:(turns f).r W2 V)=>(can2 ((tb2 hV Bh (An _ (.inr (qC _)))).trans B2.out)).1);obtain⟨A,hA,Bx⟩:=Aa.out.arr;have Av:=Bx k hk 1 (by omega);rw[cCa _ _ _ _ (by omega)]at Av;simp only[qH (show ¬(1:Nat)=0 by omega),jH]at Av
    have Ba:=Hd (fun V (hV:(turns f).r W2 V)=>(ta2 hV Aa.out.lt (An g (.inl (qC _))) (o:=k*6+1)).trans ((qT _ _ _ _ _ _ hA).trans Av));have Cd:=Hd (fun V (hV:(turns f).r W2 V)=>zY V g (k*6+1) _ _ ((tb2 hV Aa.out.lt (An g (.inl (qC _)))).trans hA));have A7:=Hd An;have Ay:=Hd hf;have Cb:=Hd Bh;have Ca:=Hd Ak;clear hf An Av hA Bx Bh Ak;obtain⟨i0,hi,B3,Ck,Cf⟩:=zF iV
    obtain⟨va,Be⟩:=Xq (V' (k,0))
    have A8:=Hd Be;have Al:=Aa.out.fam.own (k,0) ⟨hk,by omega⟩;rw[<-Be]at Ba Al;have At:=Hd Al
    have Bi:=Hd (show(celL (fun j=>if j<k then pD2 (E j) ((Tess.vA2 d (ls.getD j 0)).getD none)else E j) (k,0)).length<=1000 by
     have:=B0.out k hk;unfold celL;simp only[jH,qH (jC k),qX]
     exact this)
    clear Be Al
    refine FlowR.wrf (R:=turns f) 16 (FlowR.sp3 44 (fun _=>.inl undef) (.inl ?_ :: .inl ?_ :: .inl ?_ :: .inl ?_ :: .inl ?_ :: .inl ?_ :: .inl ?_ :: .inl ?_ :: .inl ?_ :: .inl ?_ :: .inl ?_ :: .inl ?_ :: .inl ?_ :: .inl ?_ :: .inr (newR W2.heap.size [.string s,.bool nl]) :: .inr (appd f W2.heap.size (g+1) (celT 0) (celS 0) ((celL (fun j=>if j<k then pD2 (E j) ((Tess.vA2 d (ls.getD j 0)).getD none)else E j) (k,0)).length+1) ((celL (fun j=>if j<k then pD2 (E j) ((Tess.vA2 d (ls.getD j 0)).getD none)else E j) (k,0)).flatten++[.string s,.bool nl]) va.ownBlock)::[])) (fun _=>0) (FlowR.so4 (by kernel_rfl)) (by kernel_rfl) (by kernel_rfl) ?_ ?_
    rotate_left 14
    ·refine FlowR.sm2 (fun x=>FlowR.mi _) ?_;have Bk:∀y,W2.heap.size<=y->f y=none:=fun y hy=>A7.out y (.inr (by have:=Cb.out;omega))
     repeat(first|exact FlowR.ln2|refine FlowR.li2 ?_|refine FlowR.li3 (nRm Bk _) ?_|refine FlowR.li3 (am2 Bk) ?_)
    all_goals try simp only[qL,qY,qM,qV]
    iterate 14 (refine FlowR.tvK rfl (fun K hK=>⟨fun V hw hG=>?_,?_⟩);(have t4:=Ci.out V hw;have t5:=Ba.out V hw;obtain⟨t6,t7⟩:=Cc.out V hw;clear hG hw;unfold FlowR.Runs FlowR.yields;go_simp;try rfl);go_simp;refine hK _ ?_;clear hK K)
    (refine FlowR.tvK2 rfl (fun K hK=>⟨fun V hw hG=>?_,?_⟩);(have Cn:=hw.2.2.2.1;clear hG hw;unfold FlowR.Runs FlowR.yields;go_simp;exact⟨ta3 _ _,(⟨V.heap.size,rfl,Cn,by simp,fun j u hu=>by rw[qT _ _ _ _ _ _ (jY _ _)];simpa using hu⟩:newR W2.heap.size [.string s,.bool nl] (.slice (some ⟨V.heap.size,0,none⟩) 1 1) (V.alloc _))⟩);intro vn;go_simp;refine hK _ _ ?_;clear hK K)
    (refine FlowR.tvK2 rfl (fun K hK=>⟨fun V hw hG=>?_,?_⟩);(have Br:=(show newR W2.heap.size [.string s,.bool nl] vn V by simpa[FlowR.upd]using hG 14 (by kernel_rfl));have B8:=Bi.out;obtain⟨v',V2,A6,B4,Ch⟩:=ta4 (P:=Tryz.prog) (t:=48) (ty:=48) Tryz.underlying48 hi B3 Ck Cf rfl (by decide) hw At.out (fun y e=>by rw[Ay.out,A8.out];rfl) rfl (by intro u hu;simp only[qm,zG,jr]at hu;rcases hu with rfl|rfl<;>rfl) (by unfold maxLen;omega) (by omega) Aa.out.lt Br;clear hG hw Br;exact ra2 (t:=48) (.tmp 80) (.tmp 82) rfl rfl rfl rfl A6 B4 Ch);intro vt;go_simp;refine hK _ _ ?_;clear hK K)
    refine FlowR.tn2 fun w8 hw8 hG=>?_;have A1:=(show appd f W2.heap.size (g+1) (celT 0) (celS 0) ((celL (fun j=>if j<k then pD2 (E j) ((Tess.vA2 d (ls.getD j 0)).getD none)else E j) (k,0)).length+1) ((celL (fun j=>if j<k then pD2 (E j) ((Tess.vA2 d (ls.getD j 0)).getD none)else E j) (k,0)).flatten++[.string s,.bool nl]) va.ownBlock vt w8 by simpa[FlowR.upd]using hG 15)
    clear hG
    have Ac:∀{base:Nat} {e:TypeId} {v:Value} {m:Nat} {xs:List Value},W2.ownsRow base e 1 v m xs->47≠e->∀y,v.ownBlock=some y->f y=none:=fun {base e v m xs} ho hne y hy=>by
     rw[Ay.out];refine fOn fun e2=>?_;obtain⟨c1,z1,h1⟩:=ok3 ho y hy;obtain⟨c2,z2,h2⟩:=ok3 At.out y (by rw[A8.out];exact e2);rw[h1]at h2;cases h2
     exact hne rfl
    obtain⟨A,hA,_⟩:=Aa.out.arr;have Bd:=(tb2 hw8 Aa.out.lt (A7.out g (.inl (qC _)))).trans hA;have Bm:=ok2 (to2 Aq.out hw8 (Ac Aq.out (by decide))) Bd (by decide) vt (i:=k*6+1);have By:=ok2 (to2 As.out hw8 (Ac As.out (by decide))) Bd (by decide) vt (i:=k*6+1)
    have Bv:Kept wb.heap.size r wb (w8.setCell ⟨g,k*6+1,none⟩ vt):=Kg (Kn A0.out hw8 (fun y hy _=>A7.out y (.inl (by have:=Bo.out;omega)))) Bo.out vt
    have Bj:=SRd.push (E':=fun j=>if j<k+1 then pD2 (E j) ((Tess.vA2 d (ls.getD j 0)).getD none)else E j) Aa.out hk (fd:=0) (by omega) (x:=[.string s,.bool nl]) (v':=vt) (by
      rw[<-Cl.out];refine cLp2 ?_ (fun j hj=>?_)
      ·simp only[qR (zQ k),qH (jC k)];rw[Bn.out,Ap.out];rfl
      ·by_cases h:j<k
       ·simp only[qR h,qR (show j<k+1 by omega)]
       ·simp only[qH h,qH (show ¬j<k+1 by omega)])
     (fun j=>by
       by_cases h:j<k
       ·simp only[qR h,qR (show j<k+1 by omega)];exact⟨trivial,trivial⟩
       ·by_cases h2:j<k+1
        ·simp only[qH h,qR h2];exact⟨rfl,rfl⟩
        ·simp only[qH h,qH h2];exact⟨trivial,trivial⟩) (by rw[Ay.out]at hw8;exact hw8) (by rw[A8.out,Ay.out]at A1;exact A1)
    have q1:=Ba.out w8 hw8;have q2:=Cd.out w8 hw8;have Cq:=Hd Bm;have Cp:=Hd By;have Cj:=Hd Bv;have B6:=Hd Bj
    obtain⟨av,nv,cv,rfl⟩:∃a n c,vt = .slice a n c:=by
     rcases A1.1.2 with⟨h,_⟩|⟨_,_,_,h,_⟩
     ·exact⟨_,_,_,h⟩
     ·exact⟨_,_,_,h⟩
    clear A1 Bm By Bv Bj Bd hA hw8 Ac;go_wp2_with (fail);go_roundw
    case rel=>exact⟨k+1,_,by omega,by go_num,B6.out,Cq.out,Cp.out,fun j hj=>by
     by_cases h:j=k
     ·subst h;rw[Bn.out,Ap.out];simp
     ·exact Bq.out j (by omega),Cj.out⟩
    case measure=>simp[intOf];omega
  ·have Cm:k=ls.length:=by omega
   subst Cm;obtain⟨q0,_⟩:=Af.out.rdr.cells;have z0:=Af.out.rdr.z 0;go_wp2_with (fail);go_ret
   have A5:ls.mapM (Tess.vA2 d)=some (ls.map fun x=>(Tess.vA2 d x).getD none):=Tess.mapM_some _ _ ls fun x hx=>by
    obtain⟨j,hj,rfl⟩:=qAp.1 hx;have h:=Bq.out j hj;rw[qE,qD hj,yz]at h;cases hv:Tess.vA2 d ls[j]with
    |none=>exact absurd hv h
    |some y=>rfl
   have B7:T=some (ls.map fun x=>(Tess.vA2 d x).getD none,rest2):=by rw[HT.out,A5]
   rw[B7];refine⟨rfl,Aw.out.trans (Kept.setCell _ _ _ _ _),fun x h=>?_⟩;cases h
   refine⟨V',SRd.congr (SRd.kR2 Af.out (Kept.setCell _ _ _ _ _) (Af.out.rdr.set0 rest2)) fun k hk=>?_⟩;simp only[qR hk];congr 1;rw[qE,qE,qp,qD hk];rfl
theorem sa17(a0 a1 a2:Addr)(wb:World)(r g n:Nat)(i:Int)(E:Nat->CK×Pay)(V:Nat×Nat->Value)(b:ByteArray)(v1 v2 v3:Value)(w:World)(hv:∀W,Kept wb.heap.size r wb W->DV2 a0 a1 W/\SV a2 W)(hwb:Kept wb.heap.size r wb w)(hr:SRd r g n E V b v1 v2 v3 w)(hB:wb.heap.size<=g)(hn:n<=1000)(hE:∀k,k<n->(E k).1.2.length<=1000)(hb:b.size<=1000000) :
  Calls Tryz.prog 84 #[.pointer (some ⟨r,0,none⟩),.int .i64 i] w (DimP a2 wb r g n E (Tess.dimS n b) v1 v2 v3):=by
 by_cases hbad:(Tess.decW b).2.2=0/\(Tess.uP (Tess.decW b).2.1).2.2=0/\(Tess.uP (Tess.decW b).2.1).1.length=n
 ·obtain⟨h1,h2,h3⟩:=hbad;unfold Tess.dimS;rw[qR h1,qR ⟨h2,h3⟩];subst h3;obtain⟨⟨d,rest,Ad⟩,hu⟩:∃u,u=Tess.decW b:=⟨_,rfl⟩
  rw[<-hu]at h1 h2 hr hn hE⊢;dsimp only at h1 h2 hr hn hE⊢;subst h1;obtain⟨⟨ls,Aa,Ab⟩,Ac⟩:∃u,u=Tess.uP rest:=⟨_,rfl⟩
  rw[<-Ac]at h2 hr hn hE⊢;dsimp only at h2 hr hn hE⊢;subst h2;exact sg3 a0 a1 a2 wb r g i E V b rest Aa d ls v1 v2 v3 w hv hwb hr hB hn hE hb hu.symm Ac.symm
 ·exact sb3 a0 a1 a2 wb r g n i E V b v1 v2 v3 w hv hwb hr hb hbad
end Go.Proofs.Q9
namespace Tess
open Go Go.RowKit Go.Proofs.Q9
def nK(n:Nat):Nat->ByteArray->Option (List (List Int)×ByteArray)
 |0,b=>some ([],b)
 |k+1,b=>match nK n k b with
   |some (L,b')=>match nR n b' with
     |some (l,e)=>some (L++[l],e)
     |none=>none
   |none=>none
theorem nKn{n k:Nat}{b:ByteArray}(h:nK n k b=none):∀m,k<=m->nK n m b=none
 |0,hm=>by rw[show k=0 by omega]at h;exact h
 |m+1,hm=>by
   by_cases e:k=m+1
   ·rw[<-e];exact h
   ·unfold nK;rw[nKn h m (by omega)]
theorem nKf{n:Nat}{b:ByteArray}:∀{k:Nat} {L:List (List Int)} {e:ByteArray},nK n k b=some (L,e)->L.length=k/\∀l∈L,l.length=n
 |0,L,e,h=>by cases h;exact⟨rfl,fun _ h=>by cases h⟩
 |k+1,L,e,h=>by
   unfold nK at h;cases hk:nK n k b with
   |none=>rw[hk]at h;cases h
   |some x=>
     obtain⟨L',b'⟩:=x;rw[hk]at h;dsimp only at h;cases hr:nR n b' with
     |none=>rw[hr]at h;cases h
     |some y=>
       obtain⟨l,e'⟩:=y;rw[hr]at h;cases h
       obtain⟨h1,h2⟩:=nKf hk;refine⟨by simp[h1],fun z hz=>?_⟩;rcases zk.1 hz with hz|hz
       ·exact h2 z hz
       ·rw[zJ.1 hz];exact(nRl hr).1
theorem mSK(n:Nat)(b:ByteArray):metS n b=match nK n 4 b with
  |some (L,e)=>some ((L.getD 0 [],L.getD 1 [],L.getD 2 [],L.getD 3 []),e)
  |none=>none:=by
 unfold metS nK nK nK nK nK;dsimp only;cases nR n b with
 |none=>rfl
 |some x1=>
   obtain⟨a,r1⟩:=x1;dsimp only;cases nR n r1 with
   |none=>rfl
   |some x2=>
     obtain⟨b,r2⟩:=x2;dsimp only;cases nR n r2 with
     |none=>rfl
     |some x3=>
       obtain⟨c,r3⟩:=x3;dsimp only;cases nR n r3 with
       |none=>rfl
       |some x4=>rfl
def pS3(c:CK×Pay)(z:Int):CK×Pay:=(c.1,⟨c.2.n,c.2.sums++[z],c.2.mins,c.2.maxs⟩)
def pX(c:CK×Pay)(x y:Int):CK×Pay:=(c.1,⟨c.2.n,c.2.sums,c.2.mins++[x],c.2.maxs++[y]⟩)
def pM3(c:CK×Pay)(z x y:Int):CK×Pay:=pX (pS3 c z) x y
end Tess
namespace Go.Proofs.Q9
open Go.RowKit Go.Sort
open Tess (CK Pay pS3 pX pM3 nK)
def MetP(a2:Addr)(wb:World)(r g n:Nat)(E:Nat->CK×Pay)(o:Option ((List Int×List Int×List Int×List Int)×ByteArray))(v1 v2 v3:Value)(e:Ending)(w':World):Prop:=
 e = .returned (sErr a2 o.isSome)/\Kept wb.heap.size r wb w'/\∀x,o=some x->∃V,SRd r g n (fun k=>pM3 (E k) (Tess.wO (x.1.1.getD k 0) (x.1.2.1.getD k 0)) (x.1.2.2.1.getD k 0) (x.1.2.2.2.getD k 0)) V x.2 v1 v2 v3 w'
theorem cLp{E E':Nat->CK×Pay}{k:Nat}{z:Int}(h1:E' k=pS3 (E k) z)(h2:∀j,j≠k->E' j=E j):∀i,celL E' i=if i=(k,1)then celL E i++[wF z]else celL E i:=by
 rintro⟨j,fd⟩;by_cases e:j=k
 ·subst e;unfold celL;rw[h1];rcases fd with _|_|_|fd<;>simp[pS3]
 ·rw[qH (fun h=>e (by cases h;rfl))];unfold celL;rw[h2 j e]
theorem cLp5{E E':Nat->CK×Pay}{k:Nat}{x y:Int}(h1:E' k=pX (E k) x y)(h2:∀j,j≠k->E' j=E j):∀i:Nat×Nat,i.2<4->celL E' i=if i=(k,3)then celL E i++[[.int .i64 y]]else if i=(k,2)then celL E i++[[.int .i64 x]]else celL E i:=by
 rintro⟨j,fd⟩ Aa;by_cases e:j=k
 ·subst e;unfold celL;rw[h1];rcases fd with _|_|_|_|fd
  ·simp[pX]
  ·simp[pX]
  ·simp[pX,intF]
  ·simp[pX,intF]
  ·simp only at Aa;omega
 ·rw[qH (fun h=>e (by cases h;rfl)),qH (fun h=>e (by cases h;rfl))];unfold celL;rw[h2 j e]
theorem can4{W:World}{B:Nat}{t:TypeId}{x0 x1 x2 x3:Value}(h:W.heap[B]?=some (.cells #[x0,x1,x2,x3] t (0,0))) :
  W.cell? ⟨B,0,none⟩=some x0/\W.cell? ⟨B,1,none⟩=some x1/\W.cell? ⟨B,2,none⟩=some x2/\W.cell? ⟨B,3,none⟩=some x3:=
 ⟨qT _ _ 0 _ _ _ h,qT _ _ 1 _ _ _ h,qT _ _ 2 _ _ _ h,qT _ _ 3 _ _ _ h⟩
theorem sa18(a0 a1 a2:Addr)(wb:World)(r g n:Nat)(i:Int)(E:Nat->CK×Pay)(V:Nat×Nat->Value)(b:ByteArray)(v1 v2 v3:Value)(w:World)(hv:∀W,Kept wb.heap.size r wb W->DV2 a0 a1 W/\SV a2 W)(hwb:Kept wb.heap.size r wb w)(hr:SRd r g n E V b v1 v2 v3 w)(hB:wb.heap.size<=g)(hn:n<=1000)
  (hE:∀k,k<n->(E k).2.sums.length<=1000/\(E k).2.mins.length<=1000/\(E k).2.maxs.length<=1000) :
  Calls Tryz.prog 82 #[.pointer (some ⟨r,0,none⟩),.int .i64 i] w (MetP a2 wb r g n E (Tess.metS n b) v1 v2 v3):=by
 have HV:=Hd hv;have HR:=Hd hr;have Fw:=Hd hwb;have Bg:=Hd hB;have El:=Hd hE;have HT:=Hd (Tess.mSK n b);obtain⟨T,hT⟩:=Xq (Tess.metS n b)
 rw[<-hT]at HT⊢;obtain⟨W0,Es⟩:=XQ (w.alloc (.cells #[.slice none 0 0,.slice none 0 0,.slice none 0 0,.slice none 0 0] 179))
 obtain⟨k0,kS,kB⟩:=la2 w (.cells #[.slice none 0 0,.slice none 0 0,.slice none 0 0,.slice none 0 0] 179);rw[Es]at k0 kS kB;have De:=Hd (hr.below kB);have Cz:=Hd k0;have Ej:=Hd (Kt hwb kB);have Bb:=Hd (show g<w.heap.size from hr.lt);have Cj:=Hd (show ∀i:Nat×Nat,i.1<n/\i.2<4->∀z,(V i).ownBlock=some z->z<w.heap.size from fun i hi z e=>(hr.low hi z e).2);obtain⟨tb,Bx⟩:=Xq w.heap.size
 rw[<-Bx]at Cz Bb Cj;clear hT hv hwb hr hE k0 kS kB;go_enter Tryz.func82,Tryz.ntmps82;go_wp2_with (fail);rw[<-Bx];clear Bx Es
 go_loopw [11] (fun v11 wr=>∃(k:Nat) (L:List (List Int)) (bk:ByteArray) (vs:List Value),k<=4/\v11 = .int .i64 k/\nK n k b=some (L,bk)/\SRd r g n E V bk v1 v2 v3 wr/\wr.heap[tb]?=some (.cells vs.toArray 179 (0,0))/\vs.length=4/\(∀j,j<k->wr.ownsRow tb 2 1 (vs.getD j undef) n ((L.getD j []).map (.int .i64)))/\Kept wb.heap.size r wb wr) (fun v11 _=>4-(intOf v11).toNat)
 case atStart=>exact⟨0,[],b,[.slice none 0 0,.slice none 0 0,.slice none 0 0,.slice none 0 0],qN _,rfl,rfl,De.out,Cz.out,rfl,fun j hj=>absurd hj (zH j),Ej.out⟩
 case round=>
  obtain⟨k,L,bk,vs,Fp,rfl,Dx,hR,hK,D4,hO,hB⟩:=hrel;have Aa:=Hd hR;have Af:=Hd hK;have Bh:=Hd hO;have Al:=Hd hB;have Bw:=Hd Dx;have B2:=Hd D4;clear hR hK hO hB Dx D4 De Cz Ej;by_cases hk:k<4
  ·have F0:(k:Int)<4:=by omega
   have q4:=Aa.out.rdr.cells.2.2.2.2;have A6:=sa3 a0 a1 a2 r n bk v1 v2 v3 (.slice (some ⟨g,0,none⟩) n n) wr (HV.out _ Al.out).1 (HV.out _ Al.out).2 Aa.out.rdr hn;unfold NumP at A6;have By:=Hd A6;clear A6;go_wp2_with (fail);refine By.out.mono ?_;obtain⟨o,ho⟩:=Xq (Tess.nR n bk)
   have E6:=Hd (fun l e (h:o=some (l,e))=>Tess.nRl (ho.symm.trans h))
   have C8:nK n (k+1) b=(Tess.nR n bk).map fun x=>(L++[x.1],x.2):=by rw[nK,Bw.out];dsimp only;cases Tess.nR n bk<;>rfl
   rw[<-ho]at C8⊢;have Bp:=Hd C8;clear C8;clear ho By;cases o with
   |none=>
     rintro e w5 ⟨v5,rfl,Ao,Bo⟩;rw[show sErr a2 (none:Option (List Int×ByteArray)).isSome = .iface 314 (.pointer (some a2))from rfl];have C9:=Hd (Kk Al.out Ao);have Bk:T=none:=by rw[HT.out,Tess.nKn Bp.out 4 (by omega)]
     clear Ao Bo;go_wp2_with (fail);go_ret;rw[Bk];exact⟨rfl,C9.out,fun x h=>by cases h⟩
   |some x=>
     obtain⟨m,e2⟩:=x;rintro e w5 ⟨v5,rfl,Ao,A8,Bo⟩;dsimp only at A8 Bo;have Bz:nK n (k+1) b=some (L++[m],e2):=Bp.out;have Fc:=(E6.out m e2 rfl).1;rw[Fc]at A8;have A8:=ol2 A8 (yV (qA.1 Af.out).1);obtain⟨B7,B5,rfl,_⟩:=os4 A8;rw[show sErr a2 (some (m,e2)).isSome = .nilIface from rfl];have C1:=Aa.out.kR2 Ao Bo;have Fo:=C1.rg;have Fu:=Bb.out;have B4:=(Ao.block tb (qA.1 Af.out).1 (by omega)).trans Af.out
     have C9:=Hd (Kk Al.out Ao);have Fe:=Hd (fun j (hj:j<k)=>okK (Bh.out j hj) Ao Aa.out.rdr (by decide));have Em:k<vs.toArray.size:=by rw[qu,B2.out];exact hk
     obtain⟨Ey,q5⟩:∃u,w5.cell? ⟨tb,k,none⟩=some u:=⟨_,by rw[qT _ _ _ _ _ _ B4,yB Em]⟩
     have z5:=zY w5 tb k _ _ B4;have Ch:=Hd B4;have Fl:=Hd C1;have Ez:=Hd A8;have C2:=Hd Bz;clear Ao Bo A8 B4 C1 Bz Em q4;go_wp2_with (fail);go_roundw
     case rel=>
      obtain⟨hL,_⟩:=Tess.nKf Bw.out;refine⟨k+1,L++[m],e2,vs.set k (.slice B7 n B5),by omega,by go_num,C2.out,Fl.out.other Ch.out (by decide) (by decide) (fun fd hfd=>by rcases fd with _|_|_|_|fd<;>first|decide|omega) _,?_,by rw[List.length_set];exact B2.out,fun j hj=>?_,Kg C9.out (show wb.heap.size<=tb by have:=Bg.out;omega) _⟩
      ·rw[qO _ _ _ _ _ _ Ch.out,List.setIfInBounds_toArray]
      ·by_cases e:j=k
       ·subst e;have e1:(vs.set j (.slice B7 n B5)).getD j undef = .slice B7 n B5:=by rw[qE,List.getElem?_set_self (by rw[B2.out];exact hk)];rfl
        have e2:(L++[m]).getD j []=m:=by rw[qE,jk (by omega),hL];simp
        rw[e1,e2];exact ok2 Ez.out Ch.out (by decide) _
       ·have e1:(vs.set k (.slice B7 n B5)).getD j undef=vs.getD j undef:=by rw[qE,List.getElem?_set_ne (xR e),<-qE]
        have e2:(L++[m]).getD j []=L.getD j []:=by rw[qE,jX (by omega),<-qE]
        rw[e1,e2];exact ok2 (Fe.out j (by omega)) Ch.out (by decide) _
     case measure=>simp[intOf];omega
  ·have Cn:k=4:=by omega
   subst Cn;have q4:=Aa.out.rdr.cells.2.2.2.2;obtain⟨Ei,_⟩:=Tess.nKf Bw.out;have An:T=some ((L.getD 0 [],L.getD 1 [],L.getD 2 [],L.getD 3 []),bk):=by rw[HT.out,Bw.out]
   have Do:=B2.out
   obtain⟨la,lb,lc,ld,rfl⟩:∃la lb lc ld,L=[la,lb,lc,ld]:=by
    rcases L with _|⟨la,_|⟨lb,_|⟨lc,_|⟨ld,_|⟨z,L⟩⟩⟩⟩⟩<;>simp at Ei
    exact⟨la,lb,lc,ld,rfl⟩
   obtain⟨s0,s1,s2,s3,rfl⟩:∃s0 s1 s2 s3,vs=[s0,s1,s2,s3]:=by
    rcases vs with _|⟨la,_|⟨lb,_|⟨lc,_|⟨ld,_|⟨z,L⟩⟩⟩⟩⟩<;>simp at Do
    exact⟨la,lb,lc,ld,rfl⟩
   have A4:=Bh.out 0 (by omega);have Az:=Bh.out 1 (by omega);have As:=Bh.out 2 (by omega);have Ay:=Bh.out 3 (by omega);simp only[List.getD_cons_zero,xr]at A4 Az As Ay An
   have Db:la.length=n/\lb.length=n/\lc.length=n/\ld.length=n:=by obtain⟨_,h⟩:=Tess.nKf Bw.out;exact⟨h la (by simp),h lb (by simp),h lc (by simp),h ld (by simp)⟩
   obtain⟨D9,Eq,rfl,_⟩:=os4 A4;obtain⟨D8,Eo,rfl,_⟩:=os4 Az;obtain⟨Ef,C4,rfl,_⟩:=os4 As;obtain⟨Eg,Cl,rfl,_⟩:=os4 Ay;have Au:=Hd A4;have Ax:=Hd Az;have Aw:=Hd As;have A2:=Hd Ay;have Dw:=Hd Db;have Fk:=Hd An;clear A4 Az As Ay Bh An Ei Do B2 Db;go_wp2_with (fail)
   go_loopw [36] (fun v36 wr=>∃(k:Nat) (V':Nat×Nat->Value),k<=n/\v36 = .int .i64 k/\SRd r g n (fun j=>if j<k then pM3 (E j) (Tess.wO (la.getD j 0) (lb.getD j 0)) (lc.getD j 0) (ld.getD j 0)else E j) V' bk v1 v2 v3 wr/\(∀j,k<=j->∀fd,V' (j,fd)=V (j,fd))/\wr.heap[tb]?=some (.cells #[.slice D9 n Eq,.slice D8 n Eo,.slice Ef n C4,.slice Eg n Cl] 179 (0,0))/\wr.ownsRow tb 2 1 (.slice D9 n Eq) n (la.map (.int .i64))/\wr.ownsRow tb 2 1 (.slice D8 n Eo) n (lb.map (.int .i64))/\wr.ownsRow tb 2 1 (.slice Ef n C4) n (lc.map (.int .i64))/\wr.ownsRow tb 2 1 (.slice Eg n Cl) n (ld.map (.int .i64))/\Kept wb.heap.size r wb wr) (fun v36 _=>n-(intOf v36).toNat)
   case atStart=>exact⟨0,V,qN _,rfl,Aa.out,fun _ _ _=>rfl,Af.out,Au.out,Ax.out,Aw.out,A2.out,Al.out⟩
   case round=>
    clear Aa Af Au Ax Aw A2 Al q4;obtain⟨k,V',Fm,rfl,hR,Dv,hK,A4,Az,As,Ay,hB⟩:=hrel;have Ct:=Hd Dv;have Aa:=Hd hR;have Af:=Hd hK;have Au:=Hd A4;have Ax:=Hd Az;have Aw:=Hd As;have A2:=Hd Ay;have Al:=Hd hB;clear hR hK A4 Az As Ay hB Dv;by_cases hk:k<n
    ·have q4:=Aa.out.rdr.cells.2.2.2.2;go_wp2_with (fail);obtain⟨Ek,C5⟩:=Xq (fun j=>if j<k then pM3 (E j) (Tess.wO (la.getD j 0) (lb.getD j 0)) (lc.getD j 0) (ld.getD j 0)else E j:Nat->CK×Pay)
     rw[<-C5]at Aa;have Bj:=Hd C5;clear C5;obtain⟨l1,l2,l3,l4⟩:=Dw.out;obtain⟨p0,F1,e0,_,Dl,_,A0⟩:=oc2 Au.out (by omega);obtain⟨p1,Fv,e1,_,Dz,_,At⟩:=oc2 Ax.out (by omega);obtain⟨p2,F2,e2,_,E7,_,Be⟩:=oc2 Aw.out (by omega);obtain⟨p3,Fq,e3,_,E4,_,Bd⟩:=oc2 A2.out (by omega);obtain⟨A0,_⟩:=A0 k hk;obtain⟨At,_⟩:=At k hk;obtain⟨Be,_⟩:=Be k hk;obtain⟨Bd,_⟩:=Bd k hk;rw[qp,qD (by omega)]at A0 At Be Bd
     simp only[ji,qj]at A0 At Be Bd;obtain⟨x0,Co⟩:=Xq (la[k]'(by omega))
     obtain⟨x1,C6⟩:=Xq (lb[k]'(by omega))
     obtain⟨x2,C0⟩:=Xq (lc[k]'(by omega))
     obtain⟨x3,Cp⟩:=Xq (ld[k]'(by omega))
     rw[<-Co]at A0;rw[<-C6]at At;rw[<-C0]at Be;rw[<-Cp]at Bd;have Ea:la.getD k 0=x0:=by rw[qE,qD (by omega),Co];rfl
     have Ec:lb.getD k 0=x1:=by rw[qE,qD (by omega),C6];rfl
     have Ev:lc.getD k 0=x2:=by rw[qE,qD (by omega),C0];rfl
     have En:ld.getD k 0=x3:=by rw[qE,qD (by omega),Cp];rfl
     have Bc:=Hd (And.intro Ea (And.intro Ec (And.intro Ev En)));obtain⟨c0,z0,k0⟩:=ok3 Au.out p0 (by rw[e0];rfl);obtain⟨c1,z1,k1⟩:=ok3 Ax.out p1 (by rw[e1];rfl);obtain⟨c2,z2,k2⟩:=ok3 Aw.out p2 (by rw[e2];rfl);obtain⟨c3,z3,k3⟩:=ok3 A2.out p3 (by rw[e3];rfl);simp only[yQ,qAq]at e0 e1 e2 e3;obtain⟨rfl,rfl⟩:=e0;obtain⟨rfl,rfl⟩:=e1;obtain⟨rfl,rfl⟩:=e2;obtain⟨rfl,rfl⟩:=e3
     clear Co C6 C0 Cp Ea Ec Ev En l1 l2 l3 l4 Be Bd;obtain⟨wl,E8⟩:=XQ (IntKind.u64.wrap x1)
     have HW:=Hd (show wF (Tess.wO x0 x1)=[.int .i64 x0,.int .u64 wl] by
      rw[<-E8];unfold wF Tess.wO wHi wLo
      rw[wu,show(x0*18446744073709551616+x1%18446744073709551616)/18446744073709551616=x0 by omega,show(x0*18446744073709551616+x1%18446744073709551616)%18446744073709551616=x1%18446744073709551616 by omega])
     obtain⟨va,Ca⟩:=Xq (V' (k,1))
     have Ah:=Aa.out.fam.own (k,1) ⟨hk,by omega⟩;rw[<-Ca]at Ah;obtain⟨f,hf⟩:=Xq (fOf wr va (celS 1) [.int .i64 x0,.int .u64 wl])
     have Ac:∀{y t:Nat} {cur:Array Value} {fz:Nat×Nat},wr.heap[y]?=some (.cells cur t fz)->t≠celT 1->f y=none:=fun hy hne=>by rw[hf];exact fOk Ah hy hne
     obtain⟨A,hA,Bf⟩:=Aa.out.arr;have Bv:=Bf k hk 3 (by omega);rw[cCa _ _ _ _ (by omega)]at Bv;simp only[qH (show ¬(3:Nat)=0 by omega),qH (show ¬(3:Nat)=1 by omega),qH (show ¬(3:Nat)=2 by omega),jH]at Bv;rw[<-Ca]at Bv;have Cr:=Hd (fun V (hV:(turns f).r wr V)=>(ta2 hV Aa.out.lt (Ac hA (by decide)) (o:=k*6+3)).trans ((qT _ _ _ _ _ _ hA).trans Bv))
     have Bq:=Hd (fun V (hV:(turns f).r wr V)=>zY V g (k*6+3) _ _ ((tb2 hV Aa.out.lt (Ac hA (by decide))).trans hA));have A7:=Hd (fun V (hV:(turns f).r wr V)=>(tb2 hV (qA.1 Af.out).1 (Ac Af.out (by decide))).trans Af.out);have Ba:=Hd (fun V (hV:(turns f).r wr V)=>And.intro ((ta2 hV Dl (Ac k0 (by decide)) (o:=k)).trans A0) ((ta2 hV Dz (Ac k1 (by decide)) (o:=k)).trans At))
     have Aq:=Hd (show ∀y,wr.heap.size<=y->f y=none from fun y hy=>by rw[hf];exact fOn fun e=>by have:=(Ah.lt y e).2;omega);have Am:=Hd (fun(y t:Nat) (cur:Array Value) (fz:Nat×Nat) (hy:wr.heap[y]?=some (.cells cur t fz)) (hne:t≠celT 1)=>Ac hy hne);have Ar:=Hd hf;have A1:=Hd Ah;have Dp:=Hd Ca
     have Bn:=Hd (show(celL Ek (k,1)).length<=1000 by
      have:=(El.out k hk).1;rw[Bj.out];unfold celL;simp only[jH,qH (jC k),qX,qH (show ¬(1:Nat)=0 by omega)]
      exact this)
     clear hA Bf Bv Ac hf Ah Ca k0 k1 k2 k3 A0 At Dl Dz E7 E4 q4;obtain⟨i0,hi,Ex,Fb,Fj⟩:=zF iW
     refine FlowR.wrf (R:=turns f) 19 (FlowR.sp3 44 (fun _=>.inl undef) (.inl ?_ :: .inl ?_ :: .inl ?_ :: .inl ?_ :: .inl ?_ :: .inl ?_ :: .inl ?_ :: .inl ?_ :: .inl ?_ :: .inl ?_ :: .inl ?_ :: .inl ?_ :: .inl ?_ :: .inl ?_ :: .inl ?_ :: .inl ?_ :: .inl ?_ :: .inr (newR wr.heap.size [.int .i64 x0,.int .u64 wl]) :: .inr (appd f wr.heap.size (g+1) (celT 1) (celS 1) ((celL Ek (k,1)).length+1) ((celL Ek (k,1)).flatten++[.int .i64 x0,.int .u64 wl]) va.ownBlock)::[])) (fun _=>0) (FlowR.so4 (by kernel_rfl)) (by kernel_rfl) (by kernel_rfl) ?_ ?_
     rotate_left 17
     ·refine FlowR.sm2 (fun x=>FlowR.mi _) ?_
      repeat(first|exact FlowR.ln2|refine FlowR.li2 ?_|refine FlowR.li3 (nRm Aq.out _) ?_|refine FlowR.li3 (am2 Aq.out) ?_)
     all_goals try simp only[qL,qY,qM,qV]
     iterate 17 (refine FlowR.tvK rfl (fun K hK=>⟨fun V hw hG=>?_,?_⟩);(have t4:=Cr.out V hw;obtain⟨t5,t6,t7,t8⟩:=can4 (A7.out V hw);obtain⟨t9,Eh⟩:=Ba.out V hw;clear hG hw;unfold FlowR.Runs FlowR.yields;go_simp;try rfl);go_simp;refine hK _ ?_;clear hK K)
     (refine FlowR.tvK2 rfl (fun K hK=>⟨fun V hw hG=>?_,?_⟩);(have B1:=hw.2.2.2.1;clear hG hw;unfold FlowR.Runs FlowR.yields;go_simp;exact⟨ta3 _ _,(⟨V.heap.size,rfl,B1,by simp,fun j u hu=>by rw[qT _ _ _ _ _ _ (jY _ _)];simpa using hu⟩:newR wr.heap.size [.int .i64 x0,.int .u64 wl] (.slice (some ⟨V.heap.size,0,none⟩) 1 1) (V.alloc _))⟩);intro vn;go_simp;refine hK _ _ ?_;clear hK K)
     (refine FlowR.tvK2 rfl (fun K hK=>⟨fun V hw hG=>?_,?_⟩);(have Ap:=(show newR wr.heap.size [.int .i64 x0,.int .u64 wl] vn V by simpa[FlowR.upd]using hG 17 (by kernel_rfl));have B0:=Bn.out;obtain⟨v',V2,Ai,Bi,An⟩:=ta4 (P:=Tryz.prog) (t:=54) (ty:=54) Tryz.underlying54 hi Ex Fb Fj rfl (by decide) hw A1.out (fun y e=>by rw[Ar.out];rfl) rfl (by intro u hu;simp only[qm,zG,jr]at hu;rcases hu with rfl|rfl<;>rfl) (by unfold maxLen;omega) (by omega) Aa.out.lt Ap;clear hG hw Ap;exact ra2 (t:=54) (.tmp 49) (.tmp 62) rfl rfl rfl rfl Ai Bi An);intro vt;go_simp;refine hK _ _ ?_;clear hK K)
     refine FlowR.tn2 fun w8 hw8 hG=>?_;have Ae:=(show appd f wr.heap.size (g+1) (celT 1) (celS 1) ((celL Ek (k,1)).length+1) ((celL Ek (k,1)).flatten++[.int .i64 x0,.int .u64 wl]) va.ownBlock vt w8 by simpa[FlowR.upd]using hG 18)
     clear hG;obtain⟨Ew,Bt⟩:=Xq (fun j=>if j=k then pS3 (Ek j) (Tess.wO x0 x1)else Ek j:Nat->CK×Pay)
     obtain⟨A,hA,_⟩:=Aa.out.arr;have Ds:=(tb2 hw8 Aa.out.lt (Am.out g _ _ _ hA (by decide))).trans hA
     have Ad:∀{v:Value} {m:Nat} {xs:List Value},wr.ownsRow tb 2 1 v m xs->(w8.setCell ⟨g,k*6+3,none⟩ vt).ownsRow tb 2 1 v m xs:=fun {v m xs} ho=>ok2 (to2 ho hw8 (fun y hy=>by
      obtain⟨cc,zz,hh⟩:=ok3 ho y hy
      exact Am.out y _ _ _ hh (by decide))) Ds (by decide) vt
     have D1:Kept wb.heap.size r wb (w8.setCell ⟨g,k*6+3,none⟩ vt):=Kg (Kn Al.out hw8 (fun y hy _=>by rw[Ar.out];exact fOn fun e=>by have h1:=(A1.out.lt y e).1;have:=Bg.out;omega)) Bg.out vt
     have D5:=SRd.push (E':=Ew) Aa.out hk (fd:=1) (by omega) (x:=[.int .i64 x0,.int .u64 wl]) (v':=vt) (by
       rw[<-HW.out];refine cLp ?_ (fun j hj=>?_)
       ·rw[Bt];exact qR rfl
       ·rw[Bt];exact qH hj)
      (fun j=>by
        rw[Bt];by_cases h:j=k
        ·simp only[qR h];exact⟨rfl,rfl⟩
        ·simp only[qH h];exact⟨trivial,trivial⟩) (by rw[Ar.out,Dp.out]at hw8;exact hw8) (by rw[Ar.out,Dp.out]at Ae;exact Ae)
     have Dk:=(qW w8 ⟨g,k*6+3,none⟩ tb vt (show tb≠g by have:=Bb.out;omega)).trans ((tb2 hw8 (qA.1 Af.out).1 (Am.out tb _ _ _ Af.out (by decide))).trans Af.out);have q1:=Cr.out w8 hw8;have q2:=Bq.out w8 hw8;have Dr:=Hd (Ad Au.out);have Dg:=Hd (Ad Ax.out);have Bm:=Hd (Ad Aw.out);have B9:=Hd (Ad A2.out);have Da:=Hd D1;have D6:=Hd D5;have Et:=Hd Dk;have Cc:=Hd Bt
     obtain⟨av,nv,cv,rfl⟩:∃a n c,vt = .slice a n c:=by
      rcases Ae.1.2 with⟨h,_⟩|⟨_,_,_,h,_⟩
      ·exact⟨_,_,_,h⟩
      ·exact⟨_,_,_,h⟩
     clear Ae Ad D1 D5 Ds hA hw8 Dk Bt;clear Au Ax Aw A2 Al Af Cr Bq A7 Ba Aq Am Ar A1 Bn;go_wp2_with (fail);obtain⟨W3,Cq⟩:=XQ (w8.setCell ⟨g,k*6+3,none⟩ (.slice av nv cv))
     obtain⟨V2,B6⟩:=Xq (fun i=>if i=(k,1)then .slice av nv cv else V' i:Nat×Nat->Value)
     have Ak:=D6.out;have Bl:=Et.out;have Cu:=Dr.out;have C7:=Dg.out;have Ce:=Bm.out;have Cd:=B9.out;have Cx:=Da.out;rw[show k*6+posF 1=k*6+3 from rfl,Cq,<-B6]at Ak;rw[Cq]at Bl Cu C7 Ce Cd Cx⊢
     have Ci:V2 (k,2)=V (k,2)/\V2 (k,3)=V (k,3):=by rw[B6];exact⟨(qH (fun e=>by cases e)).trans (Ct.out k (qC _) 2),(qH (fun e=>by cases e)).trans (Ct.out k (qC _) 3)⟩
     have Cv:=Hd (show ∀j,k+1<=j->∀fd,V2 (j,fd)=V (j,fd)from fun j hj fd=>by
      rw[B6]
      exact(qH (fun e=>by cases e;omega)).trans (Ct.out j (by omega) fd))
     obtain⟨vm,A5⟩:=Xq (V2 (k,2))
     obtain⟨vx,Av⟩:=Xq (V2 (k,3))
     have Dt:∀z,vm.ownBlock=some z->g<z/\z<tb:=fun z e=>⟨(Ak.low (i:=(k,2)) ⟨hk,by omega⟩ z (by rw[<-A5];exact e)).1,Cj.out (k,2) ⟨hk,by omega⟩ z (by rw[<-Ci.1,<-A5];exact e)⟩
     have Dd:∀z,vx.ownBlock=some z->g<z/\z<tb:=fun z e=>⟨(Ak.low (i:=(k,3)) ⟨hk,by omega⟩ z (by rw[<-Av];exact e)).1,Cj.out (k,3) ⟨hk,by omega⟩ z (by rw[<-Ci.2,<-Av];exact e)⟩
     have Ck:=Ak.fam.own (k,2) ⟨hk,by omega⟩;have C3:=Ak.fam.own (k,3) ⟨hk,by omega⟩;have Ae:=Ak.fam.apart (k,2) (k,3) ⟨hk,by omega⟩ ⟨hk,by omega⟩ (fun e=>by cases e);rw[<-A5]at Ck Ae;rw[<-Av]at C3 Ae;obtain⟨f,hf⟩:=Xq (fun z=>(fOf W3 vm (celS 2) [.int .i64 x2] z).or (fOf W3 vx (celS 3) [.int .i64 x3] z):Nat->Option (Obj×Obj))
     have Ac:∀z,z<=g∨tb<=z->f z=none:=fun z hz=>by rw[hf];show(fOf W3 vm (celS 2) [.int .i64 x2] z).or _=none;rw[fOn (fun e=>by have:=Dt z e;omega),fOn (fun e=>by have:=Dd z e;omega)];rfl
     have Er:∀z,vm.ownBlock=some z->f z=fOf W3 vm (celS 2) [.int .i64 x2] z:=fun z e=>by
      rw[hf];show(fOf W3 vm (celS 2) [.int .i64 x2] z).or _=_
      rw[fOn (v:=vx) (fun e2=>by
       rcases Ae with h|h
       ·rw[e]at h;cases h
       ·exact h (e.trans e2.symm))]
      exact Option.or_none
     have D0:∀z,vx.ownBlock=some z->f z=fOf W3 vx (celS 3) [.int .i64 x3] z:=fun z e=>by
      rw[hf];show(fOf W3 vm (celS 2) [.int .i64 x2] z).or _=_
      rw[fOn (v:=vm) (fun e2=>by
       rcases Ae with h|h
       ·rw[e2]at h;cases h
       ·exact h (e2.trans e.symm))]
      rfl
     have Bx:=Bb.out;have Cw:=(qA.1 Bl).1;obtain⟨A,hA,Bf⟩:=Ak.arr;have Ag:=Bf k hk 4 (by omega);have Aj:=Bf k hk 5 (by omega);rw[cCa _ _ _ _ (by omega)]at Ag Aj;simp only[qH (show ¬(4:Nat)=0 by omega),qH (show ¬(4:Nat)=1 by omega),qH (show ¬(4:Nat)=2 by omega),qH (show ¬(4:Nat)=3 by omega),jH]at Ag
     simp only[qH (show ¬(5:Nat)=0 by omega),qH (show ¬(5:Nat)=1 by omega),qH (show ¬(5:Nat)=2 by omega),qH (show ¬(5:Nat)=3 by omega),qH (show ¬(5:Nat)=4 by omega)]at Aj;rw[<-A5]at Ag;rw[<-Av]at Aj;obtain⟨q2,Fr,e2,Dm,Bu,_,A9⟩:=oc2 Ce (by omega);obtain⟨q3,Fz,e3,Dc,Br,_,A3⟩:=oc2 Cd (by omega);simp only[yQ,xf,Addr.mk.injEq,and_true,qAq]at e2 e3;obtain⟨rfl,rfl⟩:=e2;obtain⟨rfl,rfl⟩:=e3
     obtain⟨A9,_⟩:=A9 k hk;obtain⟨A3,_⟩:=A3 k hk;obtain⟨l1,l2,l3,l4⟩:=Dw.out;rw[qp,qD (by omega)]at A9 A3;simp only[ji,qj]at A9 A3;rw[show lc[k]'(by omega)=x2 by rw[<-Bc.out.2.2.1,qE,qD (by omega)];rfl]at A9;rw[show ld[k]'(by omega)=x3 by rw[<-Bc.out.2.2.2,qE,qD (by omega)];rfl]at A3;have Cb:=Ak.lt
     have Cg:=Hd (fun V (hV:(turns f).r W3 V)=>And.intro ((ta2 hV Cb (Ac g (.inl (qC _))) (o:=k*6+4)).trans ((qT _ _ _ _ _ _ hA).trans Ag)) ((ta2 hV Cb (Ac g (.inl (qC _))) (o:=k*6+5)).trans ((qT _ _ _ _ _ _ hA).trans Aj)));have Bq:=Hd (fun V (hV:(turns f).r W3 V) (i:Nat)=>zY V g i _ _ ((tb2 hV Cb (Ac g (.inl (qC _)))).trans hA))
     have A7:=Hd (fun V (hV:(turns f).r W3 V)=>(tb2 hV Cw (Ac tb (.inr (qC _)))).trans Bl);have Ba:=Hd (fun V (hV:(turns f).r W3 V)=>And.intro ((ta2 hV Bu (Ac _ (.inr Dm)) (o:=k)).trans A9) ((ta2 hV Br (Ac _ (.inr Dc)) (o:=k)).trans A3));have Aq:=Hd (show ∀y,W3.heap.size<=y->f y=none from fun y hy=>Ac y (.inr (by omega)));have Am:=Hd Ac;have D2:=Hd Er;have Eu:=Hd D0
     have Ar:=Hd (show ∀z,f z=(fOf W3 (V2 (k,2)) (celS 2) [.int .i64 x2] z).or (fOf W3 (V2 (k,3)) (celS 3) [.int .i64 x3] z)from fun z=>by rw[hf,A5,Av]);have Eb:=Hd Ck;have Cy:=Hd C3;have Fg:=Hd A5;have E9:=Hd Av;have B3:=Hd Ak;have E1:=Hd Bl;have Dn:=Hd Cu;have Df:=Hd C7;have Dj:=Hd Ce;have D7:=Hd Cd;have Du:=Hd Cx;have Ed:=Hd hA
     have Cm:=Hd (show(celL Ew (k,2)).length<=1000/\(celL Ew (k,3)).length<=1000 by
      have:=(El.out k hk).2;rw[Cc.out];simp only[Bj.out];unfold celL;simp only[jH,qH (jC k),qX,qH (show ¬(2:Nat)=0 by omega),qH (show ¬(2:Nat)=1 by omega),qH (show ¬(3:Nat)=0 by omega),qH (show ¬(3:Nat)=1 by omega),qH (show ¬(3:Nat)=2 by omega)]
      exact this)
     have Ft:=Hd Cw;clear Ac Er D0 hf Ck C3 A5 Av Ak Bl Cu C7 Ce Cd Cx hA Bf Ag Aj A9 A3 Bu Br Cb Cw Bx Dt Dd Ae Ci B6 Cq l1 l2 l3 l4 D6 Et Dr Dg Bm B9 Da Dm Dc;obtain⟨i1,Ee,Dh,Di,Dy⟩:=zF iI
     obtain⟨S,hS⟩:=Xq (FlowR.sp3 23 (fun x=>.inr (fun v w=>appd f W3.heap.size (g+1) (celT 3) (celS 3) ((celL Ew (k,3)).length+1) ((celL Ew (k,3)).flatten++[.int .i64 x3]) vx.ownBlock v w/\∀z,v.ownBlock=some z->W3.heap.size<=z->x.ownBlock≠some z)) (.inl (.pointer (some ⟨g,k*6,none⟩)) :: .inl (.pointer (some ⟨g,k*6,none⟩)) :: .inl (.pointer (some ⟨g,k*6,none⟩)) :: .inl (.pointer (some ⟨g,k*6,none⟩)) :: .inl (.pointer (some ⟨g,k*6+4,none⟩)) :: .inl vm :: .inl (.pointer (some ⟨tb,2,none⟩)) :: .inl (.slice (some ⟨p2,0,none⟩) n C4) :: .inl (.int .i64 k) :: .inl (.pointer (some ⟨p2,k,none⟩)) :: .inl (.int .i64 x2) :: .inr (newR W3.heap.size [.int .i64 x2]) :: .inr (appd f W3.heap.size (g+1) (celT 2) (celS 2) ((celL Ew (k,2)).length+1) ((celL Ew (k,2)).flatten++[.int .i64 x2]) vm.ownBlock) :: .inl (.pointer (some ⟨g,k*6,none⟩)) :: .inl (.pointer (some ⟨g,k*6,none⟩)) :: .inl (.pointer (some ⟨g,k*6+5,none⟩)) :: .inl vx :: .inl (.pointer (some ⟨tb,3,none⟩)) :: .inl (.slice (some ⟨p3,0,none⟩) n Cl) :: .inl (.int .i64 k) :: .inl (.pointer (some ⟨p3,k,none⟩)) :: .inl (.int .i64 x3) :: .inr (newR W3.heap.size [.int .i64 x3])::[]):Nat->Value->FlowR.Spec)
     refine FlowE.wp_region (R:=turns f) 24 24 1 S (fun _=>78) (by rw[hS];exact FlowR.soU (by kernel_rfl)) (by kernel_rfl) (by kernel_rfl) (by
       rw[hS];refine FlowR.sm2 (fun x=>?_) ?_
       ·rintro v a b ⟨h1,h2⟩ hr;exact⟨am2 Aq.out v a b h1 hr,h2⟩
       ·repeat(first|exact FlowR.ln2|refine FlowR.li2 ?_|refine FlowR.li3 (nRm Aq.out _) ?_|refine FlowR.li3 (am2 Aq.out) ?_)) rfl (by kernel_rfl) (by omega) (by first|(simp only[Region.wanted];done)|(simp[Region.wanted,yielded];done)) (fun w=>by go_simp;try rfl) ?_
     subst hS;simp only[FlowE.addE,List.modify_succ_cons,List.modify_zero_cons];simp only[qL,qY,qM,qV]
     iterate 11 (refine FlowR.tvK rfl (fun K hK=>⟨fun V hw hG=>?_,?_⟩);(obtain⟨t4,t5⟩:=Cg.out V hw;obtain⟨t6,t7,t8,t9⟩:=can4 (A7.out V hw);obtain⟨Eh,Fi⟩:=Ba.out V hw;clear hG hw;unfold FlowR.Runs FlowR.yields;go_simp;try rfl);go_simp;refine hK _ ?_;clear hK K)
     (refine FlowR.tvK2 rfl (fun K hK=>⟨fun V hw hG=>?_,?_⟩);(have B1:=hw.2.2.2.1;clear hG hw;unfold FlowR.Runs FlowR.yields;go_simp;exact⟨ta3 _ _,(⟨V.heap.size,rfl,B1,by simp,fun j u hu=>by rw[qT _ _ _ _ _ _ (jY _ _)];simpa using hu⟩:newR W3.heap.size [.int .i64 x2] (.slice (some ⟨V.heap.size,0,none⟩) 1 1) (V.alloc _))⟩);intro vn;go_simp;refine hK _ _ ?_;clear hK K)
     (refine FlowR.tvK2 rfl (fun K hK=>⟨fun V hw hG=>?_,?_⟩);(have Ap:=(show newR W3.heap.size [.int .i64 x2] vn V by simpa[FlowR.upd]using hG 11 (by kernel_rfl));have B0:=Cm.out.1;obtain⟨v',V',Ai,Bi,An⟩:=ta4 (P:=Tryz.prog) (t:=49) (ty:=49) Tryz.underlying49 Ee Dh Di Dy rfl (by decide) hw Eb.out D2.out rfl (by intro u hu;simp only[qm,zG,jr]at hu;rcases hu with rfl;rfl) (by unfold maxLen;omega) (by omega) B3.out.lt Ap;clear hG hw Ap;exact ra2 (t:=49) (.tmp 71) (.tmp 77) rfl rfl rfl rfl Ai Bi An);intro vt;go_simp;refine hK _ _ ?_;clear hK K)
     iterate 9 (refine FlowR.tvK rfl (fun K hK=>⟨fun V hw hG=>?_,?_⟩);(obtain⟨t4,t5⟩:=Cg.out V hw;obtain⟨t6,t7,t8,t9⟩:=can4 (A7.out V hw);obtain⟨Eh,Fi⟩:=Ba.out V hw;clear hG hw;unfold FlowR.Runs FlowR.yields;go_simp;try rfl);go_simp;refine hK _ ?_;clear hK K)
     (refine FlowR.tvK2 rfl (fun K hK=>⟨fun V hw hG=>?_,?_⟩);(have B1:=hw.2.2.2.1;clear hG hw;unfold FlowR.Runs FlowR.yields;go_simp;exact⟨ta3 _ _,(⟨V.heap.size,rfl,B1,by simp,fun j u hu=>by rw[qT _ _ _ _ _ _ (jY _ _)];simpa using hu⟩:newR W3.heap.size [.int .i64 x3] (.slice (some ⟨V.heap.size,0,none⟩) 1 1) (V.alloc _))⟩);intro Fa;go_simp;refine hK _ _ ?_;clear hK K)
     (refine FlowR.tvK2 rfl (fun K hK=>⟨fun V hw hG=>?_,?_⟩);(have Ap:=(show newR W3.heap.size [.int .i64 x3] Fa V by simpa[FlowR.upd]using hG 22 (by kernel_rfl));have E3:=(show appd f W3.heap.size (g+1) (celT 2) (celS 2) ((celL Ew (k,2)).length+1) ((celL Ew (k,2)).flatten++[.int .i64 x2]) vm.ownBlock vt V by simpa[FlowR.upd]using hG 12 (by kernel_rfl));have B0:=Cm.out.2;obtain⟨v',V',Ai,Bi,An,Cs⟩:=taa (P:=Tryz.prog) (t:=49) (ty:=49) Tryz.underlying49 Ee Dh Di Dy rfl (by decide) hw Cy.out Eu.out rfl (by intro u hu;simp only[qm,zG,jr]at hu;rcases hu with rfl;rfl) (by unfold maxLen;omega) (by omega) B3.out.lt Ap;clear hG hw Ap;exact ra2 (t:=49) (.tmp 82) (.tmp 88) rfl rfl rfl rfl Ai Bi ⟨An,fun z e hz e2=>by
       have h1:=(E3.1.lt z e2).2;rcases Cs with h|h
       ·have:=(Cy.out.lt z (h.symm.trans e)).2;omega
       ·have h3:=zr (e.symm.trans h)
        omega⟩);intro vu;go_simp;refine hK _ _ ?_;clear hK K)
     refine FlowR.tn2 fun w9 hw9 hG=>?_;have Ae:=(show appd f W3.heap.size (g+1) (celT 2) (celS 2) ((celL Ew (k,2)).length+1) ((celL Ew (k,2)).flatten++[.int .i64 x2]) vm.ownBlock vt w9 by simpa[FlowR.upd]using hG 12)
     obtain⟨Cf,Bs⟩:=(show appd f W3.heap.size (g+1) (celT 3) (celS 3) ((celL Ew (k,3)).length+1) ((celL Ew (k,3)).flatten++[.int .i64 x3]) vx.ownBlock vu w9/\(∀z,vu.ownBlock=some z->W3.heap.size<=z->vt.ownBlock≠some z) by simpa[FlowR.upd]using hG 23)
     clear hG;have B8:=(tb2 hw9 B3.out.lt (Am.out g (.inl (qC _)))).trans Ed.out;obtain⟨q4,q5⟩:=Cg.out w9 hw9;have z4:=Bq.out w9 hw9 (k*6+4)
     have D3:=SRd.pu2 (E':=fun j=>if j<k+1 then pM3 (E j) (Tess.wO (la.getD j 0) (lb.getD j 0)) (lc.getD j 0) (ld.getD j 0)else E j) B3.out hk (cLp5 (x:=x2) (y:=x3) (by
       simp only[qR (zQ k)];rw[Cc.out];simp only[jH,Bj.out,qH (jC k)];rw[Bc.out.1,Bc.out.2.1,Bc.out.2.2.1,Bc.out.2.2.2];rfl) (fun j hj=>by
       rw[Cc.out];simp only[qH hj,Bj.out];by_cases h:j<k
       ·simp only[qR h,qR (show j<k+1 by omega)]
       ·simp only[qH h,qH (show ¬j<k+1 by omega)])) (fun j=>by
       rw[Cc.out];simp only[Bj.out];by_cases h:j=k
       ·subst h;simp only[jH,qH (jC j),qR (zQ j)];exact⟨rfl,rfl⟩
       ·simp only[qH h];by_cases h2:j<k
        ·simp only[qR h2,qR (show j<k+1 by omega)];exact⟨trivial,trivial⟩
        ·simp only[qH h2,qH (show ¬j<k+1 by omega)];exact⟨trivial,trivial⟩)
      Ar.out hw9 (by rw[Fg.out]at Ae;exact Ae) (by rw[E9.out]at Cf;exact Cf) Bs
     have Ab:∀{v:Value} {m:Nat} {xs:List Value},W3.ownsRow tb 2 1 v m xs->((w9.setCell ⟨g,k*6+4,none⟩ vt).setCell ⟨g,k*6+5,none⟩ vu).ownsRow tb 2 1 v m xs:=fun {v m xs} ho=>
      ok2 (ok2 (to2 ho hw9 (fun y hy=>Am.out y (.inr (ho.lt y hy).1))) B8 (by decide) vt) (qO _ _ _ _ _ vt B8) (by decide) vu
     have Ep:Kept wb.heap.size r wb ((w9.setCell ⟨g,k*6+4,none⟩ vt).setCell ⟨g,k*6+5,none⟩ vu):=Kg (Kg (Kn Du.out hw9 (fun y hy _=>Am.out y (.inl (by have:=Bg.out;omega)))) Bg.out vt) Bg.out vu;have Dq:=(qW (w9.setCell ⟨g,k*6+4,none⟩ vt) ⟨g,k*6+5,none⟩ tb vu (show tb≠g by have:=Bb.out;omega)).trans ((qW w9 ⟨g,k*6+4,none⟩ tb vt (show tb≠g by have:=Bb.out;omega)).trans (A7.out w9 hw9));have Ff:=Hd D3
     have E0:=Hd (Ab Dn.out);have Fd:=Hd (Ab Df.out);have E5:=Hd (Ab Dj.out);have E2:=Hd (Ab D7.out);have B9:=Hd Ep;have Fh:=Hd Dq
     have q6:(w9.setCell ⟨g,k*6+4,none⟩ vt).cell? ⟨g,k*6+5,none⟩=some vx:=by rw[yC _ _ _ _ (fun e=>by simp at e)];exact q5
     have z6:=zY (w9.setCell ⟨g,k*6+4,none⟩ vt) g (k*6+5) _ _ (qO _ _ _ _ _ vt B8)
     obtain⟨Fy,F4,F3,rfl⟩:∃a n c,vt = .slice a n c:=by rcases Ae.1.2 with⟨h,_⟩|⟨_,_,_,h,_⟩<;>exact⟨_,_,_,h⟩
     obtain⟨Fn,Fs,Fx,rfl⟩:∃a n c,vu = .slice a n c:=by rcases Cf.1.2 with⟨h,_⟩|⟨_,_,_,h,_⟩<;>exact⟨_,_,_,h⟩
     clear Ae Cf Bs B8 D3 Ab Ep Dq hw9;clear Cg Bq A7 Ba Aq Am D2 Eu Ar Eb Cy B3 E1 Dn Df Dj D7 Du Ed Cm;go_wp2_with (fail);refine⟨rfl,?_⟩;go_wp2_with (fail);refine⟨?_,?measure⟩
     iterate 30 apply Exists.intro
     iterate 31 apply Exists.intro
     refine⟨?rel,rfl⟩
     case rel=>exact⟨k+1,_,by omega,by go_num,Ff.out,fun j hj fd=>(qH (fun e=>by cases e;omega)).trans ((qH (fun e=>by cases e;omega)).trans (Cv.out j hj fd)),Fh.out,E0.out,Fd.out,E5.out,E2.out,B9.out⟩
     case measure=>simp[intOf];omega
    ·have Cn:k=n:=by omega
     subst Cn;go_wp2_with (fail);go_ret;rw[Fk.out];refine⟨rfl,Al.out,fun x h=>?_⟩;cases h
     exact⟨V',SRd.congr Aa.out fun j hj=>by simp only[qR hj]⟩
