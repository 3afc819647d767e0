/- Is a cell right? The program's, walked, where it is. -/
import Derived.Test.YtjdccifdkjnknaaGreatDoorZC25
import Derived.Test.YtjdccifdkjnknaaGreatDoorZC26
set_option maxRecDepth 100000
set_option maxHeartbeats 2000000
namespace Go.Proofs.Q9
open Go.RowKit Go.Sort Go.Shelf
open Tess (CK Pay PO CO2)
theorem sor{p:Nat->Prop}{w:World}{v:Value}{ns:List Int}(h:RA 1 intF p w v ns):SlP p w v (ns.map (.int .i64)):=by
 obtain⟨a,c,rfl,h1,h2,h3,h4⟩:=h;refine⟨⟨by rw[qX];exact h1,a,c,by rw[qX],fun hl=>?_⟩,fun hl b hb=>?_,fun n c' e=>?_⟩
 ·obtain⟨b,Aa,ha,hb,_,hc⟩:=h4 (by simpa using hl);refine⟨b,Aa,ha,hb,fun j hj=>?_⟩;have:=hc j (by simpa using hj) 0 (by omega);simpa[intF]using this
 ·obtain⟨b',Aa,rfl,_,hp,_⟩:=h4 (by simpa using hl);simp[blk]at hb;subst hb;exact hp
 ·cases e;exact h3 rfl
theorem CA3.row{p:Nat->Prop}{w:World}{t n:Int}{vd v3 v4 v5:Value}{ds:List Tess.DV}{sl nl xl:List Int}(h:CA3 p w [.int .i64 t,vd,.int .i64 n,v3,v4,v5] ((t,ds),⟨n,sl,nl,xl⟩)):RA3 p w (.agg #[.int .i64 t,vd,v4]) t (ds.map Tess.valOf) nl:=by obtain⟨Ac,Aa,Ab,Ad,e,hd,hp⟩:=h;simp only[qAf,and_true,qAq]at e;obtain⟨rfl,rfl,rfl,rfl⟩:=e;have hm:=hp.mins;obtain⟨a,c,e,h1,h2,_⟩:=hm;simp only at e;subst e;exact⟨_,a,c,rfl,h2,hd,sor hp.mins⟩
theorem cRa(p:Nat->Prop)(vs:Value)(cs:List Value)(s:Tess.Sch)(x:CK×Pay)(w:World)(hs:SA p w vs s)(hc:CA3 p w cs x)(hsch:Tess.sO s=true)(hok:CO2 s x) :
  Calls Tryz.prog 38 #[.agg cs.toArray,vs] w fun e w'=>e = .returned (.bool true)/\Below w.heap.size w w':=by
 obtain⟨⟨t,ds⟩,n,sl,nl,xl⟩:=x;obtain⟨vd,v3,v4,v5,rfl,hd,hp⟩:=id hc;have Ac:=CA3.row hc;obtain⟨⟨t0,t1,t2⟩,⟨d1,d2⟩,Ab,Aa⟩:=hok;obtain⟨l1,l2,l3⟩:=Aa.len;simp only at hd hp t0 t1 t2 d1 d2 Ab l1 l2 l3 Ac⊢
 have hg:1<=s.grain/\s.grain<=1000000000:=by simp only[Tess.sO,qb,qn]at hsch;exact⟨hsch.1.1.2,hsch.1.2⟩
 have Ae:Tess.rowFits s t (ds.map Tess.valOf) nl.length=true:=by simp only[Tess.rowFits,qb,qn,qX];exact⟨⟨⟨⟨⟨hsch,t0⟩,t1⟩,d1⟩,l2⟩,d2⟩
 have hT:t-t%s.grain=t:=by omega
 have Ad:=Hd (fun W=>gCa t s.grain W ⟨t0,t1⟩ hg);rw[hT]at Ad;have Ai:=Hd (fun W (hB:Below w.heap.size w W)=>sFa p vs _ s t (ds.map Tess.valOf) nl W (hs.ag (Ag.new p hB)) (Ac.ag (Ag.new p hB)));rw[Ae]at Ai;have A0:=Hd hp.sums;have Aw:=Hd hp.mins;have A4:=Hd hp.maxs
 have Az:=Hd (show ∀k (h1:k<sl.length) (h2:k<nl.length) (h3:k<xl.length),∀W,Calls Tryz.prog 89 #[.agg #[.int .i64 (wHi sl[k]),.int .u64 (wLo sl[k])],.int .i64 n,.int .i64 nl[k],.int .i64 xl[k]] W fun e w'=>e = .returned (.bool true)/\Below W.heap.size W w' from fun k h1 h2 h3 W=>by
  have a1:=Aa.sum k (by omega);have a2:=Aa.rng k (by omega);have e1:sl.getD k 0=sl[k]:=by simp[List.getD,h1]
  have e2:nl.getD k 0=nl[k]:=by simp[List.getD,h2]
  have e3:xl.getD k 0=xl[k]:=by simp[List.getD,h3]
  simp only[e1,e2,e3]at a1 a2
  exact iSa _ _ _ _ a1 ⟨Aa.one,Ab⟩ ⟨a2.1,a2.2.1⟩ ⟨a2.2.2.1,a2.2.2.2⟩ W)
 obtain⟨da,dc,rfl⟩:=hd.shape;obtain⟨a3,c3,rfl,_,hM,_⟩:=hp.sums.sM l1;obtain⟨a4,c4,rfl,_,_,_⟩:=hp.mins.sM l2;obtain⟨a5,c5,rfl,_,_,_⟩:=hp.maxs.sM l3;have HL:=Hd (And.intro l1 (And.intro l2 l3));have Bd:¬n<1:=by have:=Aa.one;simp only at this;omega
 have A9:¬1000000<n:=by omega
 obtain⟨A8,A6,rfl,Ao,Am,_,_⟩:=hs;obtain⟨ad,Ah,rfl,_⟩:=sl3 Ao;obtain⟨am,Af,rfl,_⟩:=sl3 Am;generalize hdl:(ds.map Tess.valOf).length=dl at *;generalize s.mets.length=M at *;clear hd hp hc Ac Ao Am t0 t1 t2 d1 d2 Ab Aa l1 l2 l3 hg Ae hT hdl hsch
 obtain⟨W0,At⟩:=XQ ((w.alloc (.cells #[.int .i64 t,.slice da dl dc,.int .i64 n,.slice a3 M c3,.slice a4 M c4,.slice a5 M c5] 80)).alloc (.cells #[.slice ad s.dims.length Ah,.slice am M Af,.int .i64 s.grain] 24))
 obtain⟨h0,h1,hS,hB⟩:=la3 w (.cells #[.int .i64 t,.slice da dl dc,.int .i64 n,.slice a3 M c3,.slice a4 M c4,.slice a5 M c5] 80) (.cells #[.slice ad s.dims.length Ah,.slice am M Af,.int .i64 s.grain] 24);rw[At]at h0 h1 hS hB;have H0:=Hd h0;have H1:=Hd h1;have HB:=Hd hB;have HS:=Hd hS;obtain⟨⟨x0,x1,x2,x3,x4,x5⟩,_⟩:=can6 h0;obtain⟨⟨y0,y1,y2⟩,_⟩:=can3 h1;clear h0 h1 hS hB
 go_enter Tryz.func38,Tryz.ntmps38;go_wp2_with (fail);go_at_call 58;refine(Ad.out _).mono ?_;rintro e w1 ⟨rfl,Aj⟩;have h0:=(Aj.block _ (qA.1 H0.out).1).trans H0.out;have h1:=(Aj.block _ (qA.1 H1.out).1).trans H1.out;have Ap:=Hd (Bt HB.out Aj);have K0:=Hd h0;have K1:=Hd h1;clear x0 x1 x2 x3 x4 x5 y0 y1 y2 At Aj;obtain⟨⟨x0,x1,x2,x3,x4,x5⟩,_⟩:=can6 h0;obtain⟨⟨y0,y1,y2⟩,_⟩:=can3 h1;clear h0 h1
 go_wp2_with (fail);go_at_call 57;refine(Ai.out _ Ap.out).mono ?_;rintro e w2 ⟨rfl,Al⟩;have h0:=(Al.block _ (qA.1 K0.out).1).trans K0.out;have h1:=(Al.block _ (qA.1 K1.out).1).trans K1.out;have Av:=Hd (Bt Ap.out Al);have J0:=Hd h0;have J1:=Hd h1;clear x0 x1 x2 x3 x4 x5 y0 y1 y2 Al;obtain⟨⟨x0,x1,x2,x3,x4,x5⟩,_⟩:=can6 h0;clear h0 h1;go_wp2_with (fail);clear x0 x1 x2 x3 x4 x5
 go_loopw [78] (fun i wr=>∃k:Nat,k<=M/\i = .int .i64 k/\Below w2.heap.size w2 wr) (fun i _=>M-(intOf i).toNat)
 case atStart=>exact⟨0,qN _,rfl,qJ _ _⟩
 case round=>
  obtain⟨k,hk,rfl,hB⟩:=hrel;by_cases hlt:k<M
  ·have Ax:(k:Int)<(M:Int):=by omega
   have hl:=HL.out;have Ak:=Bt Av.out hB;obtain⟨b3,o3,rfl,A2,e0,e1⟩:=(A0.out.ag (Ag.new p Ak)).num2 (show k<sl.length by omega);obtain⟨b4,o4,rfl,Au,e2⟩:=(Aw.out.ag (Ag.new p Ak)).num1 (show k<nl.length by omega);obtain⟨b5,o5,rfl,As,e3⟩:=(A4.out.ag (Ag.new p Ak)).num1 (show k<xl.length by omega);have A1:=Hd (Az.out k (by omega) (by omega) (by omega))
   have h0:=(hB.block _ (qA.1 J0.out).1).trans J0.out;generalize sl[k]=z1 at *;generalize nl[k]=z2 at *;generalize xl[k]=z3 at *;obtain⟨W3,An⟩:=XQ (wr.alloc (.cells #[.int .i64 (wHi z1),.int .u64 (wLo z1)] 100))
   obtain⟨q0,qS,qB⟩:=la2 wr (.cells #[.int .i64 (wHi z1),.int .u64 (wLo z1)] 100);rw[An]at q0 qS qB;have Ar:w.heap.size<wr.heap.size:=(qA.1 h0).1;obtain⟨⟨x0,x1,x2,x3,x4,x5⟩,_⟩:=can6 ((qB.block _ Ar).trans h0);obtain⟨⟨y0,y1⟩,_⟩:=can2 q0;have f2:=(qB.cell (p:=⟨b4,o4+k,none⟩) Au).trans e2;have f3:=(qB.cell (p:=⟨b5,o5+k,none⟩) As).trans e3;have Bb:w.heap.size<W3.heap.size:=by omega
   have Be:wr.heap.size<W3.heap.size:=by omega
   have Bc:b4<W3.heap.size:=by omega
   have A7:b5<W3.heap.size:=by omega
   have A3:=Hd (Bt hB qB);clear h0 q0 qS qB Ak hl hB Ar;go_wp2_with (fail);clear An e0 e1 e2 e3 A2 Au As;refine Flow.wrf 16 (Flow.sp3 [.inl ?_,.inl ?_,.inl ?_,.inl ?_,.inl ?_,.inl ?_,.inl ?_,.inl ?_,.inl ?_,.inl ?_,.inl ?_,.inl ?_,.inl ?_,.inl ?_,.inl ?_,.inl ?_]) (by kernel_rfl) (by kernel_rfl) ?_ ?_;rotate_left 16
   ·refine Flow.sm2 ?_
    repeat(first|exact Flow.ln2|refine Flow.li2 ?_)
   all_goals try simp only[qL,qY,qM,qV]
   iterate 16 (refine Flow.tvK rfl (fun K hK=>⟨fun w hw hG=>?_,?_⟩);(have Ba:=Flow.bc4 hw;clear hG hw;unfold Flow.Runs Flow.yields;go_simp;try rfl);go_simp;refine hK _ ?_;clear hK K)
   refine Flow.tn2 fun w5 hw5 hG=>?_;clear hG x0 x1 x2 x3 x4 x5 y0 y1 f2 f3;have A5:=Hd (Bt A3.out hw5);clear hw5;go_simp;go_wp2_with (fail);go_at_call 89;refine(A1.out _).mono ?_;rintro e w6 ⟨rfl,Aq⟩;have Ay:=Hd (Bt A5.out Aq);clear Aq;go_wp2;go_roundw
   case rel=>exact⟨k+1,by omega,by go_num,Ay.out⟩
   case measure=>simp[intOf];omega
  ·have Ax:¬(k:Int)<(M:Int):=by omega
   go_wp2;go_ret;exact⟨rfl,Bt Av.out hB⟩
