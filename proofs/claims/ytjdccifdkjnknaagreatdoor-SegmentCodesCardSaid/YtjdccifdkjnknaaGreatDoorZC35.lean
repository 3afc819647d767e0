/- Joined. -/
import Derived.Test.YtjdccifdkjnknaaGreatDoorZC34
set_option maxRecDepth 100000
set_option maxHeartbeats 4000000
namespace Go.Proofs.Q9
open Go.RowKit Go.Sort
open Tess (CK Pay)
theorem oe2(p q:Nat->Prop)(cs ds:List Value)(x:CK×Pay)(w:World)(hx:CA3 p w cs x)(hy:CA3 q w ds x) :
  Calls Tryz.prog 35 #[.agg cs.toArray,.agg ds.toArray] w fun e w'=>e = .returned (.bool true)/\Below w.heap.size w w':=by
 obtain⟨vd,vs,vm,vx,rfl,hd,hp⟩:=hx;obtain⟨ud,us,um,ux,rfl,he,hq⟩:=hy;have As:=Hd (fun W (hB:Below w.heap.size w W)=>ra52 p q vd ud _ _ W (hd.ag (Ag.new p hB)).w (he.ag (Ag.new q hB)).w);have Ar:=Hd (fun W (hB:Below w.heap.size w W)=>ra48 p q vs us _ _ W (hp.sums.ag (Ag.new p hB)).w (hq.sums.ag (Ag.new q hB)).w)
 have Ak:=Hd (fun W (hB:Below w.heap.size w W)=>ra17 p q vm um _ _ W (hp.mins.ag (Ag.new p hB)).w (hq.mins.ag (Ag.new q hB)).w);have Al:=Hd (fun W (hB:Below w.heap.size w W)=>ra17 p q vx ux _ _ W (hp.maxs.ag (Ag.new p hB)).w (hq.maxs.ag (Ag.new q hB)).w);simp only at As Ar Ak Al;obtain⟨a2,c2,rfl⟩:=hd.shape;obtain⟨a4,c4,rfl⟩:=hp.sums.shape;obtain⟨a5,c5,rfl⟩:=hp.mins.shape
 obtain⟨a6,c6,rfl⟩:=hp.maxs.shape;obtain⟨b2,d2,rfl⟩:=he.shape;obtain⟨b4,d4,rfl⟩:=hq.sums.shape;obtain⟨b5,d5,rfl⟩:=hq.mins.shape;obtain⟨b6,d6,rfl⟩:=hq.maxs.shape;clear hd hp he hq;generalize (x.1.2.map Tess.valOf).length=n2 at *;generalize x.2.sums.length=n4 at *;generalize x.2.mins.length=n5 at *;generalize x.2.maxs.length=n6 at *;generalize x.1.1=t1 at *;generalize x.2.n=z1 at *
 obtain⟨W0,Ap⟩:=XQ ((w.alloc (.cells #[.int .i64 t1,.slice a2 n2 c2,.int .i64 z1,.slice a4 n4 c4,.slice a5 n5 c5,.slice a6 n6 c6] 56)).alloc (.cells #[.int .i64 t1,.slice b2 n2 d2,.int .i64 z1,.slice b4 n4 d4,.slice b5 n5 d5,.slice b6 n6 d6] 56))
 obtain⟨k0,k1,kS,kB⟩:=la3 w (.cells #[.int .i64 t1,.slice a2 n2 c2,.int .i64 z1,.slice a4 n4 c4,.slice a5 n5 c5,.slice a6 n6 c6] 56) (.cells #[.int .i64 t1,.slice b2 n2 d2,.int .i64 z1,.slice b4 n4 d4,.slice b5 n5 d5,.slice b6 n6 d6] 56);rw[Ap]at k0 k1 kS kB;obtain⟨⟨x0,x1,x2,x3,x4,x5⟩,_⟩:=can6 k0;obtain⟨⟨y0,y1,y2,y3,y4,y5⟩,_⟩:=can6 k1;have Aq:=Hd k0;have An:=Hd k1;have HB:=Hd kB;clear k0 k1 kS kB
 go_enter Tryz.func35,Tryz.ntmps35;go_wp2_with (fail);go_at_call 85;refine(As.out _ HB.out).mono ?_;rintro e w1 ⟨rfl,hb⟩;have Aj:=Hd (Bt HB.out hb);have h0:=(hb.block _ (qA.1 Aq.out).1).trans Aq.out;have h1:=(hb.block _ (qA.1 An.out).1).trans An.out;have Ae:=Hd h0;have Af:=Hd h1;clear x0 x1 x2 x3 x4 x5 y0 y1 y2 y3 y4 y5;obtain⟨⟨x0,x1,x2,x3,x4,x5⟩,_⟩:=can6 h0;obtain⟨⟨y0,y1,y2,y3,y4,y5⟩,_⟩:=can6 h1
 clear hb h0 h1;clear Ap;go_wp2_with (fail);go_at_call 86;refine(Ar.out _ Aj.out).mono ?_;rintro e w2 ⟨rfl,hb⟩;have Am:=Hd (Bt Aj.out hb);have h0:=(hb.block _ (qA.1 Ae.out).1).trans Ae.out;have h1:=(hb.block _ (qA.1 Af.out).1).trans Af.out;have Ad:=Hd h0;have Ac:=Hd h1;clear x0 x1 x2 x3 x4 x5 y0 y1 y2 y3 y4 y5;obtain⟨⟨x0,x1,x2,x3,x4,x5⟩,_⟩:=can6 h0;obtain⟨⟨y0,y1,y2,y3,y4,y5⟩,_⟩:=can6 h1
 clear hb h0 h1;go_wp2_with (fail);go_at_call 87;refine(Ak.out _ Am.out).mono ?_;rintro e w3 ⟨rfl,hb⟩;have Ao:=Hd (Bt Am.out hb);have h0:=(hb.block _ (qA.1 Ad.out).1).trans Ad.out;have h1:=(hb.block _ (qA.1 Ac.out).1).trans Ac.out;have Aa:=Hd h0;have Ab:=Hd h1;clear x0 x1 x2 x3 x4 x5 y0 y1 y2 y3 y4 y5;obtain⟨⟨x0,x1,x2,x3,x4,x5⟩,_⟩:=can6 h0;obtain⟨⟨y0,y1,y2,y3,y4,y5⟩,_⟩:=can6 h1;clear hb h0 h1
 go_wp2_with (fail);go_at_call 87;refine(Al.out _ Ao.out).mono ?_;rintro e w4 ⟨rfl,hb⟩;have At:=Hd (Bt Ao.out hb);have h0:=(hb.block _ (qA.1 Aa.out).1).trans Aa.out;have h1:=(hb.block _ (qA.1 Ab.out).1).trans Ab.out;have Ai:=Hd h0;have Ah:=Hd h1;clear x0 x1 x2 x3 x4 x5 y0 y1 y2 y3 y4 y5;obtain⟨⟨x0,x1,x2,x3,x4,x5⟩,_⟩:=can6 h0;obtain⟨⟨y0,y1,y2,y3,y4,y5⟩,_⟩:=can6 h1;clear hb h0 h1;go_wp2_with (fail)
 go_ret;exact⟨rfl,At.out⟩
theorem se3(p q:Nat->Prop)(va vb:Value)(l:List (CK×Pay))(w:World)(ha:CA2 p w va l)(hb:CA2 q w vb l) :
  Calls Tryz.prog 15 #[va,vb] w fun e w'=>e = .returned (.bool true)/\Below w.heap.size w w':=by
 obtain⟨a,ca,rfl,_,hl,_,Al⟩:=LA.open ha;obtain⟨b,cb,rfl,_,_,_,Am⟩:=LA.open hb;have hl:l.length<=9223372036854775807:=by unfold maxLen at hl;omega
 have At:=Hd Al;have Aq:=Hd Am;clear Al Am ha hb;go_enter Tryz.func15,Tryz.ntmps15;go_wp2;go_loopw [5] (fun i wr=>∃k:Nat,k<=l.length/\i = .int .i64 k/\Below w.heap.size w wr) (fun i _=>l.length-(intOf i).toNat)
 case atStart=>exact⟨0,qN _,rfl,qJ _ _⟩
 case round=>
  obtain⟨k,hk,rfl,hB⟩:=hrel;have HB:=Hd hB;by_cases hlt:k<l.length
  ·have Ar:(k:Int)<(l.length:Int):=by omega
   obtain⟨b1,Ai,rfl,An,_,cs,_,Ah,Aa⟩:=At.out k hlt;obtain⟨b2,Aj,rfl,Ae,_,ds,_,Ak,Ab⟩:=Aq.out k hlt;have HS:=Hd (fun W (hW:Below wr.heap.size wr W)=>oe2 p q cs ds l[k] W (Ah.ag (Ag.new _ (Bt hB hW))) (Ak.ag (Ag.new _ (Bt hB hW))));obtain⟨_,_,_,_,_,_,_,_,rfl,_⟩:=Ah.shapes;obtain⟨_,_,_,_,_,_,_,_,rfl,_⟩:=Ak.shapes;have Ad:=fun o (ho:o<6)=>(hB.cell (p:=⟨b1,Ai+k*6+o,none⟩) An).trans (Aa o ho)
   have Ac:=fun o (ho:o<6)=>(hB.cell (p:=⟨b2,Aj+k*6+o,none⟩) Ae).trans (Ab o ho);have e0:=Ad 0 (by omega);have e1:=Ad 1 (by omega);have e2:=Ad 2 (by omega);have e3:=Ad 3 (by omega);have e4:=Ad 4 (by omega);have e5:=Ad 5 (by omega);have g0:=Ac 0 (by omega);have g1:=Ac 1 (by omega);have g2:=Ac 2 (by omega);have g3:=Ac 3 (by omega);have g4:=Ac 4 (by omega);have g5:=Ac 5 (by omega)
   simp only[yD,jU,jV]at e0 e1 e2 e3 e4 e5 g0 g1 g2 g3 g4 g5;have Af:b1<wr.heap.size:=qF An hB.size;have Au:b2<wr.heap.size:=qF Ae hB.size;clear Ad Ac Aa Ab Ah Ak hB;generalize l[k]=x at *;go_wp2_with (fail);refine Flow.wrf 8 (Flow.sp3 [.inl ?_,.inl ?_,.inl ?_,.inl ?_,.inl ?_,.inl ?_,.inl ?_,.inl ?_]) (by kernel_rfl) (by kernel_rfl) ?_ ?_;rotate_left 8
   ·refine Flow.sm2 ?_
    repeat(first|exact Flow.ln2|refine Flow.li2 ?_)
   all_goals try simp only[qL,qY,qM,qV]
   iterate 8 (refine Flow.tvK rfl (fun K hK=>⟨fun w hw hG=>?_,?_⟩);(have Av:=Flow.bc4 hw;clear hG hw;unfold Flow.Runs Flow.yields;go_simp;try rfl);go_simp;refine hK _ ?_;clear hK K)
   refine Flow.tn2 fun w1 Af hG=>?_;clear hG;have Ao:=Hd (Bt HB.out Af);have As:=Hd (HS.out w1 Af);clear Af;go_wp2_with (fail);go_at_call 35;refine As.out.mono ?_;rintro e w2 ⟨rfl,Ae⟩;have Ap:=Hd (Bt Ao.out Ae);clear Ae e0 e1 e2 e3 e4 e5 g0 g1 g2 g3 g4 g5;go_wp2;go_roundw
   case rel=>exact⟨k+1,by omega,by go_num,Ap.out⟩
   case measure=>simp[intOf];omega
  ·have Ar:¬(k:Int)<(l.length:Int):=by omega
   go_wp2;go_ret;exact⟨rfl,HB.out⟩
end Go.Proofs.Q9
namespace Tess
open Go Kl Go.RowKit Go.Proofs.Q9
abbrev ta:ByteArray:=⟨#[97]⟩
abbrev tyy:ByteArray:=⟨#[121]⟩
def sc2:Sch:=⟨[ta],[],1⟩
def ce2:List (CK×Pay):=[((0,[some tyy]),⟨1,[],[],[]⟩),((5,[none]),⟨2,[],[],[]⟩)]
theorem so5:sO sc2=true:=by decide +kernel
theorem p0:putL 0=[0]:=pLl2 0 (by decide)
theorem p1:putL 1=[1]:=pLl2 1 (by decide)
theorem p2:putL 2=[2]:=pLl2 2 (by decide)
theorem p10:putL 10=[10]:=pLl2 10 (by decide)
theorem he3:hB14 sc2=[1,0,1,1,97]:=by show putL 1++(putL 0++(putL 1++((putL 1++[97])++[])))=_;rw[p0,p1];rfl
theorem ti2:colT ce2=[2,0,10,2,2,2]:=by
 have e1:di 0 (ce2.map (·.1.1))=[0,5]:=by decide +kernel
 have e2:di 0 (ce2.map (·.2.n))=[1,1]:=by decide +kernel
 unfold colT pL2;rw[e1,e2];show(putL 2++(putL (tN 0)++(putL (tN 5)++[])))++(putL 2++(putL (tN 1)++(putL (tN 1)++[])))=_;rw[show tN 0=0 by decide +kernel,show tN 5=10 by decide +kernel,show tN 1=2 by decide +kernel,p0,p2,p10];rfl
theorem di3:dO2 ce2 0=[tyy]:=by
 have h:dW ce2 0=[tyy]:=rfl;unfold dO2;rw[h];have h1:=sWf [tyy];have h2:=(sWa [tyy] tyy).2 (by simp);have h3:=sWa [tyy];cases he:sW2 [tyy]with
 |nil=>rw[he]at h2;cases h2
 |cons x l=>
   rw[he]at h1 h3;cases l with
   |nil=>
     have:=(h3 x).1 (by simp);rw[zJ.1 this]
   |cons y l=>simp at h1
theorem di4:colD ce2 0=[1,0,1,121,2,1,64]:=by unfold colD;rw[di3];show(putL 1++([]++(putL (shared w0 tyy)++putL (tyy.size-shared w0 tyy)++tyy.data.toList.drop (shared w0 tyy))))++pN2 [place [tyy] tyy,1]=_;rw[show shared w0 tyy=0 by decide +kernel,show place [tyy] tyy=0 by decide +kernel];unfold pN2;rw[show widN [0,1]=1 by decide +kernel];show(putL 1++([]++(putL 0++putL 1++[121])))++(putL 2++_)=_;rw[p0,p1,p2];decide +kernel
theorem pa14:(pS2 sc2 ce2).map mk=[⟨#[1,0,1,1,97]⟩,⟨#[2,0,10,2,2,2]⟩,⟨#[1,0,1,121,2,1,64]⟩]:=by have e:pS2 sc2 ce2=[hB14 sc2,colT ce2,colD ce2 0]:=rfl;rw[e,he3,ti2,di4];rfl
theorem co5:CO sc2 ce2:=by
 refine⟨so5,by decide,fun x hx=>?_,?_⟩
 ·have h0:∀m:Nat,m<sc2.mets.length->False:=fun m hm=>zH m hm;simp only[ce2,qm,zG,jr]at hx;rcases hx with rfl|rfl
  ·exact⟨by decide,⟨rfl,by decide +kernel⟩,by decide,⟨⟨rfl,rfl,rfl⟩,by decide,fun m hm=>(h0 m hm).elim,fun m hm=>(h0 m hm).elim⟩⟩
  ·exact⟨by decide,⟨rfl,by decide +kernel⟩,by decide,⟨⟨rfl,rfl,rfl⟩,by decide,fun m hm=>(h0 m hm).elim,fun m hm=>(h0 m hm).elim⟩⟩
 ·exact List.Pairwise.cons (fun y hy=>by rw[zJ.1 hy];decide) (qBf _ _)
theorem en2:encP sc2 ce2=(joinL [⟨#[1,0,1,1,97]⟩,⟨#[2,0,10,2,2,2]⟩,⟨#[1,0,1,121,2,1,64]⟩],0):=by rw[efo co5 (by decide)];unfold encS;rw[pa14]
theorem de4:decP sc2 (encP sc2 ce2).1=(ce2,0):=deP (by rw[en2])
theorem de3:decP sc2 ⟨#[120]⟩=([],21):=by
 unfold decP;rw[qH (by rw[so5];decide)];have e:sF (ByteArray.size ⟨#[120]⟩) [] ⟨#[120]⟩=([],21):=by decide +kernel
 rw[e];rfl
end Tess
namespace Go.Proofs.Q9
open Go.RowKit Go.Sort
open Tess (DV)
def V1(B:Nat)(x:DV)(v:Value)(W:World):Prop:=∃d c,v = .slice (some ⟨d,0,none⟩) 1 c/\B<=d/\d<W.heap.size/\W.cell? ⟨d,0,none⟩=some (.string (Tess.valOf x).s)/\W.cell? ⟨d,1,none⟩=some (.bool (Tess.valOf x).null)
theorem V1.below{B:Nat}{x:DV}{v:Value}{W W':World}(h:V1 B x v W)(hb:Below W.heap.size W W'):V1 B x v W':=by obtain⟨d,c,e,h1,h2,h3,h4⟩:=h;exact⟨d,c,e,h1,qF h2 hb.size,(hb.cell (p:=⟨d,0,none⟩) h2).trans h3,(hb.cell (p:=⟨d,1,none⟩) h2).trans h4⟩
theorem V1.set{B g i:Nat}{x:DV}{v u:Value}{W:World}(h:V1 B x v W)(hg:g<B):V1 B x v (W.setCell ⟨g,i,none⟩ u):=by
 obtain⟨d,c,e,h1,h2,h3,h4⟩:=h;have Aa:∀o,(⟨d,o,none⟩:Addr)≠⟨g,i,none⟩:=fun o e=>by cases e;omega
 exact⟨d,c,e,h1,by simpa[World.setCell]using h2,(yC _ _ _ _ (xR (Aa 0))).trans h3,(yC _ _ _ _ (xR (Aa 1))).trans h4⟩
theorem Vm(B:Nat)(x:DV):Flow.Spec.mono (.inr (V1 B x)):=fun _ _ _ h hb=>h.below hb
theorem cV5{B:Nat}{x:DV}{v:Value}(W:World)(h:V1 B x v W):Calls Tryz.prog 114 #[v] W fun e w'=>∃v',e = .returned v'/\V1 W.heap.size x v' w'/\Below W.heap.size W w':=by
 obtain⟨d,c,rfl,h1,h2,h3,h4⟩:=h;refine(cVa (some ⟨d,0,none⟩) 1 c [.string (Tess.valOf x).s,.bool (Tess.valOf x).null] W (by omega) rfl (fun e=>by cases e) (fun ad e j u hj=>?_) (fun u hu=>?_)).mono ?_
 ·cases e
  rcases j with _|_|j
  ·cases hj;rw[addr_add];exact h3
  ·cases hj;rw[addr_add];exact h4
  ·simp at hj
 ·simp only[qm,zG,jr]at hu;rcases hu with rfl|rfl<;>rfl
 ·rintro e w' ⟨v',rfl,ho,_,hb⟩;obtain⟨q,Aa,e,g1,g2,_,_,g3⟩:=oca ho (by omega);exact⟨v',rfl,⟨q,Aa,e,g1,g2,g3 0 (by omega),g3 1 (by omega)⟩,hb⟩
theorem cW4(W:World):Calls Tryz.prog 115 #[.slice none 0 0] W fun e w'=>e = .returned (.slice none 0 0)/\Below W.heap.size W w':=by have q:∀(w:World) (a:Option Addr) (n c n' c':Nat),(binOp .eql 54 (.slice a n c) (.slice none n' c')).run Tryz.prog w = .ok (.bool a.isNone) w:=fun w a n c n' c'=>Lib.run_eql_slice_nil w _ _ a n c n' c' Tryz.underlying54;go_enter Tryz.func115,Tryz.ntmps115;go_wp2;go_ret;exact⟨rfl,qJ _ _⟩
theorem cI2(W:World):Calls Tryz.prog 116 #[.slice none 0 0] W fun e w'=>e = .returned (.slice none 0 0)/\Below W.heap.size W w':=by have q:∀(w:World) (a:Option Addr) (n c n' c':Nat),(binOp .eql 49 (.slice a n c) (.slice none n' c')).run Tryz.prog w = .ok (.bool a.isNone) w:=fun w a n c n' c'=>Lib.run_eql_slice_nil w _ _ a n c n' c' Tryz.underlying49;go_enter Tryz.func116,Tryz.ntmps116;go_wp2;go_ret;exact⟨rfl,qJ _ _⟩
theorem oa6{B:Nat}{x:DV}{v:Value}(t n:Int)(w:World)(h:V1 B x v w) :
  Calls Tryz.prog 60 #[.agg #[.int .i64 t,v,.int .i64 n,.slice none 0 0,.slice none 0 0,.slice none 0 0]] w fun e w'=>∃v',e = .returned (.agg #[.int .i64 t,v',.int .i64 n,.slice none 0 0,.slice none 0 0,.slice none 0 0])/\V1 w.heap.size x v' w'/\Below w.heap.size w w':=by
 have HV:=Hd h;obtain⟨d,c,rfl,_⟩:=h
 obtain⟨W0,Ae⟩:=XQ (((w.alloc (.cells #[.int .i64 t,.slice (some ⟨d,0,none⟩) 1 c,.int .i64 n,.slice none 0 0,.slice none 0 0,.slice none 0 0] 80)).alloc (.cells #[.int .i64 0,.slice none 0 0,.int .i64 0,.slice none 0 0,.slice none 0 0,.slice none 0 0] 56)).alloc (.cells #[.int .i64 t,.slice (some ⟨d,0,none⟩) 1 c,.int .i64 n,.slice none 0 0,.slice none 0 0,.slice none 0 0] 56))
 obtain⟨h0,h1,h2,hS,hB⟩:=la5 w (.cells #[.int .i64 t,.slice (some ⟨d,0,none⟩) 1 c,.int .i64 n,.slice none 0 0,.slice none 0 0,.slice none 0 0] 80) (.cells #[.int .i64 0,.slice none 0 0,.int .i64 0,.slice none 0 0,.slice none 0 0,.slice none 0 0] 56) (.cells #[.int .i64 t,.slice (some ⟨d,0,none⟩) 1 c,.int .i64 n,.slice none 0 0,.slice none 0 0,.slice none 0 0] 56);rw[Ae]at h0 h1 h2 hS hB
 rw[show w.heap.size+2=w.heap.size+1+1 by omega]at h2;have H0:=Hd h0;have H1:=Hd h1;have H2:=Hd h2;have HB:=Hd hB;have Ab:=Hd hS;have Au:=Hd (fun W (hW:Below W0.heap.size W0 W)=>cV5 W (HV.out.below (Bt hB hW)));have A1:=Hd Ae;clear Ae h1 h2 hB;go_enter Tryz.func60,Tryz.ntmps60;go_wp2_with (fail);rw[A1.out];obtain⟨⟨c0,c1,c2,c3,c4,c5⟩,_⟩:=can6 h0;have A6:w.heap.size<W0.heap.size:=by omega
 clear h0 hS;refine Flow.wrf 9 (Flow.sp3 [.inl ?_,.inl ?_,.inl ?_,.inr (V1 W0.heap.size x),.inl ?_,.inl ?_,.inl ?_,.inl (.slice none 0 0),.inl ?_]) (by kernel_rfl) (by kernel_rfl) ?_ ?_;rotate_left 7
 ·refine Flow.sm2 ?_
  repeat(first|exact Flow.ln2|refine Flow.li2 ?_|refine Flow.li3 (Vm _ _) ?_)
 all_goals try simp only[qL,qY,qM,qV]
 iterate 3 (refine Flow.tvK rfl (fun K hK=>⟨fun w hw hG=>?_,?_⟩);(have Af:=Flow.bc4 hw;clear hG hw;unfold Flow.Runs Flow.yields;go_simp;try rfl);go_simp;refine hK _ ?_;clear hK K)
 (refine Flow.tvK2 rfl (fun K hK=>⟨fun w hw hG=>?_,?_⟩);(have HW:=Hd hw;clear hG hw;unfold Flow.Runs Flow.yields;go_simp;refine(Au.out _ HW.out).mono ?_;rintro e w3 ⟨v3,rfl,At,Aa⟩;exact⟨v3,rfl,Aa,(by obtain⟨d,c,e,h1,h2⟩:=At;exact⟨d,c,e,qt HW.out.size h1,h2⟩)⟩);intro vz;go_simp;refine hK _ _ ?_;clear hK K)
 iterate 3 (refine Flow.tvK rfl (fun K hK=>⟨fun w hw hG=>?_,?_⟩);(have Af:=Flow.bc4 hw;clear hG hw;unfold Flow.Runs Flow.yields;go_simp;try rfl);go_simp;refine hK _ ?_;clear hK K)
 (refine Flow.tvK rfl (fun K hK=>⟨fun w hw hG=>?_,?_⟩);(clear hG hw;unfold Flow.Runs Flow.yields;go_simp;refine(cW4 _).mono ?_;rintro e w3 ⟨rfl,Aa⟩;exact⟨rfl,Aa⟩);go_simp;refine hK _ ?_;clear hK K)
 (refine Flow.tvK rfl (fun K hK=>⟨fun w hw hG=>?_,?_⟩);(clear hG hw;unfold Flow.Runs Flow.yields;go_simp;try rfl);go_simp;refine hK _ ?_;clear hK K)
 refine Flow.tn2 fun w2 hw2 hG=>?_;have Ar:=(show V1 W0.heap.size x vz w2 by simpa[Flow.upd]using hG 3)
 clear hG;have Ax:=Hd Ar;obtain⟨z,zc,rfl,_⟩:=Ar;have Ap:=Bt HB.out hw2;have Am:=(hw2.block _ (by have:=Ab.out;omega)).trans H0.out;have Aj:=(hw2.block _ (by have:=Ab.out;omega)).trans H1.out;have Ah:=(hw2.block _ (by have:=Ab.out;omega)).trans H2.out;obtain⟨_,f0,f1,f2,f3,f4,f5⟩:=can6 Ah;obtain⟨W3,Ac,k2,ko,ks,kB⟩:=tw3 (.slice (some ⟨z,0,none⟩) 1 zc) (.slice none 0 0) Ah Ap (by omega);have An:=Hd k2
 have Aq:=Hd ((ko w.heap.size (by omega)).trans Am);have As:=Hd ((ko (w.heap.size+1) (by omega)).trans Aj);have Av:=Hd kB
 have Ai:=Hd (show V1 W0.heap.size x (.slice (some ⟨z,0,none⟩) 1 zc) W3 by
  rw[<-Ac]
  exact(Ax.out.set (by have:=Ab.out;omega)).set (by have:=Ab.out;omega))
 clear Am Aj Ah k2 ko kB hw2 Ap c0 c1 c2 c3 c4 c5 ks;obtain⟨⟨c0,c1,c2,c3,c4,c5⟩,_⟩:=can6 Aq.out;have Az:=Hd Ac;clear Ac;go_wp2_with (fail);rw[Az.out];clear f0 f1 f2 f3 f4 f5;have Aa:w.heap.size<W3.heap.size:=(qA.1 Aq.out).1;refine Flow.wrf 9 (Flow.sp3 [.inl ?_,.inl ?_,.inl ?_,.inl (.slice none 0 0),.inl ?_,.inl ?_,.inl ?_,.inl (.slice none 0 0),.inl ?_]) (by kernel_rfl) (by kernel_rfl) ?_ ?_
 rotate_left 7
 ·refine Flow.sm2 ?_
  repeat(first|exact Flow.ln2|refine Flow.li2 ?_)
 all_goals try simp only[qL,qY,qM,qV]
 iterate 3 (refine Flow.tvK rfl (fun K hK=>⟨fun w hw hG=>?_,?_⟩);(have Af:=Flow.bc4 hw;clear hG hw;unfold Flow.Runs Flow.yields;go_simp;try rfl);go_simp;refine hK _ ?_;clear hK K)
 (refine Flow.tvK rfl (fun K hK=>⟨fun w hw hG=>?_,?_⟩);(clear hG hw;unfold Flow.Runs Flow.yields;go_simp;refine(cI2 _).mono ?_;rintro e w3 ⟨rfl,Aa⟩;exact⟨rfl,Aa⟩);go_simp;refine hK _ ?_;clear hK K)
 iterate 3 (refine Flow.tvK rfl (fun K hK=>⟨fun w hw hG=>?_,?_⟩);(have Af:=Flow.bc4 hw;clear hG hw;unfold Flow.Runs Flow.yields;go_simp;try rfl);go_simp;refine hK _ ?_;clear hK K)
 (refine Flow.tvK rfl (fun K hK=>⟨fun w hw hG=>?_,?_⟩);(clear hG hw;unfold Flow.Runs Flow.yields;go_simp;refine(cI2 _).mono ?_;rintro e w3 ⟨rfl,Aa⟩;exact⟨rfl,Aa⟩);go_simp;refine hK _ ?_;clear hK K)
 (refine Flow.tvK rfl (fun K hK=>⟨fun w hw hG=>?_,?_⟩);(clear hG hw;unfold Flow.Runs Flow.yields;go_simp;try rfl);go_simp;refine hK _ ?_;clear hK K)
 refine Flow.tn2 fun w4 hw4 hG=>?_;clear hG;have Ao:=Bt Av.out hw4;have Ad:=(hw4.block _ (qA.1 An.out).1).trans An.out;have Ak:=(hw4.block _ (qA.1 As.out).1).trans As.out;obtain⟨_,f0,f1,f2,f3,f4,f5⟩:=can6 Ad;obtain⟨W5,Al,k2,ko,A3,kB⟩:=tw2 (.slice none 0 0) (.slice none 0 0) Ad Ao (by omega)
 have A2:=Hd (show V1 W0.heap.size x (.slice (some ⟨z,0,none⟩) 1 zc) W5 by
  rw[<-Al]
  exact((Ai.out.below hw4).set (by have:=Ab.out;omega)).set (by have:=Ab.out;omega))
 have k1:=(ko (w.heap.size+1) (by omega)).trans Ak;have A7:=Hd Al;have A0:=Hd k1;have A5:=Hd kB;have Ag:=Hd k2;obtain⟨⟨c0,c1,c2,c3,c4,c5⟩,_⟩:=can6 Ag.out;obtain⟨_,g0,g1,g2,g3,g4,g5⟩:=can6 k1;clear k1 kB k2 ko A3 Ak Ad Ao hw4;go_wp2_with (fail);have q1:=set6 (.int .i64 t) (.slice (some ⟨z,0,none⟩) 1 zc) (.int .i64 n) (.slice none 0 0) (.slice none 0 0) (.slice none 0 0) A0.out
 have qB:=sb2 (.int .i64 t) (.slice (some ⟨z,0,none⟩) 1 zc) (.int .i64 n) (.slice none 0 0) (.slice none 0 0) (.slice none 0 0) A5.out (show w.heap.size<=w.heap.size+1 by omega);obtain⟨⟨e0,e1,e2,Aw,Ay,A4⟩,_⟩:=can6 q1;have hz:=Ab.out
 have hv:V1 W0.heap.size x (.slice (some ⟨z,0,none⟩) 1 zc) _:=(((((A2.out.set (i:=0) (u:=.int .i64 t) (show w.heap.size+1<W0.heap.size by omega)).set (i:=1) (u:=.slice (some ⟨z,0,none⟩) 1 zc) (show w.heap.size+1<W0.heap.size by omega)).set (i:=2) (u:=.int .i64 n) (show w.heap.size+1<W0.heap.size by omega)).set (i:=3) (u:=.slice none 0 0) (show w.heap.size+1<W0.heap.size by omega)).set (i:=4) (u:=.slice none 0 0) (show w.heap.size+1<W0.heap.size by omega)).set (i:=5) (u:=.slice none 0 0) (show w.heap.size+1<W0.heap.size by omega)
 refine jW (v:=.agg #[.int .i64 t,.slice (some ⟨z,0,none⟩) 1 zc,.int .i64 n,.slice none 0 0,.slice none 0 0,.slice none 0 0]) (by simp[results,Tryz.results60,go_sem,e0,e1,e2,Aw,Ay,A4]) rfl ⟨_,rfl,?_,qB⟩;obtain⟨d',c',e,h1,h2⟩:=hv;exact⟨d',c',e,by omega,h2⟩
theorem V1.vals{B:Nat}{x:DV}{v:Value}{W:World}(h:V1 B x v W)(hs:(Tess.valOf x).s.size<=maxLen):VA2 (fun _=>True) W v [Tess.valOf x]:=by
 obtain⟨d,c,rfl,_,h2,h3,h4⟩:=h
 exact⟨_,c,rfl,(by decide:(1:Nat)<=maxLen),fun y hy=>(by rw[zJ.1 hy];exact hs),(fun e=>by cases e),fun _=>⟨d,0,rfl,h2,trivial,fun j hj=>by
  have hj:j<1:=hj;obtain rfl:j=0:=by omega
  exact⟨h3,h4⟩⟩⟩
theorem V1.set6{B g:Nat}{x:DV}{v y0 y1 y2 y3 y4 y5:Value}{W:World}(h:V1 B x v W)(hg:g<B):V1 B x v ((((((W.setCell ⟨g,0,none⟩ y0).setCell ⟨g,1,none⟩ y1).setCell ⟨g,2,none⟩ y2).setCell ⟨g,3,none⟩ y3).setCell ⟨g,4,none⟩ y4).setCell ⟨g,5,none⟩ y5):=
 (((((h.set hg).set hg).set hg).set hg).set hg).set hg
theorem V1.low{B C:Nat}{x:DV}{v:Value}{W:World}(h:V1 B x v W)(hc:C<=B):V1 C x v W:=let⟨d,c,e,h1,h2⟩:=h;⟨d,c,e,qt hc h1,h2⟩
theorem oa9{B:Nat}{x:DV}{v:Value}(t:Int)(vs:Value)(s:Tess.Sch)(w:World)(hs:SA (fun _=>True) w vs s)(hg:s.grain=1)(hfit:Tess.rowFits s t [Tess.valOf x] 0=true)(hv:V1 B x v w)(hsz:(Tess.valOf x).s.size<=maxLen) :
  Calls Tryz.prog 24 #[vs,.agg #[.int .i64 t,v,.slice none 0 0]] w fun e w'=>∃v',e = .returned (.tuple #[.agg #[.int .i64 t,v',.int .i64 1,.slice none 0 0,.slice none 0 0,.slice none 0 0],.int .i64 0])/\V1 w.heap.size x v' w'/\Below w.heap.size w w':=by
 have Ap:Tess.sO s=true:=by unfold Tess.rowFits at hfit;simp only[qb]at hfit;exact hfit.1.1.1.1.1
 have HR:=Hd (fun W (hB:Below w.heap.size w W)=>sRa vs s (fun _=>True) W (hs.ag (Ag.new _ hB)));have HF:=Hd (fun W (hB:Below w.heap.size w W)=>sFa (fun _=>True) vs (.agg #[.int .i64 t,v,.slice none 0 0]) s t [Tess.valOf x] [] W (hs.ag (Ag.new _ hB)) ⟨v,none,0,rfl,qC _,(hv.vals hsz).ag (Ag.new _ hB),SlP.nil _ _⟩);rw[Ap]at HR;rw[show([]:List Int).length=0 from rfl,hfit]at HF
 have Aa:0<=t/\t<=1000000000000:=by unfold Tess.rowFits at hfit;simp only[qb,qn]at hfit;exact⟨hfit.1.1.1.1.2,hfit.1.1.1.2⟩
 have HG:=Hd (fun W=>gCa t 1 W Aa (by omega));rw[show t-t%1=t by omega]at HG;have HV:=Hd hv;obtain⟨vd,vm,rfl,hd,hm,_,_⟩:=hs;obtain⟨ad,Ac,rfl,_⟩:=sl3 hd;obtain⟨am,Ab,rfl,_⟩:=sl3 hm;rw[hg]at HR HF⊢;obtain⟨d,c,rfl,_⟩:=hv;clear hd hm Ap hfit Aa hsz
 obtain⟨W0,Ao⟩:=XQ (((w.alloc (.cells #[.slice ad s.dims.length Ac,.slice am s.mets.length Ab,.int .i64 1] 24)).alloc (.cells #[.int .i64 t,.slice (some ⟨d,0,none⟩) 1 c,.slice none 0 0] 51)).alloc (.cells #[.int .i64 0,.slice none 0 0,.int .i64 0,.slice none 0 0,.slice none 0 0,.slice none 0 0] 56))
 obtain⟨h0,h1,h2,hS,hB⟩:=la5 w (.cells #[.slice ad s.dims.length Ac,.slice am s.mets.length Ab,.int .i64 1] 24) (.cells #[.int .i64 t,.slice (some ⟨d,0,none⟩) 1 c,.slice none 0 0] 51) (.cells #[.int .i64 0,.slice none 0 0,.int .i64 0,.slice none 0 0,.slice none 0 0,.slice none 0 0] 56);rw[Ao]at h0 h1 h2 hS hB;rw[show w.heap.size+2=w.heap.size+1+1 by omega]at h2;obtain⟨⟨x0,x1,x2⟩,_⟩:=can3 h0
 have HB:=Hd hB;have Az:=Hd hS;have HC:=Hd (fun W (hW:Below W0.heap.size W0 W)=>And.intro ((hW.block _ (by omega)).trans h0) (And.intro ((hW.block _ (by omega)).trans h1) ((hW.block _ (by omega)).trans h2)));clear h0 h1 h2 hS hB;go_enter Tryz.func24,Tryz.ntmps24;go_wp2_with (fail);go_at_call 23;refine(HR.out W0 HB.out).mono ?_;rintro e w1 ⟨rfl,Ai⟩;obtain⟨q0,q1,_⟩:=HC.out w1 Ai;clear x0 x1 x2 Ao
 obtain⟨⟨x0,x1,x2⟩,_⟩:=can3 q0;obtain⟨⟨y0,y1,y2⟩,_⟩:=can3 q1;have Am:=Hd Ai;clear q0 q1 Ai;go_wp2_with (fail);go_at_call 57;refine(HF.out w1 (Bt HB.out Am.out)).mono ?_;rintro e w2 ⟨rfl,Aq⟩;have Ar:=Hd (Bt Am.out Aq);clear x0 x1 x2 y0 y1 y2 Aq;obtain⟨q0,q1,_⟩:=HC.out w2 Ar.out;obtain⟨⟨x0,x1,x2⟩,_⟩:=can3 q0;obtain⟨⟨y0,y1,y2⟩,_⟩:=can3 q1;clear q0 q1;go_wp2_with (fail);go_at_call 58
 refine(HG.out w2).mono ?_;rintro e w3 ⟨rfl,Al⟩;have An:=Hd (Bt Ar.out Al);clear x0 x1 x2 y0 y1 y2 Al;obtain⟨q0,q1,q2⟩:=HC.out w3 An.out;obtain⟨⟨y0,y1,y2⟩,_⟩:=can3 q1;obtain⟨W4,Ad⟩:=XQ (w3.alloc (.cells #[.int .i64 t,.slice (some ⟨d,0,none⟩) 1 c,.int .i64 1,.slice none 0 0,.slice none 0 0,.slice none 0 0] 80))
 obtain⟨k0,kS,kB⟩:=la2 w3 (.cells #[.int .i64 t,.slice (some ⟨d,0,none⟩) 1 c,.int .i64 1,.slice none 0 0,.slice none 0 0,.slice none 0 0] 80);rw[Ad]at k0 kS kB;have k1:=(kB.block _ (qA.1 q1).1).trans q1;have k2:=(kB.block _ (qA.1 q2).1).trans q2;obtain⟨⟨u0,u1,u2⟩,_⟩:=can3 k1;obtain⟨⟨g0,g1,g2,g3,g4,g5⟩,_⟩:=can6 k0;have Af:=Hd k2;have Ah:=Hd (Bt (Bt HB.out An.out) kB)
 have Aj:=Hd (oa6 t 1 W4 (HV.out.below Ah.out));have At:=Hd Ad;rw[<-Ad]at u0 u1 u2;clear q0 q1 q2 k0 k1 k2 kS kB Ad;go_wp2_with (fail);rw[At.out];refine wp_loop_once ?_;go_wp2_with (fail);go_at_call 60;refine Aj.out.mono ?_;rintro e w8 ⟨v8,rfl,As,Ak⟩;have Ae:=(Ak.block _ (qA.1 Af.out).1).trans Af.out;have Ay:=Hd As;obtain⟨d8,c8,rfl,_⟩:=As;obtain⟨_,f0,f1,f2,f3,f4,f5⟩:=can6 Ae
 have Ax:=Hd (Bt Ah.out Ak);have Aw:=Hd Ae;have Au:=Hd Ah.out.size;clear Ae Ak;go_wp2_with (fail);have q1:=set6 (.int .i64 t) (.slice (some ⟨d8,0,none⟩) 1 c8) (.int .i64 1) (.slice none 0 0) (.slice none 0 0) (.slice none 0 0) Aw.out
 have qB:=sb2 (.int .i64 t) (.slice (some ⟨d8,0,none⟩) 1 c8) (.int .i64 1) (.slice none 0 0) (.slice none 0 0) (.slice none 0 0) Ax.out (show w.heap.size<=w.heap.size+1+1 by omega);obtain⟨⟨e0,e1,e2,e3,e4,e5⟩,_⟩:=can6 q1;have Av:=(qA.1 Af.out).1
 exact jW (v:=.tuple #[.agg #[.int .i64 t,.slice (some ⟨d8,0,none⟩) 1 c8,.int .i64 1,.slice none 0 0,.slice none 0 0,.slice none 0 0],.int .i64 0]) (by simp[results,Tryz.results24,go_sem,e0,e1,e2,e3,e4,e5]) rfl ⟨_,rfl,(Ay.out.set6 Av).low Au.out,qB⟩
end Go.Proofs.Q9
namespace Go.Proofs.Q9
open Go.RowKit Go.Sort Go.Shelf
open Tess (DV ckLt)
theorem V1.cell{B:Nat}{x:DV}{v:Value}{W:World}(h:V1 B x v W):∃d c,v = .slice (some ⟨d,0,none⟩) 1 c/\VC W (some ⟨d,0,none⟩) [Tess.valOf x]:=by
 obtain⟨d,c,e,_,h2,h3,h4⟩:=h;refine⟨d,c,e,fun j hj=>⟨d,0,rfl,h2,?_⟩⟩;have hj:j<1:=hj;obtain rfl:j=0:=by omega
 exact⟨h3,h4⟩
def cv(y:Int×DV×Int)(v:Value):List Value:=[.int .i64 y.1,v,.int .i64 y.2.2,.slice none 0 0,.slice none 0 0,.slice none 0 0]
theorem oc6(x:DV):[Tess.valOf x].map Tess.Val.c=[x]:=zM (fun y=>[y]) (Tess.cvO x)
theorem se2{bl bc g cap n:Nat}{la:Option Addr}{x:DV}{t m:Int}{v:Value}{W:World}{T:TypeId}(Y:Nat->Int×DV×Int)(us:Nat->Value)(k:Nat)(hn:n<=2)(hla:0<n->la=some ⟨g,0,none⟩)
  (hl:W.cell? ⟨bl,0,none⟩=some (.slice la n cap)) (hrow:∀i,i<n->∀j,j<6->W.cell? ⟨g,i*6+j,none⟩=(cv (Y i) (us i))[j]?) (hg:0<n->g<W.heap.size) (hu:∀i,i<n->V1 0 (Y i).2.1 (us i) W)
  (hc:W.heap[bc]?=some (.cells #[.int .i64 t,v,.int .i64 m,.slice none 0 0,.slice none 0 0,.slice none 0 0] T (0,0))) (hv:V1 0 x v W) (hkn:k<=n) (hk:∀i,i<n->ckLt ((Y i).1,[(Y i).2.1]) (t,[x])=decide (i<k)) :
  Calls Tryz.prog 62 #[.int .i64 n,.func (.func 63) #[] #[.pointer (some ⟨bl,0,none⟩),.pointer (some ⟨bc,0,none⟩)]] W fun e w'=>e = .returned (.int .i64 k)/\Below W.heap.size W w':=by
 have eu:∀args w,(callFunc 63 args).run Tryz.prog w = .ok (.enter 63 args) w:=yd Tryz.func63 (by kernel_rfl) rfl;obtain⟨dx,cx,rfl,Ab⟩:=hv.cell;obtain⟨⟨f0,f1,f2,f3,f4,f5⟩,_⟩:=can6 hc
 have hS:=Any.sort_Search Tryz.lS2 63 #[.pointer (some ⟨bl,0,none⟩),.pointer (some ⟨bc,0,none⟩)] n (fun i=> !decide (i<k)) W eu (by omega)
  (fun q os i hi=>by
    obtain⟨dy,cy,ey,Ac⟩:=(hu i hi).cell;have hr:=hrow i hi;rw[ey]at hr;rw[hla (by omega)]at hl;have Aa:=hg (by omega)
    have hp:=pa11 bl bc g 0 n cap i (some ⟨dy,0,none⟩) (some ⟨dx,0,none⟩) cy cx [Tess.valOf (Y i).2.1] [Tess.valOf x] (Y i).1 t (Y i).2.2 m none none none none none none 0 0 0 0 0 0 0 0 0 0 0 0 (grow (W.drewN q) os) hi (show 1<=_ by omega)
     (zx (qK _ _ hl) hl q os) (zx Aa (by rw[qj];exact hr 0 (by omega)) q os) (zx Aa (by rw[qj];exact hr 1 (by omega)) q os) (zx Aa (by rw[qj];exact hr 2 (by omega)) q os) (zx Aa (by rw[qj];exact hr 3 (by omega)) q os) (zx Aa (by rw[qj];exact hr 4 (by omega)) q os) (zx Aa (by rw[qj];exact hr 5 (by omega)) q os)
     (zx (qK _ _ f0) f0 q os) (zx (qK _ _ f1) f1 q os) (zx (qK _ _ f2) f2 q os) (zx (qK _ _ f3) f3 q os) (zx (qK _ _ f4) f4 q os) (zx (qK _ _ f5) f5 q os)
     (Ac.grown q os) (Ab.grown q os)
    rw[oc6,oc6,hk i hi]at hp
    exact hp)
  (fun a b hab hb hq=>by simp only[xd,jw]at hq⊢;omega)
 refine xL (show Calls Tryz.prog 62 _ _ _ from hS) ?_;rintro e w' ⟨rfl,q',os,rfl⟩;simp only[Bool.not_not];refine⟨?_,below_grown_sl W.heap.size W q' os (qC _)⟩
 have:(List.range n).countP (fun i=>decide (i<k))=k:=by
  rcases (show n=0∨n=1∨n=2 by omega)with rfl|rfl|rfl
  ·obtain rfl:k=0:=by omega
   rfl
  ·rcases (show k=0∨k=1 by omega)with rfl|rfl<;>rfl
  ·rcases (show k=0∨k=1∨k=2 by omega)with rfl|rfl|rfl<;>rfl
 rw[this]
