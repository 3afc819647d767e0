/- Joined. -/
import Derived.Test.YtjdccifdkjnknaaGreatDoorZC43
set_option maxRecDepth 100000
set_option maxHeartbeats 8000000
namespace Go.Proofs.Q9
open Go.RowKit Go.Sort
open Tess (RCel)
theorem ra58(p:Nat->Prop)(vs:Value)(cs:List Value)(s:Tess.Sch)(x:RCel)(w:World)(hs:SA p w vs s)(hc:RA2 p w cs x)(hmn:∀z∈x.mins,I64 z)(hmx:∀z∈x.maxs,I64 z) :
  Calls Tryz.prog 94 #[vs,.agg cs.toArray] w fun e w'=>e = .returned (.bool (x.ok s))/\Below w.heap.size w w':=by
 obtain⟨t,ds,n,sl,nl,xl⟩:=x;obtain⟨vd,v3,v4,v5,rfl,hd,Al,Ao,An⟩:=id hc;have Ae:=RA2.row hc;simp only at hd Al Ao An hmn hmx Ae⊢;have Ak:=Hd (fun W (hB:Below w.heap.size w W)=>rFa p vs _ s t ds nl W (hs.ag (Ag.new p hB)) (Ae.ag (Ag.new p hB)));have Ar:=Hd (fun W=>rCa3 t s.grain W);obtain⟨Aq,Ab⟩:=XQ (Tess.rowFits s t ds nl.length)
 rw[Ab]at Ak;have A3:=Hd Al;have A9:=Hd Ao;have Bf:=Hd An;have Be:=Hd hmn;have Bg:=Hd hmx;obtain⟨da,dc,rfl⟩:=hd.shape;obtain⟨a3,c3,rfl⟩:=Al.shape;obtain⟨a4,c4,rfl⟩:=Ao.shape;obtain⟨a5,c5,rfl⟩:=An.shape;obtain⟨Bk,Bj,rfl,A1,Aw,_,_⟩:=hs;obtain⟨ad,Aj,rfl,_⟩:=sl3 A1;obtain⟨am,Ah,rfl,_⟩:=sl3 Aw;obtain⟨ok,Au⟩:=XQ (RCel.ok s ⟨t,ds,n,sl,nl,xl⟩)
 have Ac:=Au;unfold RCel.ok at Ac;simp only[Ab]at Ac;rw[Au];have Aa:=Hd Ac
 have HF:=Hd (show Aq=true->(0<=t/\t<=1000000000000)/\(1<=s.grain/\s.grain<=1000000000)/\nl.length=s.mets.length from fun h=>by
  rw[<-Ab]at h;simp only[Tess.rowFits,Tess.sO,qb,qn]at h;obtain⟨⟨⟨⟨⟨⟨⟨⟨⟨⟨_,_⟩,_⟩,g1⟩,g2⟩,_⟩,t1⟩,t2⟩,_⟩,h1⟩,_⟩:=h
  exact⟨⟨t1,t2⟩,⟨g1,g2⟩,h1⟩)
 clear hd Al Ao An hc Ae A1 Aw hmn hmx Au Ac Ab;obtain⟨W0,A6⟩:=XQ (((w.alloc (.cells #[.slice ad s.dims.length Aj,.slice am s.mets.length Ah,.int .i64 s.grain] 24)).alloc (.cells #[.int .i64 t,.slice da ds.length dc,.int .i64 n,.slice a3 sl.length c3,.slice a4 nl.length c4,.slice a5 xl.length c5] 56)).alloc (.cells #[.int .i64 t,.slice da ds.length dc,.slice a4 nl.length c4] 51))
 obtain⟨h0,h1,h2,hS,hB⟩:=la5 w (.cells #[.slice ad s.dims.length Aj,.slice am s.mets.length Ah,.int .i64 s.grain] 24) (.cells #[.int .i64 t,.slice da ds.length dc,.int .i64 n,.slice a3 sl.length c3,.slice a4 nl.length c4,.slice a5 xl.length c5] 56) (.cells #[.int .i64 t,.slice da ds.length dc,.slice a4 nl.length c4] 51);rw[A6]at h0 h1 h2 hS hB;rw[show w.heap.size+2=w.heap.size+1+1 by omega]at h2
 have H0:=Hd h0;have H1:=Hd h1;have H2:=Hd h2;have HB:=Hd hB;obtain⟨⟨y0,y1,y2⟩,_⟩:=can3 h0;obtain⟨⟨x0,x1,x2,x3,x4,x5⟩,_⟩:=can6 h1;clear h0 h1 h2 hS hB;go_enter Tryz.func94,Tryz.ntmps94;go_wp2_with (fail);go_at_call 143;refine(Ar.out _).mono ?_;rintro e w1 ⟨⟨z,c,rfl,hz⟩,Af⟩;have h0:=(Af.block _ (qA.1 H0.out).1).trans H0.out;have h1:=(Af.block _ (qA.1 H1.out).1).trans H1.out
 have h2:=(Af.block _ (qA.1 H2.out).1).trans H2.out;have A2:=Hd (Bt HB.out Af);have K1:=Hd h1;have HZ:=Hd hz;clear x0 x1 x2 x3 x4 x5 y0 y1 y2 A6 Af hz;obtain⟨⟨y0,y1,y2⟩,_⟩:=can3 h0;obtain⟨⟨z0,z1,z2⟩,_⟩:=can3 h2;clear h0 h1 h2;go_wp2_with (fail);go_at_call 144;refine(Ak.out _ A2.out).mono ?_;rintro e w2 ⟨rfl,Av⟩;have h1:=(Av.block _ (qA.1 K1.out).1).trans K1.out;have Ad:=Hd (Bt A2.out Av)
 have J1:=Hd h1;clear y0 y1 y2 z0 z1 z2 Av;obtain⟨⟨x0,x1,x2,x3,x4,x5⟩,_⟩:=can6 h1;clear h1;cases Aq
 ·have ho:=Aa.out;rw[qo,yp,qo]at ho;subst ho;go_wp2_with (fail);go_ret;exact⟨rfl,Ad.out⟩
 obtain⟨ht,hg,hM⟩:=HF.out rfl;have hz:=HZ.out ht hg;rw[decide_eq_true ht,zl,zl]at Aa;have A5:z=t-t%s.grain:=by rw[hz,Int.emod_def,Int.mul_comm];omega
 clear hz ht HF HZ;by_cases hm:t%s.grain=0;rotate_left
 ·have e1:(z !=t)=true:=by rw[zj];omega
  have ho:=Aa.out;rw[qG (fun h=>hm h.1),qo,qo]at ho;subst ho;clear A5 hm;go_wp2_with (fail);go_ret;exact⟨rfl,Ad.out⟩
 have e1:(z !=t)=false:=by rw[zg];omega
 clear A5 hg;by_cases hn1:n<1
 ·have ho:=Aa.out;rw[qG (fun h=>by omega),qo,qo]at ho;subst ho;go_wp2_with (fail);go_ret;exact⟨rfl,Ad.out⟩
 by_cases hn2:1000000<n
 ·have ho:=Aa.out;rw[qG (fun h=>by omega),qo,qo]at ho;subst ho;go_wp2_with (fail);go_ret;exact⟨rfl,Ad.out⟩
 rw[decide_eq_true ⟨hm,by omega,by omega⟩,zl]at Aa;have HN:=Hd (show 1<=n/\n<=1000000 by omega);by_cases Ai:sl.length=nl.length;rotate_left
 ·have e2:((sl.length:Int) !=(s.mets.length:Int))=true:=by rw[zj];omega
  have ho:=Aa.out;rw[qG (fun h=>Ai h.1),qo]at ho;subst ho;go_wp2_with (fail);go_ret;exact⟨rfl,Ad.out⟩
 have e2:((sl.length:Int) !=(s.mets.length:Int))=false:=by rw[zg];omega
 by_cases Am:xl.length=nl.length;rotate_left
 ·have e3:((xl.length:Int) !=(s.mets.length:Int))=true:=by rw[zj];omega
  have ho:=Aa.out;rw[qG (fun h=>Am h.2),qo]at ho;subst ho;clear Ai;go_wp2_with (fail);go_ret;exact⟨rfl,Ad.out⟩
 have e3:((xl.length:Int) !=(s.mets.length:Int))=false:=by rw[zg];omega
 rw[decide_eq_true ⟨Ai,Am⟩,zl]at Aa;have HL:=Hd (And.intro Ai Am);have A0:s.mets.length=sl.length:=by omega
 have Bp:sl.length<=9223372036854775807:=by obtain⟨_,_,_,h,_⟩:=A3.out;unfold maxLen at h;omega
 rw[A0]at e2 e3;rw[A0];clear Ai Am hm hM;go_wp2_with (fail);clear x0 x1 x2 x3 x4 x5 e1 e2 e3 hn1 hn2;go_loopw [9] (fun i wr=>∃k:Nat,k<=sl.length/\i = .int .i64 k/\RCel.sO2 ⟨t,ds,n,sl,nl,xl⟩ k=true/\Below w2.heap.size w2 wr) (fun i _=>sl.length-(intOf i).toNat)
 case atStart=>exact⟨0,qN _,rfl,rfl,qJ _ _⟩
 case round=>
  obtain⟨k,hk,rfl,A7,hB⟩:=hrel;have A8:=Hd A7;clear A7;by_cases hlt:k<sl.length
  ·have Ba:(k:Int)<(sl.length:Int):=by omega
   have hl:=HL.out;have Ap:=Bt Ad.out hB;have At:k<nl.length:=by omega
   have As:k<xl.length:=by omega
   obtain⟨b3,o3,rfl,Bm,e0,e1⟩:=(A3.out.ag (Ag.new p Ap)).num2 hlt;obtain⟨b4,o4,rfl,Bo,e2⟩:=(A9.out.ag (Ag.new p Ap)).num1 At;obtain⟨b5,o5,rfl,Bl,e3⟩:=(Bf.out.ag (Ag.new p Ap)).num1 As;have Bd:=Hd (ra56 sl[k] n nl[k] xl[k] HN.out (Be.out _ (qP At)) (Bg.out _ (qP As)))
   have Ay:=Hd (show RCel.sA2 ⟨t,ds,n,sl,nl,xl⟩ k=Tess.iSP sl[k] n nl[k] xl[k] by
    unfold RCel.sA2
    simp only[qE,qD hlt,qD At,qD As,yz])
   have h1:=(hB.block _ (qA.1 J1.out).1).trans J1.out;have Bi:(k:Int)<(nl.length:Int):=by omega
   have Br:(k:Int)<(xl.length:Int):=by omega
   generalize Tess.iSP sl[k] n nl[k] xl[k]=r at *;generalize sl[k]=z1 at *;generalize nl[k]=z2 at *;generalize xl[k]=z3 at *;have Bq:w.heap.size+1<wr.heap.size:=(qA.1 h1).1;obtain⟨⟨x0,x1,x2,x3,x4,x5⟩,_⟩:=can6 h1;have Bc:=Hd hB;clear h1 Ap hl hB;go_wp2_with (fail)
   refine Flow.wrf 17 (Flow.sp3 [.inl ?_,.inl ?_,.inl ?_,.inl ?_,.inl ?_,.inl ?_,.inl ?_,.inl ?_,.inl ?_,.inl ?_,.inl ?_,.inl ?_,.inl ?_,.inl ?_,.inl ?_,.inl ?_,.inl ?_]) (by kernel_rfl) (by kernel_rfl) ?_ ?_;rotate_left 17
   ·refine Flow.sm2 ?_
    repeat(first|exact Flow.ln2|refine Flow.li2 ?_)
   all_goals try simp only[qL,qY,qM,qV]
   iterate 17 (refine Flow.tvK rfl (fun K hK=>⟨fun w hw hG=>?_,?_⟩);(have Bn:=Flow.bc4 hw;clear hG hw;unfold Flow.Runs Flow.yields;go_simp;try rfl);go_simp;refine hK _ ?_;clear hK K)
   refine Flow.tn2 fun w5 hw5 hG=>?_;clear hG x0 x1 x2 x3 x4 x5 e0 e1 e2 e3;have Bh:=Hd (Bt Bc.out hw5);clear hw5;go_simp;go_wp2_with (fail);go_at_call 145;refine(Bd.out _).mono ?_;rintro e w6 ⟨rfl,A4⟩;have Az:=Hd (Bt Bh.out A4);clear A4;cases r
   ·have ho:=Aa.out
    have hf:RCel.sO2 ⟨t,ds,n,sl,nl,xl⟩ sl.length=false:=by
     cases h:RCel.sO2 ⟨t,ds,n,sl,nl,xl⟩ sl.length
     ·rfl
     ·have:=RCel.sl6 _ h hlt;rw[Ay.out]at this;cases this
    rw[hf]at ho;subst ho;go_wp2_with (fail);go_ret;exact⟨rfl,Bt Ad.out Az.out⟩
   ·have Ax:RCel.sO2 ⟨t,ds,n,sl,nl,xl⟩ (k+1)=true:=by rw[RCel.ss2,A8.out,Ay.out];rfl
    have Bb:=Hd Ax;clear Ax;go_wp2;go_roundw
    case rel=>exact⟨k+1,by omega,by go_num,Bb.out,Az.out⟩
    case measure=>simp[intOf];omega
  ·have Ba:¬(k:Int)<(sl.length:Int):=by omega
   obtain rfl:k=sl.length:=by omega
   have ho:=Aa.out;rw[A8.out]at ho;subst ho;go_wp2;go_ret;exact⟨rfl,Bt Ad.out hB⟩
end Go.Proofs.Q9
namespace Tess
open Go Kl
theorem cl7(x y:RCel):ckLt x.ck y.ck=(decide (x.t<y.t)||(!decide (y.t<x.t)&&lex vLt (x.l.map Val.c) (y.l.map Val.c))):=rfl
theorem cgD(C:List RCel)(k:Nat)(h:k<C.length):(C.map RCel.ck).getD k (0,[])=C[k].ck:=by rw[qE,qp,qD h];rfl
theorem rBc2{s:Sch}{C:List RCel}{k:Nat}(h:k<C.length)(h2:C[k].ok s=false):rB2 s C=false:=by
 cases e:rB2 s C
 ·rfl
 ·unfold rB2 at e;simp only[qb,qx]at e;have:=e.2.1 _ (qP h);rw[h2]at this;cases this
theorem rBp{s:Sch}{C:List RCel}{k:Nat}(h:k+1<C.length)(h2:ckLt C[k].ck C[k+1].ck=false):rB2 s C=false:=by
 cases e:rB2 s C
 ·rfl
 ·unfold rB2 at e;simp only[qb,qx]at e;have:=e.2.2 k (zV.2 (by omega));rw[cgD C k (by omega),cgD C (k+1) h,h2]at this;cases this
theorem rBa{s:Sch}{C:List RCel}(h1:∀k (h:k<C.length),C[k].ok s=true)(h2:∀k (h:k+1<C.length),ckLt C[k].ck C[k+1].ck=true):rB2 s C=(sO s&&decide (C.length<=1000)):=by
 unfold rB2;rw[show C.all (·.ok s)=true from qx.2 fun x hx=>by obtain⟨k,hk,rfl⟩:=zq hx;exact h1 k hk]
 rw[show((List.range (C.length-1)).all fun k=>ckLt ((C.map RCel.ck).getD k (0,[])) ((C.map RCel.ck).getD (k+1) (0,[])))=true from qx.2 fun k hk=>by
  have hk:=zV.1 hk;rw[cgD C k (by omega),cgD C (k+1) (by omega)]
  exact h2 k (by omega)]
 simp
end Tess
namespace Go.Proofs.Q9
open Go.RowKit Go.Sort
open Tess (RCel ckLt rB2)
theorem rCa2(p:Nat->Prop)(cs ds:List Value)(x y:RCel)(w:World)(hx:RA2 p w cs x)(hy:RA2 p w ds y) :
  Calls Tryz.prog 95 #[.agg cs.toArray,.agg ds.toArray] w fun e w'=>e = .returned (.bool (ckLt x.ck y.ck))/\Below w.heap.size w w':=by
 rw[Tess.cl7];obtain⟨t,l,n,sl,nl,xl⟩:=x;obtain⟨t',l',n',Am,Ak,Al⟩:=y;obtain⟨vd,v3,v4,v5,rfl,hd,_⟩:=hx;obtain⟨Ab,Ad,Ae,Ac,rfl,Aa,_⟩:=hy;simp only at hd Aa⊢;have Ai:=Hd (fun W (hB:Below w.heap.size w W)=>ra60 p p vd Ab l l' W (hd.ag (Ag.new p hB)).w (Aa.ag (Ag.new p hB)).w (by obtain⟨_,_,_,_,h,_⟩:=hd;exact h) (by obtain⟨_,_,_,_,h,_⟩:=Aa;exact h))
 generalize Tess.Kl.lex Tess.vLt (l.map Tess.Val.c) (l'.map Tess.Val.c)=r at *;clear hd Aa;obtain⟨W0,Aj⟩:=XQ ((w.alloc (.cells #[.int .i64 t,vd,.int .i64 n,v3,v4,v5] 56)).alloc (.cells #[.int .i64 t',Ab,.int .i64 n',Ad,Ae,Ac] 56))
 obtain⟨h0,h1,hS,hB⟩:=la3 w (.cells #[.int .i64 t,vd,.int .i64 n,v3,v4,v5] 56) (.cells #[.int .i64 t',Ab,.int .i64 n',Ad,Ae,Ac] 56);rw[Aj]at h0 h1 hS hB;obtain⟨⟨x0,x1,x2,x3,x4,x5⟩,_⟩:=can6 h0;obtain⟨⟨y0,y1,y2,y3,y4,y5⟩,_⟩:=can6 h1;have HB:=Hd hB;clear h0 h1 hS hB;by_cases c1:t<t'
 ·rw[decide_eq_true c1,Bool.true_or];go_enter Tryz.func95,Tryz.ntmps95;go_wp2_with (fail);go_ret;exact⟨rfl,HB.out⟩
 ·rw[qG c1,Bool.false_or];by_cases c2:t=t'
  ·subst c2;rw[qG c1,Bool.not_false,zl];go_enter Tryz.func95,Tryz.ntmps95;go_wp2_with (fail);go_at_call 146;refine(Ai.out _ HB.out).mono ?_;rintro e w1 ⟨rfl,Af⟩;have Ah:=Hd (Bt HB.out Af);clear Af;go_wp2_with (fail);go_ret;exact⟨rfl,Ah.out⟩
  ·have c3:(t==t')=false:=qi.2 c2;rw[decide_eq_true (show t'<t by omega),Bool.not_true,qo];go_enter Tryz.func95,Tryz.ntmps95;go_wp2_with (fail);go_ret;exact⟨rfl,HB.out⟩
theorem ra20(p:Nat->Prop)(vs va:Value)(s:Tess.Sch)(C:List RCel)(w:World)(hs:SA p w vs s)(hv:LA 6 (RA2 p) p w va C)(hrn:∀x∈C,(∀z∈x.mins,I64 z)/\∀z∈x.maxs,I64 z) :
  Calls Tryz.prog 44 #[vs,va] w fun e w'=>e = .returned (.bool (rB2 s C))/\Below w.heap.size w w':=by
 obtain⟨a,c,rfl,Aq,us,Av⟩:=LA.rows hv;have A7:=Hd (fun W (hB:Below w.heap.size w W)=>rRa p vs s W (hs.ag (Ag.new p hB)));have Bb:=Hd (fun k (hk:k<C.length) W (hB:Below w.heap.size w W)=>ra58 p vs (us k) s C[k] W (hs.ag (Ag.new p hB)) ((Av k hk).2.1.ag (Ag.new p hB)) (hrn _ (qP hk)).1 (hrn _ (qP hk)).2)
 have Bf:=Hd (fun k (hk:k+1<C.length) W (hB:Below w.heap.size w W)=>rCa2 p (us k) (us (k+1)) C[k] C[k+1] W ((Av k (by omega)).2.1.ag (Ag.new p hB)) ((Av (k+1) hk).2.1.ag (Ag.new p hB)));obtain⟨vd,vm,rfl,hd,A0,_,_⟩:=hs;obtain⟨ad,Au,rfl,_⟩:=sl3 hd;obtain⟨am,Ar,rfl,_⟩:=sl3 A0;have A4:=Hd Av;have Aq:C.length<=9223372036854775807:=by unfold maxLen at Aq;omega
 clear hd A0 hv Av hrn;obtain⟨W0,Bd⟩:=XQ (w.alloc (.cells #[.slice ad s.dims.length Au,.slice am s.mets.length Ar,.int .i64 s.grain] 24))
 obtain⟨k0,kS,kB⟩:=la2 w (.cells #[.slice ad s.dims.length Au,.slice am s.mets.length Ar,.int .i64 s.grain] 24);rw[Bd]at k0 kS kB;have HK:=Hd k0;have HB:=Hd kB;clear k0 kS kB;go_enter Tryz.func44,Tryz.ntmps44;go_wp2_with (fail)
 go_loopw [5] (fun i wr=>∃k:Nat,k<=C.length/\i = .int .i64 k/\(∀j (h:j<C.length),j<k->C[j].ok s=true)/\(∀j (h:j+1<C.length),j+1<k->ckLt C[j].ck C[j+1].ck=true)/\Below W0.heap.size W0 wr) (fun i _=>C.length-(intOf i).toNat)
 case atStart=>exact⟨0,qN _,rfl,fun _ _ h=>absurd h (zH _),fun _ _ h=>absurd h (zH _),qJ _ _⟩
 case round=>
  obtain⟨k,hk,rfl,A2,Ap,Aw⟩:=hrel;have Ao:=Hd A2;have Am:=Hd Ap;have k1:=(Aw.block _ (qA.1 HK.out).1).trans HK.out;have Bk:=Hd k1;have Ac:=Hd (Bt HB.out Aw);have A1:=Hd Aw;obtain⟨⟨x0,x1,x2⟩,_⟩:=can3 k1;have Bh:=(qA.1 k1).1;clear k1 A2 Ap Aw;by_cases hlt:k<C.length
  ·have Ba:(k:Int)<(C.length:Int):=by omega
   have Bj:IntKind.i64.wrap (k:Int)=(k:Int):=by rw[zU];omega
   have A9:0<=(k:Int):=by omega
   obtain⟨e6,_,b,Ad,rfl,hb,_,Ab⟩:=A4.out k hlt;obtain⟨y0,y1,y2,y3,y4,y5,ey⟩:=six e6;have Ak:=Hd (Bb.out k hlt);rw[ey]at Ab Ak;have g0:=(Ac.out.cell (p:=⟨b,Ad+k*6+0,none⟩) hb).trans (Ab 0 (by omega));have g1:=(Ac.out.cell (p:=⟨b,Ad+k*6+1,none⟩) hb).trans (Ab 1 (by omega));have g2:=(Ac.out.cell (p:=⟨b,Ad+k*6+2,none⟩) hb).trans (Ab 2 (by omega))
   have g3:=(Ac.out.cell (p:=⟨b,Ad+k*6+3,none⟩) hb).trans (Ab 3 (by omega));have g4:=(Ac.out.cell (p:=⟨b,Ad+k*6+4,none⟩) hb).trans (Ab 4 (by omega));have g5:=(Ac.out.cell (p:=⟨b,Ad+k*6+5,none⟩) hb).trans (Ab 5 (by omega));simp only[jU,jV,yD]at g0 g1 g2 g3 g4 g5;have Bi:=qF hb Ac.out.size;clear Ab;cases hck:C[k].ok s
   ·have HF:=Hd (Tess.rBc2 hlt hck);rw[hck]at Ak;go_wp2_with (fail);refine Flow.wrf 23 (Flow.sp3 [.inl ?_,.inl ?_,.inl ?_,.inl ?_,.inl ?_,.inl ?_,.inl ?_,.inl ?_,.inl ?_,.inl ?_,.inl ?_,.inl ?_,.inl ?_,.inl ?_,.inl ?_,.inl ?_,.inl ?_,.inl ?_,.inl ?_,.inl ?_,.inl ?_,.inl ?_,.inl ?_]) (by kernel_rfl) (by kernel_rfl) ?_ ?_;rotate_left 23
    ·refine Flow.sm2 ?_
     repeat(first|exact Flow.ln2|refine Flow.li2 ?_)
    all_goals try simp only[qL,qY,qM,qV]
    iterate 5 (refine Flow.tvK rfl (fun K hK=>⟨fun w hw hG=>?_,?_⟩);(have Af:=Flow.bc4 hw;clear hG hw;unfold Flow.Runs Flow.yields;go_simp;try rfl);go_simp;refine hK _ ?_;clear hK K)
    (refine Flow.tvK rfl (fun K hK=>⟨fun w hw hG=>?_,?_⟩);(have Ai:=Bt Ac.out hw;clear hG hw;unfold Flow.Runs Flow.yields;go_simp;refine(Ak.out _ Ai).mono ?_;rintro e w5 ⟨rfl,Ae⟩;first|exact⟨_,rfl,Ae,rfl⟩|(refine⟨?_,Ae⟩;rfl));go_simp;refine hK _ ?_;clear hK K)
    iterate 17 (refine Flow.tvK rfl (fun K hK=>⟨fun w hw hG=>?_,?_⟩);(have Af:=Flow.bc4 hw;clear hG hw;unfold Flow.Runs Flow.yields;go_simp;try rfl);go_simp;refine hK _ ?_;clear hK K)
    refine Flow.tn2 fun w5 hw5 hG=>?_;clear hG x0 x1 x2 g0 g1 g2 g3 g4 g5;have Al:=Hd (Bt Ac.out hw5);clear hw5;go_simp;go_wp2_with (fail);go_ret;exact⟨by rw[HF.out];rfl,Al.out⟩
   ·rw[hck]at Ak
    have An:=Hd (show ∀j (h:j<C.length),j<k+1->C[j].ok s=true from fun j h hj=>by
     rcases Nat.lt_succ_iff_lt_or_eq.1 hj with hj|rfl
     ·exact Ao.out j h hj
     ·exact hck)
    clear hck;by_cases hk0:k=0
    ·have Aj:=Hd (show ∀j (h:j+1<C.length),j+1<k+1->ckLt C[j].ck C[j+1].ck=true from fun j h hj=>by omega);have As:¬(0:Int)<(k:Int):=by omega
     have Ax:¬0<k:=by omega
     have Ay:decide ((0:Int)<(k:Int))=false:=qG As;clear hk0;go_wp2_with (fail);refine Flow.wrf 23 (Flow.sp3 [.inl ?_,.inl ?_,.inl ?_,.inl ?_,.inl ?_,.inl ?_,.inl ?_,.inl ?_,.inl ?_,.inl ?_,.inl ?_,.inl ?_,.inl ?_,.inl ?_,.inl ?_,.inl ?_,.inl ?_,.inl ?_,.inl ?_,.inl ?_,.inl ?_,.inl ?_,.inl ?_]) (by kernel_rfl) (by kernel_rfl) ?_ ?_;rotate_left 23
     ·refine Flow.sm2 ?_
      repeat(first|exact Flow.ln2|refine Flow.li2 ?_)
     all_goals try simp only[qL,qY,qM,qV]
     iterate 5 (refine Flow.tvK rfl (fun K hK=>⟨fun w hw hG=>?_,?_⟩);(have Af:=Flow.bc4 hw;clear hG hw;unfold Flow.Runs Flow.yields;go_simp;try rfl);go_simp;refine hK _ ?_;clear hK K)
     (refine Flow.tvK rfl (fun K hK=>⟨fun w hw hG=>?_,?_⟩);(have Ai:=Bt Ac.out hw;clear hG hw;unfold Flow.Runs Flow.yields;go_simp;refine(Ak.out _ Ai).mono ?_;rintro e w5 ⟨rfl,Ae⟩;first|exact⟨_,rfl,Ae,rfl⟩|(refine⟨?_,Ae⟩;rfl));go_simp;refine hK _ ?_;clear hK K)
     iterate 17 (refine Flow.tvK rfl (fun K hK=>⟨fun w hw hG=>?_,?_⟩);(have Af:=Flow.bc4 hw;clear hG hw;unfold Flow.Runs Flow.yields;go_simp;try rfl);go_simp;refine hK _ ?_;clear hK K)
     refine Flow.tn2 fun w5 hw5 hG=>?_;clear hG x0 x1 x2 g0 g1 g2 g3 g4 g5 As Ay Ax;have Al:=Hd (Bt A1.out hw5);clear hw5;go_simp;go_wp2_with (fail);go_roundw
     case rel=>exact⟨k+1,by omega,by go_num,An.out,Aj.out,Al.out⟩
     case measure=>simp[intOf];omega
    ·obtain⟨m,hm⟩:∃m,k=m+1:=⟨k-1,by omega⟩
     have Bg:m<C.length:=by omega
     obtain⟨r,hr⟩:=XQ (ckLt C[m].ck C[k].ck)
     have A3:=Hd (show ∀W,Below w.heap.size w W->Calls Tryz.prog 95 #[.agg (us m).toArray,.agg (us k).toArray] W fun e w'=>e = .returned (.bool r)/\Below W.heap.size W w' from by rw[<-hr];subst hm;exact Bf.out m hlt)
     have Bc:=Hd (show r=false->rB2 s C=false from fun h=>by subst hm;exact Tess.rBp hlt (hr.trans h))
     have Aj:=Hd (show r=true->∀j (h:j+1<C.length),j+1<k+1->ckLt C[j].ck C[j+1].ck=true from fun h j h' hj=>by
      by_cases e:j+1<k
      ·exact Am.out j h' e
      ·obtain rfl:j=m:=by omega
       subst hm;exact hr.trans h)
     obtain⟨f6,_,b',A8,e,Be,_,Aa⟩:=A4.out m Bg;simp only[xf,Addr.mk.injEq,and_true]at e;obtain⟨rfl,rfl⟩:=e;obtain⟨q0,q1,q2,q3,q4,q5,eq⟩:=six f6;rw[ey,eq]at A3;rw[eq]at Aa;have p0:=(Ac.out.cell (p:=⟨b,Ad+m*6+0,none⟩) hb).trans (Aa 0 (by omega));have p1:=(Ac.out.cell (p:=⟨b,Ad+m*6+1,none⟩) hb).trans (Aa 1 (by omega));have p2:=(Ac.out.cell (p:=⟨b,Ad+m*6+2,none⟩) hb).trans (Aa 2 (by omega))
     have p3:=(Ac.out.cell (p:=⟨b,Ad+m*6+3,none⟩) hb).trans (Aa 3 (by omega));have p4:=(Ac.out.cell (p:=⟨b,Ad+m*6+4,none⟩) hb).trans (Aa 4 (by omega));have p5:=(Ac.out.cell (p:=⟨b,Ad+m*6+5,none⟩) hb).trans (Aa 5 (by omega));simp only[jU,jV,yD]at p0 p1 p2 p3 p4 p5;have As:(0:Int)<(k:Int):=by omega
     have Ax:0<k:=by omega
     have Ay:decide ((0:Int)<(k:Int))=true:=decide_eq_true As;have n1:IntKind.i64.wrap ((k:Int)-1)=(m:Int):=by rw[zU];omega
     have n2:wrap64 ((k:Int)-1)=(m:Int):=by unfold wrap64;omega
     have n3:IntKind.i64.wrap (m:Int)=(m:Int):=by rw[zU];omega
     have n4:0<=(m:Int):=by omega
     have n5:(m:Int)<(C.length:Int):=by omega
     clear hk0 hm hr Aa Be eq ey;go_wp2_with (fail);refine Flow.wrf 23 (Flow.sp3 [.inl ?_,.inl ?_,.inl ?_,.inl ?_,.inl ?_,.inl ?_,.inl ?_,.inl ?_,.inl ?_,.inl ?_,.inl ?_,.inl ?_,.inl ?_,.inl ?_,.inl ?_,.inl ?_,.inl ?_,.inl ?_,.inl ?_,.inl ?_,.inl ?_,.inl ?_,.inl ?_]) (by kernel_rfl) (by kernel_rfl) ?_ ?_;rotate_left 23
     ·refine Flow.sm2 ?_
      repeat(first|exact Flow.ln2|refine Flow.li2 ?_)
     all_goals try simp only[qL,qY,qM,qV]
     iterate 5 (refine Flow.tvK rfl (fun K hK=>⟨fun w hw hG=>?_,?_⟩);(have Af:=Flow.bc4 hw;clear hG hw;unfold Flow.Runs Flow.yields;go_simp;try rfl);go_simp;refine hK _ ?_;clear hK K)
     (refine Flow.tvK rfl (fun K hK=>⟨fun w hw hG=>?_,?_⟩);(have Ai:=Bt Ac.out hw;clear hG hw;unfold Flow.Runs Flow.yields;go_simp;refine(Ak.out _ Ai).mono ?_;rintro e w5 ⟨rfl,Ae⟩;first|exact⟨_,rfl,Ae,rfl⟩|(refine⟨?_,Ae⟩;rfl));go_simp;refine hK _ ?_;clear hK K)
     iterate 14 (refine Flow.tvK rfl (fun K hK=>⟨fun w hw hG=>?_,?_⟩);(have Af:=Flow.bc4 hw;clear hG hw;unfold Flow.Runs Flow.yields;go_simp;try rfl);go_simp;refine hK _ ?_;clear hK K)
     (refine Flow.tvK rfl (fun K hK=>⟨fun w hw hG=>?_,?_⟩);(have Ai:=Bt Ac.out hw;clear hG hw;unfold Flow.Runs Flow.yields;go_simp;refine(A3.out _ Ai).mono ?_;rintro e w5 ⟨rfl,Ae⟩;first|exact⟨_,rfl,Ae,rfl⟩|(refine⟨?_,Ae⟩;rfl));go_simp;refine hK _ ?_;clear hK K)
     iterate 2 (refine Flow.tvK rfl (fun K hK=>⟨fun w hw hG=>?_,?_⟩);(have Af:=Flow.bc4 hw;clear hG hw;unfold Flow.Runs Flow.yields;go_simp;try rfl);go_simp;refine hK _ ?_;clear hK K)
     refine Flow.tn2 fun w5 hw5 hG=>?_;clear hG x0 x1 x2 g0 g1 g2 g3 g4 g5 p0 p1 p2 p3 p4 p5 As Ay Ax n1 n2 n3 n4 n5;have Al:=Hd (Bt A1.out hw5);clear hw5;cases r
     ·go_simp;go_wp2_with (fail);go_ret;exact⟨by rw[Bc.out trivial];rfl,Bt HB.out Al.out⟩
     ·go_simp;go_wp2_with (fail);go_roundw
      case rel=>exact⟨k+1,by omega,by go_num,An.out,Aj.out rfl,Al.out⟩
      case measure=>simp[intOf];omega
  ·have Ba:¬(k:Int)<(C.length:Int):=by omega
   have HF:=Hd (Tess.rBa (s:=s) (C:=C) (fun j h=>Ao.out j h (by omega)) (fun j h=>Am.out j h (by omega)));have A5:decide ((C.length:Int)<=1000)=decide (C.length<=1000):=yi.2 (by omega);have Az:=Hd (A7.out wr Ac.out);generalize Tess.sO s=ok at *;cases ok
   ·rw[qo]at HF;go_wp2_with (fail);go_at_call 50;refine Az.out.mono ?_;rintro e w3 ⟨rfl,Ah⟩;have At:=Hd (Bt Ac.out Ah);clear Ah;go_wp2_with (fail);go_ret;exact⟨by rw[HF.out];rfl,At.out⟩
   ·rw[zl]at HF;by_cases Af:C.length<=1000
    ·have A6:(C.length:Int)<=1000:=by omega
     rw[decide_eq_true Af]at HF;clear A5;go_wp2_with (fail);go_at_call 50;refine Az.out.mono ?_;rintro e w3 ⟨rfl,Ah⟩;have At:=Hd (Bt Ac.out Ah);clear Ah;go_wp2_with (fail);go_ret;exact⟨rb2 (by rw[HF.out];try simp_all),At.out⟩
    ·have A6:¬(C.length:Int)<=1000:=by omega
     rw[qG Af]at HF;clear A5;go_wp2_with (fail);go_at_call 50;refine Az.out.mono ?_;rintro e w3 ⟨rfl,Ah⟩;have At:=Hd (Bt Ac.out Ah);clear Ah;go_wp2_with (fail);go_ret;exact⟨rb2 (by rw[HF.out];try simp_all),At.out⟩
end Go.Proofs.Q9
namespace Go.Proofs.Q9
open Go.RowKit Go.Sort
open Tess (CK Pay CO RCel rB2)
theorem ra14(p:Nat->Prop)(vs va:Value)(s:Tess.Sch)(C:List RCel)(w:World)(hs:SA p w vs s)(hv:LA 6 (RA2 p) p w va C)(hrn:Tess.RRng C) :
  Calls Tryz.prog 19 #[vs,va] w fun e w'=>e = .returned (.tuple #[.string (Tess.encR s C).1,.int .i64 ((Tess.encR s C).2:Nat)])/\Below w.heap.size w w':=by
 have HR:∀W,Below w.heap.size w W->Calls Tryz.prog 44 #[vs,va] W fun e w'=>e = .returned (.bool (rB2 s C))/\Below W.heap.size W w':=fun W hB=>ra20 p vs va s C W (hs.ag (Ag.new p hB)) (RC2.ag hv (Ag.new p hB)) hrn;by_cases hgood:Tess.sO s=true/\rB2 s C=true
 ·obtain⟨Aa,hr⟩:=hgood;rw[hr]at HR;obtain⟨Ah,Af⟩:=Tess.rBc hr hrn;rw[show Tess.encR s C=Tess.jP ((Tess.pS2 s (C.map RCel.cel)).map Tess.mk) by unfold Tess.encR;rw[qH (by rw[Aa];decide),qH (by rw[hr];decide)]];exact ro7 p vs va s (C.map RCel.cel) w hs (LA.maps RCel.cel hv fun cs x hx h=>h.cel (Af x hx)) Ah HR
 ·have HH:=Hd (fun W (hB:Below w.heap.size w W)=>ra10 p vs s W (hs.ag (Ag.new p hB)));have Ai:=Hd HR;obtain⟨vd,vm,rfl,hd,hm,_,_⟩:=hs;obtain⟨ad,Ac,rfl,_⟩:=sl3 hd;obtain⟨am,Ad,rfl,_⟩:=sl3 hm;obtain⟨a,c,rfl,Al,_,_⟩:=LA.open hv;obtain⟨W0,Aj⟩:=XQ (w.alloc (.cells #[.slice ad s.dims.length Ac,.slice am s.mets.length Ad,.int .i64 s.grain] 24))
  obtain⟨k0,kS,kB⟩:=la2 w (.cells #[.slice ad s.dims.length Ac,.slice am s.mets.length Ad,.int .i64 s.grain] 24);rw[Aj]at k0 kS kB;obtain⟨⟨x0,x1,x2⟩,_⟩:=can3 k0;have HK:=Hd k0;have HB:=Hd kB;clear k0 kS kB hd hm hv HR;by_cases Aa:Tess.sO s=true
  ·have hr:rB2 s C=false:=by
    cases h:rB2 s C
    ·rfl
    ·exact absurd ⟨Aa,h⟩ hgood
   rw[show Tess.encR s C=(Tess.mk [],120) by unfold Tess.encR;rw[qH (by rw[Aa];decide),qR hr]];rw[hr]at Ai;simp only[Aa,jH]at HH;clear hgood hr Aa;go_enter Tryz.func19,Tryz.ntmps19;go_wp2_with (fail);go_at_call 21;refine(HH.out _ HB.out).mono ?_;rintro e w1 ⟨rfl,Ab⟩;have k1:=(Ab.block _ (qA.1 HK.out).1).trans HK.out;have Ae:=Hd (Bt HB.out Ab);clear Ab x0 x1 x2 Aj;obtain⟨⟨x0,x1,x2⟩,_⟩:=can3 k1
   go_wp2_with (fail);go_at_call 44;refine(Ai.out _ Ae.out).mono ?_;rintro e w2 ⟨rfl,Ak⟩;have Am:=Hd (Bt Ae.out Ak);clear Ak;go_wp2_with (fail);go_ret2;exact⟨rfl,Am.out⟩
  ·have Aa:Tess.sO s=false:=by simpa using Aa
   rw[show Tess.encR s C=(Tess.mk [],100) by unfold Tess.encR;rw[qR Aa]];rw[Aa]at HH;clear hgood Aa;go_enter Tryz.func19,Tryz.ntmps19;go_wp2_with (fail);go_at_call 21;refine(HH.out _ HB.out).mono ?_;rintro e w1 ⟨rfl,Ab⟩;have Ae:=Hd (Bt HB.out Ab);clear Ab;go_wp2_with (fail);go_ret2;exact⟨rfl,Ae.out⟩
end Go.Proofs.Q9
namespace Go.Proofs.Q9
open Go.RowKit Go.Sort
open Tess (CK Pay RCel toR CR)
theorem Cel.cels{g n:Nat}{E:Nat->CK×Pay}{V:Nat×Nat->Value}{W:World}(h:Cel g n E V W)(C:List (CK×Pay))(hn:C.length=n)(hE:∀k (h:k<C.length),E k=C[k])(hok:∀x∈C,CR x)(hl:C.length<=1000):CA2 (fun y=>g<=y) W (.slice (some ⟨g,0,none⟩) n n) C:=by
 obtain⟨A,hA,hc⟩:=h.arr;refine⟨_,n,by rw[hn],by unfold maxLen;omega,by omega,(fun e=>by cases e),fun _=>⟨g,0,rfl,h.lt,qC _,fun j hj=>?_⟩⟩;have Ad:j<n:=by omega
 have Aa:∀{α:Type} (fd:Nat) (k:Nat) (f:α->List Value) (l:List α),fd<4->celS fd=k->celL E (j,fd)=l.map f->(∀x,(f x).length=k)->l.length<=1000->RA k f (fun y=>g<=y) W (V (j,fd)) l:=fun {α} fd k f l hfd hk he hf hlen=>by have ho:=h.fam.own (j,fd) ⟨Ad,hfd⟩;have Ab:=h.fam.nil (j,fd) ⟨Ad,hfd⟩;rw[he]at ho Ab;have Ae:celS (j,fd).2=k:=hk;rw[Ae,qX,<-qBr]at ho;exact(ro2 (fun x _=>hf x) ho (by unfold maxLen;omega) (fun e=>Ab (by rw[e];rfl))).weak fun y hy=>by omega
 obtain⟨⟨Af,⟨l1,l2,l3,l4⟩,_,_⟩⟩:CR C[j]/\True:=⟨hok _ (qP hj),trivial⟩
 have Ac:=hE j hj;refine⟨celC E V j,rfl,⟨V (j,0),V (j,1),V (j,2),V (j,3),by unfold celC;rw[Ac],?_,⟨?_,?_,?_⟩⟩,fun i hi=>?_⟩
 ·refine vor (Aa 0 2 valC (C[j].1.2.map Tess.valOf) (by omega) rfl (by unfold celL;rw[Ac];rfl) (fun _=>rfl) (by simpa using l1)) fun x hx=>?_;obtain⟨d,hd,rfl⟩:=qd.1 hx;cases d with
  |none=>unfold maxLen;exact qN _
  |some s=>have:=Af (some s) hd s rfl;show s.size<=maxLen;unfold maxLen;omega
 ·exact Aa 1 2 wF C[j].2.sums (by omega) rfl (by unfold celL;rw[Ac];rfl) (fun _=>rfl) l2
 ·exact Aa 2 1 intF C[j].2.mins (by omega) rfl (by unfold celL;rw[Ac];rfl) (fun _=>rfl) l3
 ·exact Aa 3 1 intF C[j].2.maxs (by omega) rfl (by unfold celL;rw[Ac];rfl) (fun _=>rfl) l4
 ·rw[qj,qT _ _ _ _ _ _ hA];exact hc j Ad i hi
theorem ra15(p:Nat->Prop)(vs:Value)(s:Tess.Sch)(b:ByteArray)(w:World)(hsch:SA p w vs s)(hb:b.size<=1000000) :
  Calls Tryz.prog 20 #[vs,.string b] w (SP2 s b w):=by
 have A8:=Hd (fun(W:World) (hB:Below w.heap.size w W)=>rRa p vs s W (hsch.ag (Ag.new p hB)));have Ar:=Hd (fun(W:World) (hB:Below w.heap.size w W)=>hsch.ag (Ag.new p hB));obtain⟨vd,vm,rfl,hd,hm,_⟩:=hsch;obtain⟨ad,An,rfl,Bd⟩:=sl3 hd;obtain⟨am,Ai,rfl,Bg⟩:=sl3 hm;obtain⟨D,hD⟩:=Xq s.dims.length
 obtain⟨M,hM⟩:=Xq s.mets.length
 obtain⟨gr,A3⟩:=Xq s.grain
 rw[<-hD,<-hM,<-A3]at A8 Ar⊢;have Ad:=Hd (And.intro hD hM);clear hd hm hD hM A3 Bd Bg;obtain⟨W1,Bi⟩:=XQ (w.alloc (.cells #[.slice ad D An,.slice am M Ai,.int .i64 gr] 24))
 obtain⟨k0,kS,kB⟩:=la2 w (.cells #[.slice ad D An,.slice am M Ai,.int .i64 gr] 24);rw[Bi]at k0 kS kB;have Ab:=Hd kB;have HX:=Hd (fun V (hV:Below W1.heap.size W1 V)=>(can3 ((hV.block _ (qA.1 k0).1).trans k0)).1);obtain⟨⟨c0,c1,c2⟩,_⟩:=can3 k0;clear k0 kS kB;go_enter Tryz.func20,Tryz.ntmps20;go_wp2_with (fail);go_at_call 50;refine(A8.out W1 Ab.out).mono ?_;rintro e W2 ⟨rfl,A7⟩;have A9:=Hd A7;clear A7
 by_cases hok:Tess.sO s=true;rotate_left
 ·have hf:Tess.sO s=false:=by simpa using hok
  go_wp2_with (fail);go_ret2;have e:Tess.decP s b=([],100):=by unfold Tess.decP;rw[qR hok]
  unfold SP2;rw[e];exact⟨_,rfl,Bt Ab.out A9.out,cn2 _ _⟩
 rcases Ad.out with⟨A0,A6⟩
 obtain⟨d1,d2,_⟩:=Tess.sf2 hok;rw[<-A0]at d1;rw[<-A6]at d2;have Ah:=Hd (ra45 b W2 hb);unfold SP3 at Ah;obtain⟨Aq,Aw⟩:=Tess.sFs b.size [] b;obtain⟨⟨fs,Ac⟩,hF⟩:∃x,x=Tess.sF b.size [] b:=⟨_,rfl⟩
 rw[<-hF]at Ah Aq Aw;have HF:=Hd hF;dsimp only at Ah Aq Aw;have Ba:=Hd Aq;have Ay:=Hd (And.intro d1 d2);clear hF Aq Aw A0 A6 d1 d2;go_wp2_with (fail);go_at_call 12;refine Ah.out.mono ?_;rintro e W3 ⟨v3,rfl,As,A1⟩;obtain⟨a3,c3,rfl,_⟩:=so3 _ As;have Bh:=Hd As;have Al:=Hd (Bt A9.out A1);clear As A1 Ah;by_cases hcode:Ac=0;rotate_left
 ·have Az:¬(Ac:Int)=0:=by omega
  have Bj:((Ac:Int)==0)=false:=by rw[qi];exact Az
  have Bl:((Ac:Int) !=0)=true:=by rw[zj];exact Az
  go_wp2_with (fail);go_ret2;have e:Tess.decP s b=([],Ac):=by unfold Tess.decP;rw[qH (by simp[hok]),<-HF.out,qR hcode]
  unfold SP2;rw[e];exact⟨_,rfl,Bt Ab.out Al.out,cn2 _ _⟩
 subst hcode
 have Aj:=ra41 p _ (.slice a3 fs.length c3) s fs W3 (Ar.out _ (Bt Ab.out Al.out)) Bh.out (fun x hx=>by
  rcases Ba.out x hx with h|h
  ·cases h
  ·omega) (by rw[<-Ad.out.1];have:=Ay.out.1;omega) (by rw[<-Ad.out.2];have:=Ay.out.2;omega)
 rw[<-Ad.out.1,<-Ad.out.2]at Aj;unfold RP2 at Aj;obtain⟨R,hR⟩:=Xq (Tess.rS2 D M fs)
 rw[<-hR]at Aj;have Bf:=Hd Aj;have Au:=Hd hR;clear Aj hR;obtain⟨c0,c1,c2⟩:=HX.out _ Al.out;go_wp2_with (fail);go_at_call 51;refine Bf.out.mono ?_;rintro e W4 ⟨⟨v4,rfl,Ax,At⟩,A5⟩;have Am:=Hd (Bt Al.out A5);clear A5 c0 c1 c2;obtain⟨c0,c1,c2⟩:=HX.out _ Am.out;cases R with
 |none=>
   obtain rfl:=Ax rfl;clear Ax At;have HE:=Hd (ra14 p _ (.slice none 0 0) s [] W4 (Ar.out _ (Bt Ab.out Am.out)) (LA.nil _ _ _ _) (fun _ h=>by cases h));obtain⟨⟨A,K⟩,hA⟩:∃x,x=Tess.encR s []:=⟨_,rfl⟩
   rw[<-hA]at HE;dsimp only at HE;clear hA;go_wp2_with (fail);go_at_call 19;refine HE.out.mono ?_;rintro e W5 ⟨rfl,Af⟩;have Ap:=Hd (Bt Am.out Af);clear Af;go_wp2_with (fail);go_ret2;unfold SP2;rw[Tess.dPn hok HF.out (by rw[<-Ad.out.1,<-Ad.out.2];exact Au.out.symm)];exact⟨_,rfl,Bt Ab.out Ap.out,cn2 _ _⟩
 |some C=>
   obtain⟨g,E,V,rfl,Ak,A4,A2⟩:=At C rfl;have Ao:=Tess.rSr (by have:=Ay.out;omega) Au.out.symm
   have Ae:Tess.RRng (C.map toR):=fun x hx=>by obtain⟨y,hy,rfl⟩:=qd.1 hx;exact⟨(Ao.2 y hy).mins,(Ao.2 y hy).maxs⟩
   have Aa:=Hd (Tess.dPs hok HF.out (by rw[<-Ad.out.1,<-Ad.out.2];exact Au.out.symm));have Av:=Cel.cels Ak C rfl A2 Ao.2 Ao.1;have Bc:=Hd (Av.weak fun y hy=>(show w.heap.size<=y from qt (Bt Ab.out Al.out).size (qt A4 hy)))
   have hE:=ra14 (fun y=>p y∨g<=y) _ _ s (C.map toR) W4 ((Ar.out _ (Bt Ab.out Am.out)).weak fun y hy=>.inl hy) ((ctR Av).weak (fun y hy=>.inr hy) fun _ _ _ h=>rn2.weak h fun y hy=>.inr hy) Ae;rw[Tess.eRt Ae]at hE;have HE:=Hd hE;obtain⟨⟨A,K⟩,hA⟩:∃x,x=Tess.encP s C:=⟨_,rfl⟩
   rw[<-hA]at HE Aa;dsimp only at HE Aa;clear hA hE Av Ae Ao Ak A4 A2 Ax At;go_wp2_with (fail);go_at_call 19;refine HE.out.mono ?_;rintro e W5 ⟨rfl,Af⟩;have Ap:=Hd (Bt Am.out Af);have Bb:=Hd (Bc.out.ag (Ag.new _ Af));clear Af;by_cases hK:K=0
   ·subst hK;by_cases hA:A=b
    ·subst hA;have Be:(A.toList==A.toList)=true:=by simp
     go_wp2_with (fail);go_ret2;unfold SP2;rw[show Tess.decP s A=(C,0) by rw[Aa.out];simp];exact⟨_,rfl,Bt Ab.out Ap.out,Bb.out⟩
    ·have Be:(A.toList==b.toList)=false:=by rw[qi];intro h;exact hA (Tess.toList_inj h)
     go_wp2_with (fail);go_ret2;unfold SP2;rw[Aa.out,qH (fun h=>hA (Prod.mk.inj h).1)];exact⟨_,rfl,Bt Ab.out Ap.out,cn2 _ _⟩
   ·have Bm:((K:Int) !=0)=true:=by rw[zj];omega
    have Bk:¬(K:Int)=0:=by omega
    go_wp2_with (fail);go_ret2;unfold SP2;rw[Aa.out,qH (fun h=>hK (Prod.mk.inj h).2)];exact⟨_,rfl,Bt Ab.out Ap.out,cn2 _ _⟩
end Go.Proofs.Q9
namespace Go.Proofs.Q9
open Go.RowKit Go.Sort
open Tess (CK Pay CO RCel)
theorem cCr{C:List RCel}(h:Tess.RRng C):Tess.RRng ((C.take 50).map cC2):=fun x hx=>by obtain⟨y,hy,rfl⟩:=qd.1 hx;have:=h y (jp hy);exact⟨fun z hz=>this.1 z (jp hz),fun z hz=>this.2 z (jp hz)⟩
theorem nlC{α:Type}{k:Nat}{R:(Nat->Prop)->World->List Value->α->Prop}(N:Nest k R){p:Nat->Prop}{w:World}{v:Value}{l:List α}(h:LA k (R p) p w v l):LA k (R fun b=>p b/\b<w.heap.size) (fun b=>p b/\b<w.heap.size) w v l:=by obtain⟨a,c,hv,h1,h2,h3,h4⟩:=h;refine⟨a,c,hv,h1,h2,h3,fun hl=>?_⟩;obtain⟨b,Aa,ha,hb,hp,hc⟩:=h4 hl;exact⟨b,Aa,ha,hb,⟨hp,hb⟩,fun j hj=>let⟨cs,h5,h6,h7⟩:=hc j hj;⟨cs,h5,N.lt h6,h7⟩⟩
def cutC(b:ByteArray):ByteArray:=b.extract 0 (min (b.size:Int) 6000).toNat
theorem cCs2(b:ByteArray):(cutC b).size<=6000:=by unfold cutC;simp;omega
theorem cCa2(b:ByteArray)(w:World):Calls Tryz.prog 16 #[.string b] w fun e w'=>e = .returned (.string (cutC b))/\Below w.heap.size w w':=by go_enter Tryz.func16,Tryz.ntmps16;go_wp2;go_ret;exact⟨rfl,qJ _ _⟩
theorem hCa(p:Nat->Prop)(v:Value)(s:Tess.Sch)(w:World)(hv:SA p w v s) :
  Calls Tryz.prog 21 #[v] w fun e w'=>e = .returned (.tuple #[.string (Tess.headW s).1,.int .i64 ((Tess.headW s).2:Nat)])/\Below w.heap.size w w':=by
 refine(ra10 p v s w hv).mono ?_;rintro e w' ⟨rfl,hB⟩;refine⟨?_,hB⟩;unfold Tess.headW;by_cases h:Tess.sO s=true
 ·rw[qR h,qR h,qR h];rfl
 ·rw[qH h,qH h,qH h];rfl
theorem SCa(a0 a1 a2:Addr){vs vr:Value}{C0:List RCel}{s0:Tess.Sch}(b:ByteArray)(w:World)(hv:DV2 a0 a1 w)(hsv:SV a2 w)(hs:SA (fun _=>True) w vs s0)(hr:LA 6 (RA2 fun _=>True) (fun _=>True) w vr C0)(hrng:Tess.RRng C0) :
  Calls Tryz.prog 6 #[vs,vr,.string b] w fun e w'=>e = .returned (.bool true)/\Below w.heap.size w w':=by
 have Ch:=Hd (nlC rn2 hr);clear hr;obtain⟨vd,vm,rfl,hd,hm,Aj,Ak⟩:=hs.ltK;have HS:=Hd (show SA (fun b=>True/\b<w.heap.size) w (.agg #[vd,vm,.int .i64 s0.grain]) s0 from⟨vd,vm,rfl,hd,hm,Aj,Ak⟩);obtain⟨ad,Ar,rfl,_⟩:=sl3 hd;obtain⟨am,Ap,rfl,_⟩:=sl3 hm;clear hd hm Aj Ak hs;have HV:=Hd hv;have Bs:=Hd hsv;clear hv hsv
 obtain⟨W0,Bo⟩:=XQ (w.alloc (.cells #[.slice ad s0.dims.length Ar,.slice am s0.mets.length Ap,.int .i64 s0.grain] 24))
 obtain⟨k0,kS,kB⟩:=la2 w (.cells #[.slice ad s0.dims.length Ar,.slice am s0.mets.length Ap,.int .i64 s0.grain] 24);rw[Bo]at k0 kS kB;have K0:=Hd k0;have B0:=Hd kB;clear k0 kS kB;have Bd:=cCr hrng;have A6:((C0.take 50).map cC2).length<=50:=by rw[qX,qy];omega
 obtain⟨L,hL⟩:=XQ ((C0.take 50).map cC2)
 rw[hL]at Bd A6;have HL:=Hd hL;have Bu:=Hd Bd;have C4:=Hd A6;clear hL Bd A6 hrng;go_enter Tryz.func6,Tryz.ntmps6;go_wp2_with (fail);go_at_call 7;refine(sa10 a0 a1 a2 W0 (HV.out.below B0.out) (Bs.out.below B0.out)).mono ?_;rintro e W1 ⟨rfl,Ba⟩;have B1:=Hd (Bt B0.out Ba);have k1:=(Ba.block _ (qA.1 K0.out).1).trans K0.out;have Ao:=(qA.1 k1).1;clear Ba Bo;obtain⟨⟨x0,x1,x2⟩,x3,x4,x5⟩:=can3 k1
 go_wp2_with (fail);go_at_call 8;refine(cSa _ s0 W1 _ (HS.out.ag (Ag.new _ B1.out))).mono ?_;rintro e W2 ⟨Cy,rfl,Ax,Bc⟩;have B2:=Hd (Bt B1.out Bc);have k2:=(Bc.block _ Ao).trans k1;have Ax:=Ax.weak (q:=Nb w.heap.size) (fun b hb e=>by have e:b=w.heap.size:=e;omega);obtain⟨s,Cb⟩:=XQ (cS4 s0)
 rw[Cb]at Ax;clear Cb;obtain⟨Bw,Cd,rfl,hd,hm,Aj,Ak⟩:=Ax;have Ca:=Hd (show SA (Nb w.heap.size) W2 (.agg #[Bw,Cd,.int .i64 s.grain]) s from⟨Bw,Cd,rfl,hd,hm,Aj,Ak⟩);obtain⟨Cm,Aq,rfl,_⟩:=sl3 hd;obtain⟨Ci,Ai,rfl,_⟩:=sl3 hm;obtain⟨W3,Bk,k3,Bx,Bm⟩:=bp3 k2 (.slice Cm s.dims.length Aq) (.slice Ci s.mets.length Ai) (.int .i64 s.grain);have Ct:=Hd (Ca.out.ag Bx);have B3:=Hd (B2.out.trans (Bm _ (qC _)))
 clear x0 x1 x2 x3 x4 x5 hd hm Aj Ak Ca Bx Bm HS;obtain⟨⟨x0,x1,x2⟩,x3,x4,x5⟩:=can3 k2;go_wp2_with (fail)
 try rw[Bk]
 clear Bk x0 x1 x2 x3 x4 x5 Ao k1 k2 Bc;go_at_call 13;refine(fa11 _ vr C0 W3 (LA.ag Ch.out (Ag.new _ B3.out) fun _ _ _ h=>h.ag (Ag.new _ B3.out))).mono ?_;rintro e W4 ⟨v4,rfl,Ad,Ay⟩;rw[HL.out]at Ad;have Bi:=(qA.1 k3).1
 have Ad:=LA.weak Ad (q:=Nb w.heap.size) (fun b hb e=>by
  have e:b=w.heap.size:=e;rcases hb with hb|hb
  ·have:=hb.2;omega
  ·omega) fun _ _ _ h=>rn2.weak h (q:=Nb w.heap.size) (fun b hb e=>by
  have e:b=w.heap.size:=e;rcases hb with hb|hb
  ·have:=hb.2;omega
  ·omega)
 have B4:=Hd (Bt B3.out Ay);have k4:=(Ay.block _ Bi).trans k3;have Bh:=(qA.1 k4).1;have A0:=Hd (Ct.out.ag (Ag.new _ Ay));have Cv:=Hd Ad;obtain⟨ra,rc,rfl,C2,_⟩:=LA.open Ad;have HE:=Hd (sa5 (Nb w.heap.size) _ _ s L W4 A0.out Ad Bu.out);have HR:=Hd (fun W (hW:Below W4.heap.size W4 W)=>ra14 (Nb w.heap.size) _ _ s L W (A0.out.ag (Ag.new _ hW)) (RC2.ag Ad (Ag.new _ hW)) Bu.out)
 obtain⟨⟨A1,zA⟩,Bj⟩:∃x,x=Tess.encR s L:=⟨_,rfl⟩
 rw[<-Bj]at HE HR;dsimp only at HE HR;clear Ad Ay Bi k3 Bj;have Af:=Hd (cCs2 b);have Ah:=Hd (cCa2 b);generalize cutC b=B13 at Af Ah;obtain⟨⟨x0,x1,x2⟩,_⟩:=can3 k4;go_wp2_with (fail);go_at_call 11;refine HE.out.mono ?_;rintro e W5 ⟨rfl,Au⟩;have k5:=(Au.block _ Bh).trans k4;have Cc:=(qA.1 k5).1;have B5:=Hd (Bt B4.out Au);have Bz:=Hd (A0.out.ag (Ag.new _ Au));clear k4 Bh x0 x1 x2 HE
 obtain⟨⟨x0,x1,x2⟩,_⟩:=can3 k5;go_wp2_with (fail);go_at_call 19;refine(HR.out W5 Au).mono ?_;rintro e W6 ⟨rfl,Aw⟩;have k6:=(Aw.block _ Cc).trans k5;have Bp:=(qA.1 k6).1;have B6:=Hd (Bt B5.out Aw);have Bg:=Hd (Bz.out.ag (Ag.new _ Aw));clear Au Aw k5 Cc x0 x1 x2 A0 Bz B4 B5 HR Cv;obtain⟨⟨D,zD⟩,Bv⟩:∃x,Tess.decP s B13=x:=⟨_,rfl⟩
 have Bq:=Hd Bv;clear Bv;obtain⟨⟨x0,x1,x2⟩,_⟩:=can3 k6;go_wp2_with (fail);refine FlowT.wp_region 3 [3,4,5,6,7,8] [4,5,6] 7 8 (Flow.sp3 [.inl ?_,.inl ?_,.inl (.string B13)]) (by kernel_rfl) (by kernel_rfl) ?_ rfl rfl rfl ?_;rotate_left 2
 ·refine Flow.sm2 ?_
  repeat(first|exact Flow.ln2|refine Flow.li2 ?_)
 all_goals try simp only[qL,qY]
 iterate 2 (refine Flow.tvK rfl (fun K hK=>⟨fun w' hw hG=>?_,?_⟩);(have Cl:=Flow.bc4 hw;clear hG hw;unfold Flow.Runs Flow.yields;go_simp;try rfl);go_simp;refine hK _ ?_;clear hK K)
 (refine Flow.tvK rfl (fun K hK=>⟨fun w' hw hG=>?_,?_⟩);(clear hG hw;unfold Flow.Runs Flow.yields;go_simp;refine(Ah.out _).mono ?_;rintro e w3 ⟨rfl,A9⟩;exact⟨rfl,A9⟩);go_simp;refine hK _ ?_;clear hK K)
 refine Flow.tn2 fun W7 hB7 hG=>?_;clear hG;have k7:=(hB7.block _ Bp).trans k6;have By:=(qA.1 k7).1;have B7:=Hd (Bt B6.out hB7);have Bb:=Hd (Bg.out.ag (Ag.new _ hB7));have HD:=Hd (sa4 a0 a1 a2 (Nb w.heap.size) _ s B13 W7 (HV.out.below B7.out) (Bs.out.below B7.out) Bb.out (by have:=Af.out;omega));unfold SP2 at HD;rw[Bq.out]at HD;dsimp only at HD;clear hB7 k6 Bp x0 x1 x2 Bg B6
 obtain⟨⟨x0,x1,x2⟩,_⟩:=can3 k7;go_wp2_with (fail);go_at_call 14;refine HD.out.mono ?_;rintro e W8 ⟨vD,rfl,Az,A8⟩;obtain⟨Cx,C1,rfl,Cr,_⟩:=LA.open A8;have k8:=(Az.block _ By).trans k7;have Bl:=(qA.1 k8).1;have B8:=Hd (Bt B7.out Az);have Bn:=Hd (Bb.out.ag (Ag.new _ Az));have Ce:=Hd A8;clear Az A8 k7 By x0 x1 x2 Bb B7 HD;go_wp2_with (fail)
 refine⟨rfl,_,_,rfl,rfl,(fun w=>by go_simp;try rfl),_,_,rfl,rfl,(fun w=>by go_simp;try rfl),_,_,rfl,rfl,(fun w=>by go_simp;try rfl),?_⟩;apply bw2
 ·intro h;go_wp2_with (fail);exact⟨rfl,h⟩
 ·intro h;go_wp2_with (fail);exact⟨rfl,h⟩
 have Cs:=Ce;obtain⟨⟨x0,x1,x2⟩,_⟩:=can3 k8;go_wp2_with (fail);refine FlowT.wp_region 3 [3,4,5,6,7,8] [4,5,6] 7 8 (Flow.sp3 [.inl ?_,.inl ?_,.inl (.string B13)]) (by kernel_rfl) (by kernel_rfl) ?_ rfl rfl rfl ?_;rotate_left 2
 ·refine Flow.sm2 ?_
  repeat(first|exact Flow.ln2|refine Flow.li2 ?_)
 all_goals try simp only[qL,qY]
 iterate 2 (refine Flow.tvK rfl (fun K hK=>⟨fun w' hw hG=>?_,?_⟩);(have Cl:=Flow.bc4 hw;clear hG hw;unfold Flow.Runs Flow.yields;go_simp;try rfl);go_simp;refine hK _ ?_;clear hK K)
 (refine Flow.tvK rfl (fun K hK=>⟨fun w' hw hG=>?_,?_⟩);(clear hG hw;unfold Flow.Runs Flow.yields;go_simp;refine(Ah.out _).mono ?_;rintro e w3 ⟨rfl,A9⟩;exact⟨rfl,A9⟩);go_simp;refine hK _ ?_;clear hK K)
 refine Flow.tn2 fun W9 hB9 hG=>?_;clear hG;have k9:=(hB9.block _ Bl).trans k8;have Br:=(qA.1 k9).1;have B9:=Hd (Bt B8.out hB9);have A3:=Hd (Bn.out.ag (Ag.new _ hB9));have Ck:=Hd ((Cs.out).ag (Ag.new _ hB9));have HD:=Hd (ra15 (Nb w.heap.size) _ s B13 W9 A3.out (by have:=Af.out;omega));unfold SP2 at HD;rw[Bq.out]at HD;dsimp only at HD;clear hB9 k8 Bl x0 x1 x2 Bn B8;obtain⟨⟨x0,x1,x2⟩,_⟩:=can3 k9
 go_wp2_with (fail);go_at_call 20;refine HD.out.mono ?_;rintro e Be ⟨vH,rfl,Ab,Ae⟩;obtain⟨C5,C3,rfl,Co,_⟩:=LA.open Ae;have Av:=(Ab.block _ Br).trans k9;have Al:=(qA.1 Av).1;have Cf:=Hd (Bt B9.out Ab);have Am:=Hd (A3.out.ag (Ag.new _ Ab));have A5:=Hd Ae;have Bf:=Hd ((Ck.out).ag (Ag.new _ Ab));clear Ab Ae k9 Br x0 x1 x2 A3 B9 HD;go_wp2_with (fail)
 refine⟨rfl,_,_,rfl,rfl,(fun w=>by go_simp;try rfl),_,_,rfl,rfl,(fun w=>by go_simp;try rfl),_,_,rfl,rfl,(fun w=>by go_simp;try rfl),?_⟩;apply bw2
 ·intro h;go_wp2_with (fail);exact⟨rfl,h⟩
 ·intro h;go_wp2_with (fail);exact⟨rfl,h⟩
 have HH:=Hd (ha4 (Nb w.heap.size) _ s Be Am.out);have A4:=Hd (fun W (hW:Below Be.heap.size Be W)=>hCa (Nb w.heap.size) _ s W (Am.out.ag (Ag.new _ hW)));obtain⟨⟨A2,z2⟩,hh⟩:∃x,x=Tess.headW s:=⟨_,rfl⟩
 rw[<-hh]at HH A4;dsimp only at HH A4;clear hh;obtain⟨⟨x0,x1,x2⟩,_⟩:=can3 Av;go_wp2_with (fail);go_at_call 18;refine HH.out.mono ?_;rintro e Cu ⟨rfl,Aa⟩;have Cp:=(Aa.block _ Al).trans Av;have Cn:=Hd (Bt Cf.out Aa);have As:=Hd (A5.out.ag (Ag.new _ Aa));have At:=Hd (Bf.out.ag (Ag.new _ Aa));clear x0 x1 x2 Av Al;obtain⟨⟨x0,x1,x2⟩,_⟩:=can3 Cp;go_wp2_with (fail);go_at_call 21;refine(A4.out Cu Aa).mono ?_
 rintro e Cj ⟨rfl,Ac⟩;have Cg:=Hd (Bt Cn.out Ac);have Cq:=Hd (se3 _ _ _ _ D Cj (At.out.ag (Ag.new _ Ac)) (As.out.ag (Ag.new _ Ac)));have Cz:(A1.toList==A1.toList)=true:=by simp
 have C6:(A2.toList==A2.toList)=true:=by simp
 clear x0 x1 x2 Aa Ac As At;go_wp2_with (fail);go_at_call 15;refine Cq.out.mono ?_;rintro e Cw ⟨rfl,An⟩;have A7:=Hd (Bt Cg.out An);clear An;go_wp2_with (fail);go_ret;exact⟨rfl,A7.out⟩
end Go.Proofs.Q9
namespace Go.Proofs.Q9
open Go.RowKit Go.Sort
open Tess (RCel)
theorem SCW{vs vr:Value}{C0:List RCel}{s0:Tess.Sch}{P2:Prop}(b:ByteArray)(w:World)(hV:∃a0 a1 a2,DV2 a0 a1 w/\SV a2 w)(hs:SA (fun _=>True) w vs s0)(hr:LA 6 (RA2 fun _=>True) (fun _=>True) w vr C0)(hrng:Tess.RRng C0)(_:P2) :
  Calls Tryz.prog 6 #[vs,vr,.string b] w fun e w'=>e = .returned (.bool true)/\Below w.heap.size w w':=by
 obtain⟨a0,a1,a2,hv,Aa⟩:=hV;exact SCa a0 a1 a2 b w hv Aa hs hr hrng
