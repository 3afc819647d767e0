/- Joined. -/
import Derived.Test.YtjdccifdkjnknaaGreatDoorZC40
set_option maxRecDepth 100000
set_option maxHeartbeats 4000000
namespace Go.Proofs.Q9
open Go.RowKit Go.Sort
open Tess (CK Pay cel0 celK pR upE fpS fpM fm2)
def RP2(D M:Nat)(l:List ByteArray)(w:World)(e:Ending)(w':World):Prop:=
 (∃v,e = .returned (.tuple #[v,.bool (Tess.rS2 D M l).isSome])/\(Tess.rS2 D M l=none->v = .slice none 0 0)/\∀C,Tess.rS2 D M l=some C->∃g E V,v = .slice (some ⟨g,0,none⟩) C.length C.length/\Cel g C.length E V w'/\w.heap.size<=g/\∀k (h:k<C.length),E k=C[k])/\Below w.heap.size w w'
theorem w22(d:Nat)(h:d<=100):∀x:Int,x=2+(d:Int)->wrap64 x=((2+d:Nat):Int):=fun _ e=>by rw[e];exact w23 d h
theorem w33(d e:Nat)(h:d<=100)(h2:e<=100):∀x:Int,x=2+(d:Int)+(e:Int)->wrap64 x=((2+d+e:Nat):Int):=fun _ q=>by rw[q];exact w34 d e h h2
theorem RP2.none{D M:Nat}{l:List ByteArray}{w w':World}(h:Tess.rS2 D M l=none)(hb:Below w.heap.size w w'):RP2 D M l w (.returned (.tuple #[.slice none 0 0,.bool false])) w':=
 ⟨⟨_,by rw[h];rfl,fun _=>rfl,fun C e=>by rw[h]at e;cases e⟩,hb⟩
theorem ra41(p:Nat->Prop)(vs vl:Value)(s:Tess.Sch)(l:List ByteArray)(w:World)(hs:SA p w vs s)(hl:SlOf w vl (l.map .string))(hfs:∀x∈l,x.size<=1000000)(hD:s.dims.length<=100)(hM:s.mets.length<=100) :
  Calls Tryz.prog 51 #[vs,vl] w (RP2 s.dims.length s.mets.length l w):=by
 obtain⟨vd,vm,rfl,hd,hm,_,_⟩:=hs;obtain⟨ad,Ce,rfl,_⟩:=sl3 hd;obtain⟨am,Cc,rfl,_⟩:=sl3 hm;obtain⟨D,eD⟩:=Xq s.dims.length
 obtain⟨M,eM⟩:=Xq s.mets.length
 rw[<-eD]at hD⊢;rw[<-eM]at hM⊢;generalize s.grain=gr;obtain⟨al,cl,rfl,E9,Eu⟩:=so3 _ hl;have Dx:=Hd Eu;have Dc:=Hd hfs;obtain⟨W0,Ff⟩:=XQ (w.alloc (.cells #[.slice ad D Ce,.slice am M Cc,.int .i64 gr] 24))
 obtain⟨k0,kS,kB⟩:=la2 w (.cells #[.slice ad D Ce,.slice am M Cc,.int .i64 gr] 24);rw[Ff]at k0 kS kB;obtain⟨⟨x0,x1,x2⟩,_⟩:=can3 k0;have HK:=Hd k0;have HB:=Hd kB;have Cu:=Hd kS;have Ax:wrap64 (2+(D:Int))=2+(D:Int):=by unfold wrap64;omega
 have B4:wrap64 (2+(D:Int)+(M:Int))=2+(D:Int)+(M:Int):=by unfold wrap64;omega
 have B3:=Hd Ax;have Dh:=Hd B4;clear k0 kS kB hd hm hl Eu hfs eD eM Ax B4;by_cases Ag:l.length=2+D+M;rotate_left
 ·have Ef:((l.length:Int) !=2+(D:Int)+(M:Int))=true:=by rw[zj];omega
  have HN:=Hd (show Tess.rS2 D M l=none by unfold Tess.rS2;rw[qH Ag]);clear Ag;have Ax:=B3.out;have B4:=Dh.out;go_enter Tryz.func51,Tryz.ntmps51;go_wp2_with (fail);go_ret2;exact RP2.none HN.out HB.out
 have Ef:((l.length:Int) !=2+(D:Int)+(M:Int))=false:=by rw[zg];omega
 have Ab:=Hd Ag;have Cw:=Hd (Tess.rSp D M l Ag);obtain⟨lb,lo,rfl,_,Ew⟩:=Dx.out W0 HB.out 1 (by omega);obtain⟨z1,Ak⟩:=Xq (l[1]'(by omega))
 rw[<-Ak]at Ew;have Cm:l.getD 1 Tess.w0=z1:=by rw[qE,qD (by omega),Ak];rfl
 have Cf:z1.size<=1000000:=Dc.out _ (by rw[Ak];exact qP _);have C0:=Hd (show pR D l 0=(Tess.tR2 z1).map fun x=>(x.1,x.2,[],[]) by unfold pR;rw[Cm]);have Ec:=Hd (fun x=>Tess.tRf (s:=z1) (x:=x));have Bi:=fun W=>ra12 z1 2 W Cf (by omega);rw[Tess.li4]at Bi;obtain⟨T,hT⟩:=Xq (Tess.tR2 z1)
 rw[<-hT]at C0 Ec Bi;have Bv:=Hd Bi;have Eb:(1:Int)<(l.length:Int):=by omega
 clear Ag Ak Cm Cf hT Bi;cases T with
 |none=>
   have HN:=Hd (show Tess.rS2 D M l=none by rw[Cw.out,Tess.pRn C0.out _ (qN _)];rfl);have Ax:=B3.out;have B4:=Dh.out;go_enter Tryz.func51,Tryz.ntmps51;go_wp2_with (fail);go_at_call 104;refine(Bv.out W0).mono ?_;rintro e w1 ⟨⟨v1,rfl,A7⟩,Cn⟩;obtain rfl:v1 = .slice none 0 0:=A7;have Bc:=Hd (Bt HB.out Cn);clear Cn;go_wp2_with (fail);go_ret2;exact RP2.none HN.out Bc.out
 |some t=>
   obtain⟨ts,ns⟩:=t;obtain⟨A3,C2⟩:=Ec.out _ rfl;dsimp only at A3 C2;obtain⟨n,hn⟩:=Xq ts.length
   rw[<-hn]at A3 C2;have D3:=Hd hn;have Em:=Hd C2;clear hn C2;have Ax:=B3.out;have B4:=Dh.out;obtain⟨i0,hi,Aw,Ak,A1⟩:=zF iC;go_enter Tryz.func51,Tryz.ntmps51;go_wp2_with (fail);go_at_call 104;refine(Bv.out W0).mono ?_;rintro e w1 ⟨⟨v1,rfl,A7⟩,Cn⟩;obtain⟨C5,A7⟩:∃C5,LI2 W0.heap.size v1 [ts,ns] C5 w1:=A7
   obtain⟨s0,s1,rfl⟩:∃s0 s1,C5=[s0,s1]:=by
    have:=A7.1;rcases C5 with _|⟨a,_|⟨b,_|⟨c,t⟩⟩⟩<;>simp at this
    exact⟨a,b,rfl⟩
   have Ck:=A7.2.2 0 (by simp) (by simp);have Cd:=A7.2.2 1 (by simp) (by simp);simp only[zo,zR]at Ck Cd;rw[<-D3.out]at Ck;rw[Em.out]at Cd;obtain⟨a0,c0,rfl,_,_⟩:=os4 Ck;obtain⟨a1,c1,rfl,_,_⟩:=os4 Cd;obtain⟨q,qc,rfl,_,Eg,_,D0⟩:=oc2 A7.2.1 (by simp);have A2:=(D0 0 (by simp)).1;have Av:=(D0 1 (by simp)).1;simp only[jU,jV,qj]at A2 Av;obtain⟨qa,qz,Ev⟩:=ok3 A7.2.1 q rfl;have E0:=Hd Ev
   have HQ:=Hd (And.intro A2 Av);have Ea:=Hd Ck;have Ej:=Hd Cd;have Bc:=Hd Cn;have C8:=Hd Eg;clear A7 Ck Cd Eg D0 Cn Ev;go_wp2_with (at_make;refine wLm (.tmp 37) (.tmp 37) 28 rfl 56 i0 _ Tryz.underlying28 hi Aw .i64 .i64 _ _ n rfl rfl rfl rfl (by rw[A1];omega) (by omega) ?_);intro w2 B6 B7 C7
   have HA:=Hd (fun k i (hk:k<n) (hi:i<6)=>ma4 #[.int .i64 0,.slice none 0 0,.int .i64 0,.slice none 0 0,.slice none 0 0,.slice none 0 0] n k i rfl hk hi);obtain⟨g,hg⟩:=Xq w1.heap.size
   rw[<-hg]at B7 C7⊢;generalize madeCells #[Value.int .i64 0,.slice none 0 0,.int .i64 0,.slice none 0 0,.slice none 0 0,.slice none 0 0] (n*6)=A0 at C7 HA;have Et:=Hd C7;have B9:=Hd (Bt Bc.out B6);have A4:=Hd (show W0.heap.size<=g by rw[hg];exact Bc.out.size);have Ch:=Hd (ob2 Ea.out B6);have Co:=Hd (ob2 Ej.out B6);have A2:=(B6.cell (p:=⟨q,0,none⟩) C8.out).trans HQ.out.1
   have Av:=(B6.cell (p:=⟨q,1,none⟩) C8.out).trans HQ.out.2;have Eo:=Hd (And.intro A2 Av);have D2:=Hd (show q≠g by rw[hg];exact qAu C8.out);have C1:=Hd (fun o o' (e:(⟨q,o,none⟩:Addr)=⟨g,o',none⟩)=>D2.out (by injection e));clear B6 B7 C7 hg A2 Av;go_wp2_with (fail)
   go_loopw [8] (fun v8 wr=>∃(k:Nat) (A:Array Value),k<=n/\v8 = .int .i64 k/\wr.heap[g]?=some (.cells A 56 (0,0))/\(∀j,j<n->∀i,i<6->A[j*6+i]?=if j<k then(celC (cel0 ts ns) (fun _=>.slice none 0 0) j)[i]? else(#[Value.int .i64 0,.slice none 0 0,.int .i64 0,.slice none 0 0,.slice none 0 0,.slice none 0 0]:Array Value)[i]?)/\wr.ownsRow W0.heap.size 2 1 (.slice a0 n c0) n (ts.map (.int .i64))/\wr.ownsRow W0.heap.size 2 1 (.slice a1 n c1) n (ns.map (.int .i64))/\(wr.cell? ⟨q,0,none⟩=some (.slice a0 n c0)/\wr.cell? ⟨q,1,none⟩=some (.slice a1 n c1))/\Below W0.heap.size W0 wr) (fun v8 _=>n-(intOf v8).toNat)
   case atStart=>exact⟨0,A0,qN _,rfl,Et.out,fun j hj i hi=>by rw[qH (zH j)];exact HA.out j i hj hi,Ch.out,Co.out,Eo.out,B9.out⟩
   case round=>
    obtain⟨k,A,Db,rfl,hK,hA,hO,En,⟨A2,Av⟩,Er⟩:=hrel;have Bg:=Hd hK;have Cx:=Hd hA;have Bd:=Hd hO;have Be:=Hd En;have Ah:=Hd Er;have El:=Hd (And.intro A2 Av);clear hK hA hO En Er Et HA Ch Co Eo B9 Ea Ej HQ Bc;by_cases hk:k<n
    ·have Cv:(k:Int)<(n:Int):=by omega
     have Dy:k<ts.length:=by rw[<-D3.out];exact hk
     have Dn:k<ns.length:=by rw[Em.out];exact hk
     obtain⟨tb,tc,et,_,By,_,Eq⟩:=oc2 Bd.out (by omega);obtain⟨mb,mc,em,_,Fa,_,Cs⟩:=oc2 Be.out (by omega);obtain⟨Dt,_⟩:=Eq k hk;obtain⟨C3,_⟩:=Cs k hk;rw[qp,qD Dy]at Dt;rw[qp,qD Dn]at C3;simp only[ji,qj]at Dt C3;have Eh:mb≠g:=fun e=>by obtain⟨c,fz,h⟩:=ok3 Be.out mb (by rw[em];rfl);rw[e,Bg.out]at h;cases h
     simp only[yQ,qAq]at et em;obtain⟨rfl,rfl⟩:=et;obtain⟨rfl,rfl⟩:=em;obtain⟨x,hx⟩:=Xq (ts[k])
     obtain⟨y,hy⟩:=Xq (ns[k])
     rw[<-hx]at Dt;rw[<-hy]at C3;have Dr:=Cx.out k hk 0 (by omega);have Dg:=Cx.out k hk 2 (by omega);rw[qH (jC k)]at Dr Dg;have Dd:k*6<A.size:=(qA.1 Dr).1;have B7:k*6+2<A.size:=(qA.1 Dg).1;have HX:=Hd (show ts.getD k 0=x by rw[qE,qD Dy,hx];rfl);have HY:=Hd (show ns.getD k 0=y by rw[qE,qD Dn,hy];rfl);clear hx hy;obtain⟨W1,Dw⟩:=XQ (wr.setCell ⟨g,k*6,none⟩ (.int .i64 x))
     have C6:W1.heap[g]?=some (.cells (A.setIfInBounds (k*6) (.int .i64 x)) 56 (0,0)):=by rw[<-Dw];exact qO _ _ _ _ _ (.int .i64 x) Bg.out
     have Bp:∀b o,b≠g->W1.cell? ⟨b,o,none⟩=wr.cell? ⟨b,o,none⟩:=fun b o hb=>by rw[<-Dw];exact yC _ _ _ _ (fun e=>hb (by cases e;rfl))
     have f0:=zY wr g (k*6) _ _ Bg.out;have f2:=zY W1 g (k*6+2) _ _ C6;obtain⟨u0,q0⟩:∃u,wr.cell? ⟨g,k*6,none⟩=some u:=⟨A[k*6],by rw[qT _ _ _ _ _ _ Bg.out,yB Dd]⟩
     obtain⟨u2,q2⟩:∃u,W1.cell? ⟨g,k*6+2,none⟩=some u:=⟨A[k*6+2],by rw[qT _ _ _ _ _ _ C6,zt,qH (by omega),yB B7]⟩
     have q3:=(Bp q 1 D2.out).trans Av;have q4:=(Bp mb k Eh).trans C3;have D7:=Hd C6;have HS:=Hd (And.intro Dd B7);have E6:=Hd hk;have Ba:=Hd Dw;clear C6 Bp Eh Dr Dg Dd B7 Eq Cs By Fa Dy Dn;go_wp2_with (fail);have Db:=E6.out
     have Ez:=Hd (show ∀j,j<n->∀i,i<6->((A.setIfInBounds (k*6) (.int .i64 x)).setIfInBounds (k*6+2) (.int .i64 y))[j*6+i]?=if j<k+1 then(celC (cel0 ts ns) (fun _=>.slice none 0 0) j)[i]? else(#[Value.int .i64 0,.slice none 0 0,.int .i64 0,.slice none 0 0,.slice none 0 0,.slice none 0 0]:Array Value)[i]? from fun j hj i hi=>by
      have C4:=Cx.out j hj i hi;rw[zt,zt,xp];by_cases ej:j=k
      ·subst ej;rw[qH (jC _)]at C4;rw[qR (zQ _),cCa _ _ _ _ hi];unfold cel0;simp only[HX.out,HY.out];rcases i with _|_|_|i
       ·rw[qH (by omega),qR (by omega),qR HS.out.1];rfl
       ·rw[qH (by omega),qH (by omega),C4];rfl
       ·rw[qR (by omega),qR HS.out.2];rfl
       ·rw[qH (by omega),qH (by omega),C4];rcases i with _|_|_|i
        ·rfl
        ·rfl
        ·rfl
        ·omega
      ·rw[qH (by omega),qH (by omega),C4];by_cases e:j<k
       ·rw[qR e,qR (by omega)]
       ·rw[qH e,qH (by omega)])
     go_roundw
     case rel=>
      refine⟨k+1,_,by omega,by go_num,qO _ _ _ _ _ (.int .i64 y) D7.out,Ez.out,ok2 ?_ D7.out (by decide) _,ok2 ?_ D7.out (by decide) _,⟨?_,?_⟩,?_⟩
      ·rw[<-Ba.out];exact ok2 Bd.out Bg.out (by decide) _
      ·rw[<-Ba.out];exact ok2 Be.out Bg.out (by decide) _
      ·rw[yC _ _ _ _ (xR (C1.out _ _)),<-Ba.out,yC _ _ _ _ (xR (C1.out _ _))];exact El.out.1
      ·rw[yC _ _ _ _ (xR (C1.out _ _))];exact q3
      ·refine Below.setCell ?_ A4.out _;rw[<-Ba.out];exact Ah.out.setCell A4.out _
     case measure=>simp[intOf];omega
    ·have Cv:¬(k:Int)<(n:Int):=by omega
     obtain rfl:n=k:=by omega
     have HC:=Hd (show Cel g n (celK (ts,ns,[],[])) (fun _=>.slice none 0 0) wr from by
      have e:celK (ts,ns,[],[])=cel0 ts ns:=by funext j;rfl
      rw[e];refine⟨⟨A,Bg.out,fun j hj i hi=>by rw[Cx.out j hj i hi,qR hj]⟩,?_⟩
      have e:celL (cel0 ts ns)=fun _=>[]:=by funext i;unfold celL cel0;simp
      rw[e]
      exact Fam.new _)
     have Dv:=Hd (fun W (hW:Below W0.heap.size W0 W)=>And.intro ((hW.cell (p:=⟨w.heap.size,0,none⟩) (by rw[Cu.out];exact zQ _)).trans x0) ((hW.cell (p:=⟨w.heap.size,1,none⟩) (by rw[Cu.out];exact zQ _)).trans x1));obtain⟨y0,y1⟩:=Dv.out _ Ah.out;have Es:=Hd (show pR D l 0=some (ts,ns,[],[])from C0.out);clear Bg Cx Bd Be El A2 Av x0 x1 x2 Ew C0 HK E0 C8 C1 D2 Bv;go_wp2_with (fail);clear y0 y1 Ax B4
     go_loopw [9] (fun v9 wr=>∃(d:Nat) (V:Nat×Nat->Value) (y:_),d<=D/\v9 = .int .i64 d/\pR D l d=some y/\y.1.length=n/\Cel g n (celK y) V wr/\Below W0.heap.size W0 wr) (fun v9 _=>D-(intOf v9).toNat)
     case atStart=>exact⟨0,_,_,qN _,rfl,Es.out,D3.out.symm,HC.out,Ah.out⟩
     case round=>
      clear Es HC Ah;obtain⟨d,V,y,hd,rfl,hp,Cb,hC,hB⟩:=hrel;have HP:=Hd hp;have Bh:=Hd Cb;have HC:=Hd hC;have Ah:=Hd hB;clear hp Cb hC hB;obtain⟨y0,y1⟩:=Dv.out _ Ah.out;by_cases B8:d<D
      ·have D8:(d:Int)<(D:Int):=by omega
       have Cq:=Hd (w22 d (by omega));have A9:2+d<l.length:=by rw[Ab.out];omega
       obtain⟨Fc,E4,el,_,De⟩:=Dx.out wr (Bt HB.out Ah.out) (2+d) A9;cases el
       obtain⟨z,hz⟩:=Xq (l[2+d])
       rw[<-hz]at De;have Cp:l.getD (2+d) Tess.w0=z:=by rw[qE,qD A9,hz];rfl
       have Bf:=Hd (show pR D l (d+1)=(Tess.dimR n z).map fun x=>(y.1,y.2.1,y.2.2.1++[x],y.2.2.2) by
        unfold pR;rw[HP.out]
        simp only[jA,qR B8,Cp,Bh.out])
       have B0:=ra21 z n wr (Dc.out _ (by rw[hz];exact qP _));have Dp:=Hd (fun x=>Tess.dRl (n:=n) (s:=z) (l:=x));obtain⟨T,hT⟩:=Xq (Tess.dimR n z)
       rw[<-hT]at Bf B0 Dp;have Bm:=Hd B0;have E8:((2+d:Nat):Int)<(l.length:Int):=Int.ofNat_lt.2 A9;have Dm:=Hd B8;clear B0 hT hz Cp B8 A9;cases T with
       |none=>
         have HN:=Hd (show Tess.rS2 D M l=none by rw[Cw.out,Tess.pRn Bf.out _ (by have:=Dm.out;omega)];rfl);have Bu:=Cq.out;go_wp2_with (fail);clear Bu;go_at_call 105;refine Bm.out.mono ?_;rintro e w3 ⟨⟨v3,rfl,Aj⟩,Au⟩;have Ay:=Hd (Bt (Bt HB.out Ah.out) Au);clear Aj Au;go_wp2_with (fail);go_ret2;exact RP2.none HN.out Ay.out
       |some dl=>
         have B8:=Dp.out dl rfl;have Ct:=Hd B8;clear Dp B8;have Bu:=Cq.out;go_wp2_with (fail);clear Bu;go_at_call 105;refine Bm.out.mono ?_;rintro e w3 ⟨⟨v3,rfl,Aj⟩,Au⟩;have Aj:w3.ownsRow wr.heap.size 47 2 v3 dl.length (vC (dl.map Tess.valOf)):=Aj;rw[Ct.out]at Aj;obtain⟨av,cv,rfl⟩:=rs5 Aj;have Dj:=Hd Aj;have B2:=Hd (HC.out.below Au);have Ay:=Hd (Bt Ah.out Au)
         have Al:=Hd (fun(i:Nat×Nat) (hi:i.1<n/\i.2<4) z (e:(V i).ownBlock=some z)=>(HC.out.low hi z e).2);have Bq:=Hd (show g<wr.heap.size from HC.out.lt);obtain⟨tb,By⟩:=Xq wr.heap.size
         rw[<-By]at Dj Al Bq;clear Aj Au By HC Bm;go_wp2_with (fail);go_loopw [12] (fun v12 wq=>∃(k:Nat) (V':Nat×Nat->Value),k<=n/\v12 = .int .i64 k/\Cel g n (fun j=>if j<k then Tess.pD2 (celK y j) (dl.getD j none)else celK y j) V' wq/\(∀j,k<=j->∀fd,V' (j,fd)=V (j,fd))/\wq.ownsRow tb 47 2 (.slice av n cv) n (vC (dl.map Tess.valOf))/\Below W0.heap.size W0 wq) (fun v12 _=>n-(intOf v12).toNat)
         case atStart=>exact⟨0,V,qN _,rfl,B2.out,fun _ _ _=>rfl,Dj.out,Ay.out⟩
         case round=>
          obtain⟨wq,Do⟩:=Xq wr;subst Do;obtain⟨k,V',Db,rfl,hC,Ci,hO,hB⟩:=hrel;have Ap:=Hd hC;have B5:=Hd Ci;have Bd:=Hd hO;have Bo:=Hd hB;clear hC Ci hO hB B2 Dj Ay Ah;by_cases hk:k<n
          ·have Cv:(k:Int)<(n:Int):=by omega
           obtain⟨q,qc,eq,Av,Dk,hs,hb⟩:=va6 Bd.out hk Ct.out;simp only[yQ,qAq]at eq;obtain⟨rfl,rfl⟩:=eq;obtain⟨s,es⟩:=Xq ((Tess.valOf (dl.getD k none)).s)
           obtain⟨nl,en⟩:=Xq ((Tess.valOf (dl.getD k none)).null)
           rw[<-es]at hs;rw[<-en]at hb;have Fh:=Hd (show valC (Tess.valOf (dl.getD k none))=[.string s,.bool nl] by rw[es,en];rfl);clear es en;obtain⟨Ek,A8⟩:=Xq (fun j=>if j<k then Tess.pD2 (celK y j) (dl.getD j none)else celK y j:Nat->CK×Pay)
           rw[<-A8]at Ap;have Aa:=Ap.out.fam.own (k,0) ⟨hk,by omega⟩;have Ad:∀z,(V' (k,0)).ownBlock=some z->z<tb:=fun z e=>Al.out (k,0) ⟨hk,by omega⟩ z (by rw[<-B5.out k (qC k) 0];exact e);obtain⟨Ac,Af⟩:=Ap.out.turn hk (fd:=0) (by omega) [.string s,.bool nl] Ad;obtain⟨va,Aq⟩:=Xq (V' (k,0))
           obtain⟨f,hf⟩:=Xq (fOf wq (V' (k,0)) (celS 0) [.string s,.bool nl])
           rw[<-hf]at Ac Af;rw[<-Aq]at Aa Af;have An:=Hd (show ∀V2,(turns f).r wq V2->V2.cell? ⟨g,k*6+1,none⟩=some va/\V2.frozen? ⟨g,k*6+1,none⟩=false from Af);have D9:=Hd (fun V2 (hV:(turns f).r wq V2)=>And.intro ((ta2 hV Dk (Ac q (.inr Av)) (o:=k*2)).trans hs) ((ta2 hV Dk (Ac q (.inr Av)) (o:=k*2+1)).trans hb))
           have Ar:=Hd (show ∀y,wq.heap.size<=y->f y=none from fun y hy=>Ac y (.inr (by have:=Bd.out.lt q rfl;omega)));have As:=Hd Ac;have Ai:=Hd hf;have At:=Hd Aq;have Ae:=Hd Aa
           have Ab:=Hd (show(celL Ek (k,0)).length<=1000 from cLf 0 (by
            rw[A8];simp only[qH (jC k)]
            exact cKf HP.out (by omega)))
           have Ed:=Hd (show upE Ek k (Tess.pD2 (Ek k) (dl.getD k none))=fun j=>if j<k+1 then Tess.pD2 (celK y j) (dl.getD j none)else celK y j by
            rw[A8];simp only[qH (jC k)]
            exact Tess.uEl (fun j=>Tess.pD2 (celK y j) (dl.getD j none)) (celK y) k)
           have A6:=Hd (show g<wq.heap.size from Ap.out.lt);clear Ac Af hf Aq Aa Ad hs hb Av Dk A8;obtain⟨i0,hi,Aw,Ak,A1⟩:=zF iV;go_wp2_with (fail)
           refine FlowR.wrf (R:=turns f) 13 (FlowR.sp3 44 (fun _=>.inl undef) (.inl ?_ :: .inl ?_ :: .inl ?_ :: .inl ?_ :: .inl ?_ :: .inl ?_ :: .inl ?_ :: .inl ?_ :: .inl ?_ :: .inl ?_ :: .inl ?_ :: .inr (newR wq.heap.size [.string s,.bool nl]) :: .inr (appd f wq.heap.size (g+1) (celT 0) (celS 0) ((celL Ek (k,0)).length+1) ((celL Ek (k,0)).flatten++[.string s,.bool nl]) va.ownBlock)::[])) (fun _=>0) (FlowR.so4 (by kernel_rfl)) (by kernel_rfl) (by kernel_rfl) ?_ ?_
           rotate_left 11
           ·refine FlowR.sm2 (fun x=>FlowR.mi _) ?_
            repeat(first|exact FlowR.ln2|refine FlowR.li2 ?_|refine FlowR.li3 (nRm Ar.out _) ?_|refine FlowR.li3 (am2 Ar.out) ?_)
           all_goals try simp only[qL,qY,qM,qV]
           iterate 11 (refine FlowR.tvK rfl (fun K hK=>⟨fun V hw hG=>?_,?_⟩);(have t4:=(An.out V hw).1;obtain⟨t5,t6⟩:=D9.out V hw;clear hG hw;unfold FlowR.Runs FlowR.yields;go_simp;try rfl);go_simp;refine hK _ ?_;clear hK K)
           (refine FlowR.tvK2 rfl (fun K hK=>⟨fun V hw hG=>?_,?_⟩);(have B1:=hw.2.2.2.1;clear hG hw;unfold FlowR.Runs FlowR.yields;go_simp;exact⟨ta3 _ _,(⟨V.heap.size,rfl,B1,by simp,fun j u hu=>by rw[qT _ _ _ _ _ _ (jY _ _)];simpa using hu⟩:newR wq.heap.size [.string s,.bool nl] (.slice (some ⟨V.heap.size,0,none⟩) 1 1) (V.alloc _))⟩);intro vn;go_simp;refine hK _ _ ?_;clear hK K)
           (refine FlowR.tvK2 rfl (fun K hK=>⟨fun V hw hG=>?_,?_⟩);(have A5:=(show newR wq.heap.size [.string s,.bool nl] vn V by simpa[FlowR.upd]using hG 11 (by kernel_rfl));have Ag:=Ab.out;obtain⟨v',V2,Ao,Bj,Br⟩:=ta4 (P:=Tryz.prog) (t:=48) (ty:=48) Tryz.underlying48 hi Aw Ak A1 rfl (by decide) hw Ae.out (fun y e=>by rw[Ai.out,At.out];rfl) rfl (by intro u hu;simp only[qm,zG,jr]at hu;rcases hu with rfl|rfl<;>rfl) (by unfold maxLen;omega) (by omega) A6.out A5;clear hG hw A5;exact ra2 (t:=48) (.tmp 97) (.tmp 102) rfl rfl rfl rfl Ao Bj Br);intro vt;go_simp;refine hK _ _ ?_;clear hK K)
           refine FlowR.tn2 fun w8 hw8 hG=>?_;have Am:=(show appd f wq.heap.size (g+1) (celT 0) (celS 0) ((celL Ek (k,0)).length+1) ((celL Ek (k,0)).flatten++[.string s,.bool nl]) va.ownBlock vt w8 by simpa[FlowR.upd]using hG 12)
           clear hG;obtain⟨q1,q2⟩:=An.out w8 hw8;have Fg:=Hd ((Bn Bo.out hw8 (qC _) fun y hy=>As.out y (.inl (by have:=A4.out;omega))).setCell (p:=⟨g,k*6+1,none⟩) A4.out vt);have E3:=Hd (jt (a:=⟨g,k*6+1,none⟩) (to2 Bd.out hw8 fun y e=>As.out y (.inr (Bd.out.lt y e).1)) Bq.out vt);have D4:=Cel.pD2 Ap.out hk Fh.out (by rw[<-Ai.out];exact hw8) (by rw[<-Ai.out,<-At.out];exact Am);rw[Ed.out]at D4
           have Fe:=Hd D4
           obtain⟨a8,n8,c8,rfl⟩:∃a n c,vt = .slice a n c:=by rcases Am.1.2 with⟨h,_⟩|⟨_,_,_,h,_⟩<;>exact⟨_,_,_,h⟩
           clear Am D4 hw8 An D9 Ar Ai Ae Ab Ed A6 Ap Bd Bo;go_wp2_with (fail);go_roundw
           case rel=>exact⟨k+1,_,by omega,by go_num,Fe.out,fun j hj fd=>(qH (fun e=>by cases e;omega)).trans (B5.out j (by omega) fd),E3.out,Fg.out⟩
           case measure=>simp[intOf];omega
          ·have Cv:¬(k:Int)<(n:Int):=by omega
           obtain rfl:n=k:=by omega
           go_wp2_with (fail);go_roundw
           case rel=>exact⟨d+1,V',_,by have:=Dm.out;omega,by go_num,Bf.out,Bh.out,Ap.out.congr fun j hj=>by rw[cKd,qR hj],Bo.out⟩
           case measure=>simp[intOf];have:=Dm.out;omega
      ·have D8:¬(d:Int)<(D:Int):=by omega
       obtain rfl:D=d:=by omega
       have Ax:=B3.out;go_wp2_with (fail);clear y0 y1 Ax;go_loopw [13] (fun v13 wt=>∃(m:Nat) (V:Nat×Nat->Value) (y:_),m<=M/\v13 = .int .i64 m/\pR D l (D+m)=some y/\y.1.length=n/\Cel g n (celK y) V wt/\Below W0.heap.size W0 wt) (fun v13 _=>M-(intOf v13).toNat)
       case atStart=>exact⟨0,V,y,qN _,rfl,HP.out,Bh.out,HC.out,Ah.out⟩
       case round=>
        clear HP Bh HC Ah D8 hd;obtain⟨wt,E5⟩:=Xq wr;subst E5;clear y V;obtain⟨m,V,y,hm,rfl,hp,Cb,hC,hB⟩:=hrel;have HP:=Hd hp;have Bh:=Hd Cb;have HC:=Hd hC;have Ah:=Hd hB;clear hp Cb hC hB;obtain⟨y0,y1⟩:=Dv.out _ Ah.out;by_cases Cs:m<M
        ·have E7:(m:Int)<(M:Int):=by omega
         have Cq:=Hd (w33 D m (by omega) (by omega));have A9:2+D+m<l.length:=by rw[Ab.out];omega
         obtain⟨Fc,E4,el,_,De⟩:=Dx.out wt (Bt HB.out Ah.out) (2+D+m) A9;cases el
         obtain⟨z,hz⟩:=Xq (l[2+D+m])
         rw[<-hz]at De;have Cp:l.getD (2+(D+m)) Tess.w0=z:=by rw[<-jq,qE,qD A9,hz];rfl
         have Bf:=Hd (show pR D l (D+(m+1))=(Tess.metR n z).map fun x=>(y.1,y.2.1,y.2.2.1,y.2.2.2++[x]) by
          rw[<-jq];unfold pR;rw[HP.out]
          simp only[jA,qH (show ¬D+m<D by omega),Cp,Bh.out])
         have Bi:=ra12 z 4 wt (Dc.out _ (by rw[hz];exact qP _)) (by omega);have E8:((2+D+m:Nat):Int)<(l.length:Int):=Int.ofNat_lt.2 A9;have Cj:=Hd (And.intro hm Cs);obtain⟨T,hT⟩:=Xq (Tess.lP2 4 [] z)
         rw[<-hT]at Bi;have Bv:=Hd Bi;have Ca:=Hd (show Tess.metR n z=_ from(Tess.li5 n z).trans (by rw[<-hT]));have E1:=Hd (fun L (e:T=some L)=>Tess.ls2 (hT.symm.trans e));clear Bi hT hz Cp A9 hm Cs;cases T with
         |none=>
           have HN:=Hd (show Tess.rS2 D M l=none by rw[Cw.out,Tess.pRn (by rw[Bf.out,Ca.out];rfl) _ (show D+(m+1)<=D+M by have:=Cj.out;omega)];rfl);have Bu:=Cq.out;have Ax:∀x:Int,x=2+(D:Int)->wrap64 x=2+(D:Int):=fun _ e=>e▸B3.out;go_wp2_with (fail);clear Bu Ax;go_at_call 104;refine Bv.out.mono ?_;rintro e w3 ⟨⟨v3,rfl,Aj⟩,Au⟩;obtain rfl:v3 = .slice none 0 0:=Aj;have Ay:=Hd (Bt (Bt HB.out Ah.out) Au)
           clear Au;go_wp2_with (fail);go_ret2;exact RP2.none HN.out Ay.out
         |some L=>
           obtain⟨Du,D1⟩:=E1.out L rfl;have Bu:=Cq.out;have Ax:∀x:Int,x=2+(D:Int)->wrap64 x=2+(D:Int):=fun _ e=>e▸B3.out;go_wp2_with (fail);clear Bu Ax;go_at_call 104;refine Bv.out.mono ?_;rintro e w3 ⟨⟨v3,rfl,Aj⟩,Au⟩;obtain⟨Dz,Aj⟩:∃Dz,LI2 wt.heap.size v3 L Dz w3:=Aj;obtain⟨q,qc,a3,c3,rfl,A2⟩:=Aj.first (by omega);rw[Du]at Aj⊢;have B2:=Hd (HC.out.below Au);have Ay:=Hd (Bt Ah.out Au);have Cg:=Hd Aj
           have Al:=Hd (fun(i:Nat×Nat) (hi:i.1<n/\i.2<4) z (e:(V i).ownBlock=some z)=>(HC.out.low hi z e).2);have Bq:=Hd (show g<wt.heap.size from HC.out.lt);obtain⟨tb,By⟩:=Xq wt.heap.size
           rw[<-By]at Cg Al Bq;obtain⟨nL,Da⟩:=Xq ((L.getD 0 []).length)
           rw[<-Da]at A2 D1;have Di:=Ca.out;rw[jA,<-Da]at Di;have Ca:=Hd Di;clear Aj Au By HC Bv Da Di;by_cases hne:nL=n;rotate_left
           ·have Ef:((nL:Int) !=(n:Int))=true:=by rw[zj];omega
            have HN:=Hd (show Tess.rS2 D M l=none by rw[Cw.out,Tess.pRn (by rw[Bf.out,Ca.out,qH hne];rfl) _ (show D+(m+1)<=D+M by have:=Cj.out;omega)];rfl);have Ey:=Hd (Bt HB.out Ay.out);go_wp2_with (fail);go_ret2;exact RP2.none HN.out Ey.out
           subst hne;have Az:=Hd (And.intro Du D1);have Fd:=Hd (show pR D l (D+(m+1))=_ by rw[Bf.out,Ca.out,qR rfl,ji]);clear Du D1 Bf Ca;go_wp2_with (fail)
           go_loopw [15] (fun v15 wq=>∃(k:Nat) (V':Nat×Nat->Value),k<=nL/\v15 = .int .i64 k/\Cel g nL (fun j=>if j<k then Tess.pM3 (celK y j) (Tess.wO ((L.getD 0 []).getD j 0) ((L.getD 1 []).getD j 0)) ((L.getD 2 []).getD j 0) ((L.getD 3 []).getD j 0)else celK y j) V' wq/\(∀j,k<=j->∀fd,V' (j,fd)=V (j,fd))/\LI2 tb (.slice (some ⟨q,0,none⟩) 4 qc) L Dz wq/\Below W0.heap.size W0 wq) (fun v15 _=>nL-(intOf v15).toNat)
           case atStart=>exact⟨0,V,qN _,rfl,B2.out,fun _ _ _=>rfl,Cg.out,Ay.out⟩
           case round=>
            obtain⟨wq,Do⟩:=Xq wr;subst Do;obtain⟨k,V',Db,rfl,hC,Ci,hO,hB⟩:=hrel;have Ap:=Hd hC;have B5:=Hd Ci;have Cy:=Hd hO;have Bo:=Hd hB;clear hC Ci hO hB B2 Cg Ay Ah A2;by_cases hk:k<nL;rotate_left
            ·have Cv:¬(k:Int)<(nL:Int):=by omega
             obtain rfl:nL=k:=by omega
             go_wp2_with (fail);go_roundw
             case rel=>exact⟨m+1,V',_,by have:=Cj.out;omega,by go_num,Fd.out,Bh.out,Ap.out.congr fun j hj=>by rw[cKm _ _ _ _ _ _ (by rw[Az.out.2 _ (gDm Az.out.1 (by omega))];exact hj) (by rw[Az.out.2 _ (gDm Az.out.1 (by omega))];exact hj),qR hj],Bo.out⟩
             case measure=>simp[intOf];have:=Cj.out;omega
            have Cv:(k:Int)<(nL:Int):=by omega
            obtain⟨Ek,A8⟩:=Xq (fun j=>if j<k then Tess.pM3 (celK y j) (Tess.wO ((L.getD 0 []).getD j 0) ((L.getD 1 []).getD j 0)) ((L.getD 2 []).getD j 0) ((L.getD 3 []).getD j 0)else celK y j:Nat->CK×Pay)
            rw[<-A8]at Ap
            have Ds:=Hd (show(Ek k).1.2.length<=200/\(Ek k).2.sums.length<=200/\(Ek k).2.mins.length<=200/\(Ek k).2.maxs.length<=200 by
             rw[A8];simp only[qH (jC k)]
             exact cKf HP.out (by have:=Cj.out;omega))
            have C9:=Tess.uEl (fun j=>Tess.pM3 (celK y j) (Tess.wO ((L.getD 0 []).getD j 0) ((L.getD 1 []).getD j 0)) ((L.getD 2 []).getD j 0) ((L.getD 3 []).getD j 0)) (celK y) k;rw[<-A8,show celK y k=Ek k by rw[A8];simp only[qH (jC k)]]at C9;obtain⟨x0,Bs⟩:=XQ ((L.getD 0 []).getD k 0)
            obtain⟨x1,Bl⟩:=XQ ((L.getD 1 []).getD k 0)
            obtain⟨x2,Bx⟩:=XQ ((L.getD 2 []).getD k 0)
            obtain⟨x3,Bw⟩:=XQ ((L.getD 3 []).getD k 0)
            obtain⟨wl,Fb⟩:=XQ (IntKind.u64.wrap x1)
            have HW:=Hd (show wF (Tess.wO x0 x1)=[.int .i64 x0,.int .u64 wl] by rw[<-Fb];exact wFo x0 x1);rw[Bs,Bl,Bx,Bw]at C9;have E2:=Hd C9;have Dq:=Hd Bs;have Dl:=Hd Bl;have D6:=Hd Bx;have D5:=Hd Bw;clear C9 Bs Bl Bx Bw A8;have Aa:=Ap.out.fam.own (k,1) ⟨hk,by omega⟩;have Ad:∀z,(V' (k,1)).ownBlock=some z->z<tb:=fun z e=>Al.out (k,1) ⟨hk,by omega⟩ z (by rw[<-B5.out k (qC k) 1];exact e)
            obtain⟨Ac,Af⟩:=Ap.out.turn hk (fd:=1) (by omega) [.int .i64 x0,.int .u64 wl] Ad;obtain⟨va,Aq⟩:=Xq (V' (k,1))
            obtain⟨f,hf⟩:=Xq (fOf wq (V' (k,1)) (celS 1) [.int .i64 x0,.int .u64 wl])
            rw[<-hf]at Ac Af;rw[<-Aq]at Aa Af;have An:=Hd (show ∀V2,(turns f).r wq V2->V2.cell? ⟨g,k*6+3,none⟩=some va/\V2.frozen? ⟨g,k*6+3,none⟩=false from Af);obtain⟨p0,c0,Bs⟩:=Cy.out.seen Az.out.1 (i:=0) (by omega) Az.out.2 hk (fun y hy=>Ac y (.inr hy));rw[Dq.out]at Bs;have Cu:=Hd Bs;obtain⟨p1,c1,Bl⟩:=Cy.out.seen Az.out.1 (i:=1) (by omega) Az.out.2 hk (fun y hy=>Ac y (.inr hy));rw[Dl.out]at Bl
            have Ei:=Hd Bl;have Ar:=Hd (show ∀y,wq.heap.size<=y->f y=none from fun y hy=>Ac y (.inr (by have:=Cy.out.2.1.lt q rfl;omega)));have As:=Hd Ac;have Ai:=Hd hf;have At:=Hd Aq;have Ae:=Hd Aa;have Ab:=Hd (show(celL Ek (k,1)).length<=1000 from cLf 1 (fm2 Ds.out (by omega)));have A6:=Hd (show g<wq.heap.size from Ap.out.lt);clear Ac Af hf Aq Aa Ad Bs Bl;obtain⟨i0,hi,Aw,Ak,A1⟩:=zF iW
            go_wp2_with (fail)
            refine FlowR.wrf (R:=turns f) 23 (FlowR.sp3 44 (fun _=>.inl undef) (.inl ?_ :: .inl ?_ :: .inl ?_ :: .inl ?_ :: .inl ?_ :: .inl ?_ :: .inl ?_ :: .inl ?_ :: .inl ?_ :: .inl ?_ :: .inl ?_ :: .inl ?_ :: .inl ?_ :: .inl ?_ :: .inl ?_ :: .inl ?_ :: .inl ?_ :: .inl ?_ :: .inl ?_ :: .inl ?_ :: .inl ?_ :: .inr (newR wq.heap.size [.int .i64 x0,.int .u64 wl]) :: .inr (appd f wq.heap.size (g+1) (celT 1) (celS 1) ((celL Ek (k,1)).length+1) ((celL Ek (k,1)).flatten++[.int .i64 x0,.int .u64 wl]) va.ownBlock)::[])) (fun _=>0) (FlowR.so4 (by kernel_rfl)) (by kernel_rfl) (by kernel_rfl) ?_ ?_
            rotate_left 21
            ·refine FlowR.sm2 (fun x=>FlowR.mi _) ?_
             repeat(first|exact FlowR.ln2|refine FlowR.li2 ?_|refine FlowR.li3 (nRm Ar.out _) ?_|refine FlowR.li3 (am2 Ar.out) ?_)
            all_goals try simp only[qL,qY,qM,qV]
            iterate 21 (refine FlowR.tvK rfl (fun K hK=>⟨fun V hw hG=>?_,?_⟩);(have t4:=(An.out V hw).1;obtain⟨t5,t6⟩:=Cu.out V hw;obtain⟨t7,t8⟩:=Ei.out V hw;clear hG hw;unfold FlowR.Runs FlowR.yields;go_simp;try rfl);go_simp;refine hK _ ?_;clear hK K)
            (refine FlowR.tvK2 rfl (fun K hK=>⟨fun V hw hG=>?_,?_⟩);(have B1:=hw.2.2.2.1;clear hG hw;unfold FlowR.Runs FlowR.yields;go_simp;exact⟨ta3 _ _,(⟨V.heap.size,rfl,B1,by simp,fun j u hu=>by rw[qT _ _ _ _ _ _ (jY _ _)];simpa using hu⟩:newR wq.heap.size [.int .i64 x0,.int .u64 wl] (.slice (some ⟨V.heap.size,0,none⟩) 1 1) (V.alloc _))⟩);intro vn;go_simp;refine hK _ _ ?_;clear hK K)
            (refine FlowR.tvK2 rfl (fun K hK=>⟨fun V hw hG=>?_,?_⟩);(have A5:=(show newR wq.heap.size [.int .i64 x0,.int .u64 wl] vn V by simpa[FlowR.upd]using hG 21 (by kernel_rfl));have Ag:=Ab.out;obtain⟨v',V2,Ao,Bj,Br⟩:=ta4 (P:=Tryz.prog) (t:=54) (ty:=54) Tryz.underlying54 hi Aw Ak A1 rfl (by decide) hw Ae.out (fun y e=>by rw[Ai.out,At.out];rfl) rfl (by intro u hu;simp only[qm,zG,jr]at hu;rcases hu with rfl|rfl<;>rfl) (by unfold maxLen;omega) (by omega) A6.out A5;clear hG hw A5;exact ra2 (t:=54) (.tmp 147) (.tmp 162) rfl rfl rfl rfl Ao Bj Br);intro vt;go_simp;refine hK _ _ ?_;clear hK K)
            refine FlowR.tn2 fun w8 hw8 hG=>?_;have Am:=(show appd f wq.heap.size (g+1) (celT 1) (celS 1) ((celL Ek (k,1)).length+1) ((celL Ek (k,1)).flatten++[.int .i64 x0,.int .u64 wl]) va.ownBlock vt w8 by simpa[FlowR.upd]using hG 22)
            clear hG;obtain⟨q1,q2⟩:=An.out w8 hw8;have Bc:=Hd ((Bn Bo.out hw8 (qC _) fun y hy=>As.out y (.inl (by have:=A4.out;omega))).setCell (p:=⟨g,k*6+3,none⟩) A4.out vt);have Cz:=Hd ((Cy.out.turn hw8 fun y hy=>As.out y (.inr hy)).set Bq.out vt (i:=k*6+3));have hc:=Ap.out.pS3 hk HW.out (by rw[<-Ai.out];exact hw8) (by rw[<-Ai.out,<-At.out];exact Am);have Bk:=Hd hc
            obtain⟨a8,n8,c8,rfl⟩:∃a n c,vt = .slice a n c:=by rcases Am.1.2 with⟨h,_⟩|⟨_,_,_,h,_⟩<;>exact⟨_,_,_,h⟩
            clear Am hc hw8 An Ar As Ai At Ae Ab A6 Cu Ei Ap Cy Bo hi Aw Ak A1;go_wp2_with (fail);obtain⟨wA,Cl⟩:=XQ (w8.setCell ⟨g,k*6+3,none⟩ (.slice a8 n8 c8))
            rw[Cl]at Bc Cz Bk⊢;obtain⟨VA,Bb⟩:=Xq (fun i=>if i=(k,1)then .slice a8 n8 c8 else V' i:Nat×Nat->Value)
            rw[<-Bb]at Bk;have Df:=Hd (show(∀fd,1<fd->VA (k,fd)=V (k,fd))/\∀j,k+1<=j->∀fd,VA (j,fd)=V (j,fd)from⟨fun fd hfd=>by rw[Bb];exact(qH (fun e=>by cases e;omega)).trans (B5.out k (qC k) fd),fun j hj fd=>by rw[Bb];exact(qH (fun e=>by cases e;omega)).trans (B5.out j (by omega) fd)⟩);clear Cl Bb q1 q2;have Aa:=Bk.out.fam.own (k,2) ⟨hk,by omega⟩
            have Ad:∀z,(VA (k,2)).ownBlock=some z->z<tb:=fun z e=>Al.out (k,2) ⟨hk,by omega⟩ z (by rw[<-Df.out.1 2 (by omega)];exact e);obtain⟨Ac,Af⟩:=Bk.out.turn hk (fd:=2) (by omega) [.int .i64 x2] Ad;obtain⟨va,Aq⟩:=Xq (VA (k,2))
            obtain⟨f,hf⟩:=Xq (fOf wA (VA (k,2)) (celS 2) [.int .i64 x2])
            rw[<-hf]at Ac Af;rw[<-Aq]at Aa Af;have An:=Hd (show ∀V2,(turns f).r wA V2->V2.cell? ⟨g,k*6+4,none⟩=some va/\V2.frozen? ⟨g,k*6+4,none⟩=false from Af);obtain⟨p2,c2,Bx⟩:=Cz.out.seen Az.out.1 (i:=2) (by omega) Az.out.2 hk (fun y hy=>Ac y (.inr hy));rw[D6.out]at Bx;have Ex:=Hd Bx;have Ar:=Hd (show ∀y,wA.heap.size<=y->f y=none from fun y hy=>Ac y (.inr (by have:=Cz.out.2.1.lt q rfl;omega)))
            have As:=Hd Ac;have Ai:=Hd hf;have At:=Hd Aq;have Ae:=Hd Aa;have Ab:=Hd (show(celL (upE Ek k (Tess.pS3 (Ek k) (Tess.wO x0 x1))) (k,2)).length<=1000 from cLf 2 (fm2 (by rw[Tess.uEs];exact fpS Ds.out) (by omega)));have A6:=Hd (show g<wA.heap.size from Bk.out.lt);clear Ac Af hf Aq Aa Ad Bx;obtain⟨i0,hi,Aw,Ak,A1⟩:=zF iI;skip
            refine FlowR.wrf (R:=turns f) 15 (FlowR.sp3 44 (fun _=>.inl undef) (.inl ?_ :: .inl ?_ :: .inl ?_ :: .inl ?_ :: .inl ?_ :: .inl ?_ :: .inl ?_ :: .inl ?_ :: .inl ?_ :: .inl ?_ :: .inl ?_ :: .inl ?_ :: .inl ?_ :: .inr (newR wA.heap.size [.int .i64 x2]) :: .inr (appd f wA.heap.size (g+1) (celT 2) (celS 2) ((celL (upE Ek k (Tess.pS3 (Ek k) (Tess.wO x0 x1))) (k,2)).length+1) ((celL (upE Ek k (Tess.pS3 (Ek k) (Tess.wO x0 x1))) (k,2)).flatten++[.int .i64 x2]) va.ownBlock)::[])) (fun _=>0) (FlowR.so4 (by kernel_rfl)) (by kernel_rfl) (by kernel_rfl) ?_ ?_
            rotate_left 13
            ·refine FlowR.sm2 (fun x=>FlowR.mi _) ?_
             repeat(first|exact FlowR.ln2|refine FlowR.li2 ?_|refine FlowR.li3 (nRm Ar.out _) ?_|refine FlowR.li3 (am2 Ar.out) ?_)
            all_goals try simp only[qL,qY,qM,qV]
            iterate 13 (refine FlowR.tvK rfl (fun K hK=>⟨fun V hw hG=>?_,?_⟩);(have t4:=(An.out V hw).1;obtain⟨t5,t6⟩:=Ex.out V hw;clear hG hw;unfold FlowR.Runs FlowR.yields;go_simp;try rfl);go_simp;refine hK _ ?_;clear hK K)
            (refine FlowR.tvK2 rfl (fun K hK=>⟨fun V hw hG=>?_,?_⟩);(have B1:=hw.2.2.2.1;clear hG hw;unfold FlowR.Runs FlowR.yields;go_simp;exact⟨ta3 _ _,(⟨V.heap.size,rfl,B1,by simp,fun j u hu=>by rw[qT _ _ _ _ _ _ (jY _ _)];simpa using hu⟩:newR wA.heap.size [.int .i64 x2] (.slice (some ⟨V.heap.size,0,none⟩) 1 1) (V.alloc _))⟩);intro vn;go_simp;refine hK _ _ ?_;clear hK K)
            (refine FlowR.tvK2 rfl (fun K hK=>⟨fun V hw hG=>?_,?_⟩);(have A5:=(show newR wA.heap.size [.int .i64 x2] vn V by simpa[FlowR.upd]using hG 13 (by kernel_rfl));have Ag:=Ab.out;obtain⟨v',V2,Ao,Bj,Br⟩:=ta4 (P:=Tryz.prog) (t:=49) (ty:=49) Tryz.underlying49 hi Aw Ak A1 rfl (by decide) hw Ae.out (fun y e=>by rw[Ai.out,At.out];rfl) rfl (by intro u hu;simp only[qm,zG,jr]at hu;rcases hu with rfl;rfl) (by unfold maxLen;omega) (by omega) A6.out A5;clear hG hw A5;exact ra2 (t:=49) (.tmp 172) (.tmp 179) rfl rfl rfl rfl Ao Bj Br);intro vt;go_simp;refine hK _ _ ?_;clear hK K)
            refine FlowR.tn2 fun w9 hw8 hG=>?_;have Am:=(show appd f wA.heap.size (g+1) (celT 2) (celS 2) ((celL (upE Ek k (Tess.pS3 (Ek k) (Tess.wO x0 x1))) (k,2)).length+1) ((celL (upE Ek k (Tess.pS3 (Ek k) (Tess.wO x0 x1))) (k,2)).flatten++[.int .i64 x2]) va.ownBlock vt w9 by simpa[FlowR.upd]using hG 14)
            clear hG;obtain⟨q1,q2⟩:=An.out w9 hw8;have B9:=Hd ((Bn Bc.out hw8 (qC _) fun y hy=>As.out y (.inl (by have:=A4.out;omega))).setCell (p:=⟨g,k*6+4,none⟩) A4.out vt);have Cr:=Hd ((Cz.out.turn hw8 fun y hy=>As.out y (.inr hy)).set Bq.out vt (i:=k*6+4));have hc:=Bk.out.pM hk (z:=x2) (by rw[<-Ai.out];exact hw8) (by rw[<-Ai.out,<-At.out];exact Am);rw[Tess.uEs,Tess.uEt]at hc;have Bz:=Hd hc
            obtain⟨a8,n8,c8,rfl⟩:∃a n c,vt = .slice a n c:=by rcases Am.1.2 with⟨h,_⟩|⟨_,_,_,h,_⟩<;>exact⟨_,_,_,h⟩
            clear Am hc hw8 An Ar As Ai At Ae Ab A6 Ex Bk Cz Bc hi Aw Ak A1;go_wp2_with (fail);obtain⟨wB,Cl⟩:=XQ (w9.setCell ⟨g,k*6+4,none⟩ (.slice a8 n8 c8))
            rw[Cl]at B9 Cr Bz⊢;obtain⟨VB,Bb⟩:=Xq (fun i=>if i=(k,2)then .slice a8 n8 c8 else VA i:Nat×Nat->Value)
            rw[<-Bb]at Bz;have Ep:=Hd (show(∀fd,2<fd->VB (k,fd)=V (k,fd))/\∀j,k+1<=j->∀fd,VB (j,fd)=V (j,fd)from⟨fun fd hfd=>by rw[Bb];exact(qH (fun e=>by cases e;omega)).trans (Df.out.1 fd (by omega)),fun j hj fd=>by rw[Bb];exact(qH (fun e=>by cases e;omega)).trans (Df.out.2 j hj fd)⟩);clear Cl Bb q1 q2;have Aa:=Bz.out.fam.own (k,3) ⟨hk,by omega⟩
            have Ad:∀z,(VB (k,3)).ownBlock=some z->z<tb:=fun z e=>Al.out (k,3) ⟨hk,by omega⟩ z (by rw[<-Ep.out.1 3 (by omega)];exact e);obtain⟨Ac,Af⟩:=Bz.out.turn hk (fd:=3) (by omega) [.int .i64 x3] Ad;obtain⟨va,Aq⟩:=Xq (VB (k,3))
            obtain⟨f,hf⟩:=Xq (fOf wB (VB (k,3)) (celS 3) [.int .i64 x3])
            rw[<-hf]at Ac Af;rw[<-Aq]at Aa Af;have An:=Hd (show ∀V2,(turns f).r wB V2->V2.cell? ⟨g,k*6+5,none⟩=some va/\V2.frozen? ⟨g,k*6+5,none⟩=false from Af);obtain⟨p3,c3,Bw⟩:=Cr.out.seen Az.out.1 (i:=3) (by omega) Az.out.2 hk (fun y hy=>Ac y (.inr hy));rw[D5.out]at Bw;have Ee:=Hd Bw;have Ar:=Hd (show ∀y,wB.heap.size<=y->f y=none from fun y hy=>Ac y (.inr (by have:=Cr.out.2.1.lt q rfl;omega)))
            have As:=Hd Ac;have Ai:=Hd hf;have At:=Hd Aq;have Ae:=Hd Aa;have Ab:=Hd (show(celL (upE Ek k (Tess.pM (Tess.pS3 (Ek k) (Tess.wO x0 x1)) x2)) (k,3)).length<=1000 from cLf 3 (fm2 (by rw[Tess.uEs];exact fpM (fpS Ds.out)) (by omega)));have A6:=Hd (show g<wB.heap.size from Bz.out.lt);clear Ac Af hf Aq Aa Ad Bw;obtain⟨i0,hi,Aw,Ak,A1⟩:=zF iI;skip
            refine FlowR.wrf (R:=turns f) 15 (FlowR.sp3 44 (fun _=>.inl undef) (.inl ?_ :: .inl ?_ :: .inl ?_ :: .inl ?_ :: .inl ?_ :: .inl ?_ :: .inl ?_ :: .inl ?_ :: .inl ?_ :: .inl ?_ :: .inl ?_ :: .inl ?_ :: .inl ?_ :: .inr (newR wB.heap.size [.int .i64 x3]) :: .inr (appd f wB.heap.size (g+1) (celT 3) (celS 3) ((celL (upE Ek k (Tess.pM (Tess.pS3 (Ek k) (Tess.wO x0 x1)) x2)) (k,3)).length+1) ((celL (upE Ek k (Tess.pM (Tess.pS3 (Ek k) (Tess.wO x0 x1)) x2)) (k,3)).flatten++[.int .i64 x3]) va.ownBlock)::[])) (fun _=>0) (FlowR.so4 (by kernel_rfl)) (by kernel_rfl) (by kernel_rfl) ?_ ?_
            rotate_left 13
            ·refine FlowR.sm2 (fun x=>FlowR.mi _) ?_
             repeat(first|exact FlowR.ln2|refine FlowR.li2 ?_|refine FlowR.li3 (nRm Ar.out _) ?_|refine FlowR.li3 (am2 Ar.out) ?_)
            all_goals try simp only[qL,qY,qM,qV]
            iterate 13 (refine FlowR.tvK rfl (fun K hK=>⟨fun V hw hG=>?_,?_⟩);(have t4:=(An.out V hw).1;obtain⟨t5,t6⟩:=Ee.out V hw;clear hG hw;unfold FlowR.Runs FlowR.yields;go_simp;try rfl);go_simp;refine hK _ ?_;clear hK K)
            (refine FlowR.tvK2 rfl (fun K hK=>⟨fun V hw hG=>?_,?_⟩);(have B1:=hw.2.2.2.1;clear hG hw;unfold FlowR.Runs FlowR.yields;go_simp;exact⟨ta3 _ _,(⟨V.heap.size,rfl,B1,by simp,fun j u hu=>by rw[qT _ _ _ _ _ _ (jY _ _)];simpa using hu⟩:newR wB.heap.size [.int .i64 x3] (.slice (some ⟨V.heap.size,0,none⟩) 1 1) (V.alloc _))⟩);intro vn;go_simp;refine hK _ _ ?_;clear hK K)
            (refine FlowR.tvK2 rfl (fun K hK=>⟨fun V hw hG=>?_,?_⟩);(have A5:=(show newR wB.heap.size [.int .i64 x3] vn V by simpa[FlowR.upd]using hG 13 (by kernel_rfl));have Ag:=Ab.out;obtain⟨v',V2,Ao,Bj,Br⟩:=ta4 (P:=Tryz.prog) (t:=49) (ty:=49) Tryz.underlying49 hi Aw Ak A1 rfl (by decide) hw Ae.out (fun y e=>by rw[Ai.out,At.out];rfl) rfl (by intro u hu;simp only[qm,zG,jr]at hu;rcases hu with rfl;rfl) (by unfold maxLen;omega) (by omega) A6.out A5;clear hG hw A5;exact ra2 (t:=49) (.tmp 189) (.tmp 196) rfl rfl rfl rfl Ao Bj Br);intro vt;go_simp;refine hK _ _ ?_;clear hK K)
            refine FlowR.tn2 fun w10 hw8 hG=>?_;have Am:=(show appd f wB.heap.size (g+1) (celT 3) (celS 3) ((celL (upE Ek k (Tess.pM (Tess.pS3 (Ek k) (Tess.wO x0 x1)) x2)) (k,3)).length+1) ((celL (upE Ek k (Tess.pM (Tess.pS3 (Ek k) (Tess.wO x0 x1)) x2)) (k,3)).flatten++[.int .i64 x3]) va.ownBlock vt w10 by simpa[FlowR.upd]using hG 14)
            clear hG;obtain⟨q1,q2⟩:=An.out w10 hw8;have Ay:=Hd ((Bn B9.out hw8 (qC _) fun y hy=>As.out y (.inl (by have:=A4.out;omega))).setCell (p:=⟨g,k*6+5,none⟩) A4.out vt);have Cg:=Hd ((Cr.out.turn hw8 fun y hy=>As.out y (.inr hy)).set Bq.out vt (i:=k*6+5));have hc:=Bz.out.pM2 hk (z:=x3) (by rw[<-Ai.out];exact hw8) (by rw[<-Ai.out,<-At.out];exact Am)
            rw[Tess.uEs,Tess.uEt,show Tess.pM2 (Tess.pM (Tess.pS3 (Ek k) (Tess.wO x0 x1)) x2) x3=Tess.pM3 (Ek k) (Tess.wO x0 x1) x2 x3 from rfl,E2.out]at hc;have B2:=Hd hc
            obtain⟨a8,n8,c8,rfl⟩:∃a n c,vt = .slice a n c:=by rcases Am.1.2 with⟨h,_⟩|⟨_,_,_,h,_⟩<;>exact⟨_,_,_,h⟩
            clear Am hc hw8 An Ar As Ai At Ae Ab A6 Ee Bz Cr B9 hi Aw Ak A1;go_wp2_with (fail);go_roundw
            case rel=>exact⟨k+1,_,by omega,by go_num,B2.out,fun j hj fd=>(qH (fun e=>by cases e;omega)).trans (Ep.out.2 j hj fd),Cg.out,Ay.out⟩
            case measure=>simp[intOf];omega
        ·have E7:¬(m:Int)<(M:Int):=by omega
         obtain rfl:M=m:=by omega
         go_wp2_with (fail);go_ret2;have he:=Cw.out;rw[HP.out,ji]at he;unfold RP2;rw[he];refine⟨⟨.slice (some ⟨g,0,none⟩) n n,rfl,(fun h=>by cases h),fun C e=>?_⟩,Bt HB.out Ah.out⟩;cases e
         have hl:((List.range y.1.length).map (celK y)).length=n:=by rw[qX,xK,Bh.out]
         exact⟨g,celK y,V,by rw[hl],by rw[hl];exact HC.out,qt HB.out.size A4.out,fun k hk=>by rw[zL,yU]⟩
end Go.Proofs.Q9
namespace Go.Proofs.Q9
open Go.RowKit Go.Sort
open Tess (CK Pay)
theorem ra47(p:Nat->Prop)(vl:Value)(C:List (CK×Pay))(i:Nat)(w:World)(hv:CA2 p w vl C)(hi:∀x∈C,i<x.1.2.length)(hC:C.length<=1000)(hs:∀x∈Tess.dW C i,x.size<=100) :
  Calls Tryz.prog 46 #[vl,.int .i64 i] w fun e w'=>∃v,e = .returned v/\SlOf w' v ((Tess.dO2 C i).map .string)/\Below w.heap.size w w':=by
 obtain⟨a,At,rfl,hl,hc⟩:=hv.opened;have HC:=Hd hc;have HI:=Hd hi;have HS:=Hd hs;obtain⟨i0,Aq,Ak,As,Ah⟩:=zF diS;clear hc hv hi hs;go_enter Tryz.func46,Tryz.ntmps46;go_wp2;go_loopw [5,6] (fun v j wr=>∃k:Nat,k<=C.length/\j = .int .i64 k/\wr.ownsRow w.heap.size 9 1 v (Tess.dW (C.take k) i).length ((Tess.dW (C.take k) i).map .string)/\Below w.heap.size w wr) (fun _ j _=>C.length-(intOf j).toNat)
 case atStart=>exact⟨0,qN _,rfl,qg _ _ _ _,qJ _ _⟩
 case round=>
  obtain⟨k,hk,rfl,Ac,hB⟩:=hrel;have HO:=Hd Ac;have HB:=Hd hB;clear Ac;by_cases hlt:k<C.length
  ·obtain⟨b,Au,ad,cd,a3,c3,a4,c4,a5,c5,rfl,hb,⟨q0,q1,q2,q3,q4,q5⟩,Ae,_⟩:=HC.out wr hB k hlt;have Al:(k:Int)<(C.length:Int):=by omega
   have HM:=Hd (show C[k]∈C from qP hlt);have Ad:=HI.out _ HM.out;have HW:=Hd (Tess.dWt C i k hlt);generalize C[k]=x at *;obtain⟨⟨t,l⟩,P⟩:=x;dsimp only at q0 q1 q2 q3 q4 q5 Ae Ad HW;obtain⟨b2,Ai,rfl,Av,e0,e1⟩:=Ae i (by simpa using Ad);rw[zL]at e0 e1;have Af:l.getD i none=l[i]:=by rw[qE,qD Ad];rfl
   rw[Af]at HW;have Ao:(i:Int)<(l.length:Int):=by omega
   generalize l[i]=d at *;clear Ae Ad Af q0 q2 q3 q4 q5 hB;cases d with
   |none=>
     have HW:=Hd (HW.out.trans (zZ _));change wr.cell? _=some (.string ByteArray.empty)at e0;change wr.cell? _=some (.bool true)at e1;go_wp2_with (fail);go_roundw
     case rel=>exact⟨k+1,by omega,by go_num,by rw[HW.out];exact HO.out,HB.out⟩
     case measure=>simp[intOf];omega
   |some y=>
     have Ag:=Hd (show(Tess.dW (C.take k) i).length<=1000 by
      have:(Tess.dW (C.take k) i).length<=(C.take k).length:=je _ _;rw[qy]at this
      omega)
     change wr.cell? _=some (.string y)at e0;change wr.cell? _=some (.bool false)at e1
     go_wp2_with (at_builtin;refine qq _ rfl _ _ 22 rfl w.heap.size 9 i0 (.string ByteArray.empty) 1 16 Tryz.underlying22 Aq Ak As Ah rfl (by decide) _ _ _ rfl (HO.out.alloc _) ⟨wr.heap.size,0,none⟩ 1 1 [.string y] rfl rfl (zh _ _ _) (by simp[Value.oneCell']) (by have:=Ag.out;unfold maxLen;omega) (by have:=Ag.out;omega) (by have:=HB.out.size;simp;omega) ?_);intro v' w5 Ab Aa _
     have Ar:=Hd ((HB.out.alloc HB.out.size (.cells #[.string y] 9)).grown Aa (by have:=HB.out.size;simp;omega) (fun m e=>(HO.out.lt m e).1));have An:=Hd Ab;clear Ab Aa;go_wp2_with (fail);go_roundw
     case rel=>exact⟨k+1,by omega,by go_num,by rw[HW.out,qI,qs];exact An.out,Ar.out⟩
     case measure=>simp[intOf];omega
  ·have Al:¬(k:Int)<(C.length:Int):=by omega
   obtain rfl:k=C.length:=by omega
   rw[jy]at HO
   have hb:=ra51 _ (Tess.dW C i) wr (SlOf.owned HO.out) (fun y hy=>by have:=HS.out y hy;unfold maxLen;omega) (by
    have:(Tess.dW C i).length<=C.length:=je _ _
    omega)
   unfold BP at hb
   rw[Tess.bWs _ HS.out (by
    have:(Tess.dW C i).length<=C.length:=je _ _
    omega)]at hb
   have Ap:=Hd hb;clear hb hB;go_wp2_with (go_at_call 97;refine Ap.out.mono ?_;rintro e w2 ⟨v2,rfl,Aj,Am⟩);go_ret;exact⟨v2,rfl,Aj,Bt HB.out Am⟩
theorem ra64(vd:Value)(d:List ByteArray)(dv:Tess.DV)(w:World)(hd:SlOf w vd (d.map .string))(hr:Tess.right d=true)(hz:∀y∈d,y.size<=maxLen) :
  Calls Tryz.prog 47 #[vd,.agg #[.string (Tess.valOf dv).s,.bool (Tess.valOf dv).null]] w fun e w'=>e = .returned (.int .i64 (Tess.idOf d dv:Nat))/\Below w.heap.size w w':=by
 cases dv with
 |none=>
   rw[show Tess.idOf d none=d.length from rfl];show Calls _ _ #[vd,.agg #[.string ByteArray.empty,.bool true]] _ _;obtain⟨ad,cd,rfl,Ae,_⟩:=so2 hd;obtain⟨W0,Aa⟩:=XQ (w.alloc (.cells #[.string ByteArray.empty,.bool true] 47))
   obtain⟨k0,kS,kB⟩:=la2 w (.cells #[.string ByteArray.empty,.bool true] 47);rw[Aa]at k0 kS kB;obtain⟨⟨x0,x1⟩,_⟩:=can2 k0;have HB:=Hd kB;clear k0 kS kB hd hz;go_enter Tryz.func47,Tryz.ntmps47;go_wp2_with (fail);go_ret;exact⟨rfl,HB.out⟩
 |some y=>
   rw[show Tess.idOf d (some y)=Tess.place d y from rfl];show Calls _ _ #[vd,.agg #[.string y,.bool false]] _ _;obtain⟨W0,Aa⟩:=XQ (w.alloc (.cells #[.string y,.bool false] 47))
   obtain⟨k0,kS,kB⟩:=la2 w (.cells #[.string y,.bool false] 47);rw[Aa]at k0 kS kB;have hf:=ra63 vd d y W0 (hd.below kB) hz;unfold FP at hf;rw[fi2 hr y]at hf;obtain⟨pl,Ab⟩:=Xq (Tess.place d y)
   rw[<-Ab]at hf⊢;have HF:=Hd hf;obtain⟨ad,cd,rfl,Ae,_⟩:=so2 hd;obtain⟨⟨x0,x1⟩,_⟩:=can2 k0;have HB:=Hd kB;clear k0 kS kB hd hz hf Ab;go_enter Tryz.func47,Tryz.ntmps47;go_wp2_with (fail);go_at_call 98;refine HF.out.mono ?_;rintro e w1 ⟨rfl,Ac⟩;have Ad:=Hd (Bt HB.out Ac);clear Ac;go_wp2_with (fail);go_ret;exact⟨rfl,Ad.out⟩
