/- Are cells right? The program's Right, walked, where they are. -/
import Derived.Test.YtjdccifdkjnknaaGreatDoorZC28
set_option maxRecDepth 100000
set_option maxHeartbeats 4000000
namespace Go.Proofs.Q9
open Go.RowKit Go.Sort Go.Shelf
open Tess (CK Pay PO CO2 CO ckLt)
open Tess.Kl (Asc)
attribute [local go_sem] jK
theorem below_grow{w w':World}(h:∃q os,w'=grow (w.drewN q) os):Below w.heap.size w w':=by obtain⟨q,os,rfl⟩:=h;exact below_grown_sl w.heap.size w q os (qC _)
theorem ra55(p:Nat->Prop)(vs va:Value)(s:Tess.Sch)(C:List (CK×Pay))(w:World)(hs:SA p w vs s)(hv:CA2 p w va C)(hok:CO s C) :
  Calls Tryz.prog 17 #[vs,va] w fun e w'=>e = .returned (.bool true)/\Below w.heap.size w w':=by
 obtain⟨a,c,rfl,Al,us,A8⟩:=LA.rows hv;have HR:=Hd (fun W (hB:Below w.heap.size w W)=>sRa vs s p W (hs.ag (Ag.new p hB)));rw[hok.sch]at HR;have Bd:=hs;obtain⟨vd,vm,rfl,hd,hm,_,_⟩:=hs;obtain⟨ad,Ai,rfl,_⟩:=sl3 hd;obtain⟨am,Ah,rfl,_⟩:=sl3 hm;have A0:=Hd A8;have Cf:=hok.len
 have Ak:=Hd (fun W (hB:Below w.heap.size w W) (hbx:W.heap[w.heap.size]?=some (.cells #[.slice ad s.dims.length Ai,.slice am s.mets.length Ah,.int .i64 s.grain] 24 (0,0)))=>cr2 w.heap.size (fun _=>false) C a c W Al (fun k hk=>by
  obtain⟨e6,hR,b,Ac,ha,hb,hp,Aa⟩:=A8 k hk;obtain⟨y0,y1,y2,y3,y4,y5,ey⟩:=six e6;rw[ey]at Aa hR;refine⟨b,Ac,ha,qF hb hB.size,y0,y1,y2,y3,y4,y5,⟨?_,?_,?_,?_,?_,?_⟩,fun W' hW'=>?_⟩
  ·exact(hB.cell (p:=⟨b,Ac+k*6,none⟩) hb).trans (Aa 0 (by omega))
  ·exact(hB.cell (p:=⟨b,Ac+k*6+1,none⟩) hb).trans (Aa 1 (by omega))
  ·exact(hB.cell (p:=⟨b,Ac+k*6+2,none⟩) hb).trans (Aa 2 (by omega))
  ·exact(hB.cell (p:=⟨b,Ac+k*6+3,none⟩) hb).trans (Aa 3 (by omega))
  ·exact(hB.cell (p:=⟨b,Ac+k*6+4,none⟩) hb).trans (Aa 4 (by omega))
  ·exact(hB.cell (p:=⟨b,Ac+k*6+5,none⟩) hb).trans (Aa 5 (by omega))
  ·have Bc:=Bt hB hW'
   exact ra46 w.heap.size p [_,_,_] _ s C[k] W' ((hW'.block _ (qA.1 hbx).1).trans hbx) (Bd.ag (Ag.new p Bc)) (hR.ag (Ag.new p Bc)) hok.sch (hok.each _ (qP hk))))
 have Am:C.any (fun _=>false)=false:=by simp
 rw[Am]at Ak;have Bz:=Hd (show ∀k (h1:k<C.length) (h2:k+1<C.length),ckLt C[k].1 C[k+1].1=true from fun k h1 h2=>(xU.1 hok.asc) k (k+1) h1 h2 (by omega));have Cg:decide ((1000:Int)<(C.length:Int))=false:=qG (by omega);clear Bd hd hm hv A8 Al Am hok;obtain⟨W0,Bg⟩:=XQ (w.alloc (.cells #[.slice ad s.dims.length Ai,.slice am s.mets.length Ah,.int .i64 s.grain] 24))
 obtain⟨k0,kS,kB⟩:=la2 w (.cells #[.slice ad s.dims.length Ai,.slice am s.mets.length Ah,.int .i64 s.grain] 24);rw[Bg]at k0 kS kB;obtain⟨⟨x0,x1,x2⟩,_⟩:=can3 k0;have K0:=Hd k0;have KB:=Hd kB;clear k0 kS kB;refine(qZ (n:=5)).1 ?_;refine jL Tryz.func17 rfl trivial ?_ rfl;simp only[Tryz.ntmps17,qu,qU,zE,Nat.reduceAdd,Nat.reduceSub,qv,qw,zO,zC,qr,qk];gi_wp2;refine Rf.wIs ?_
 gi_wp2_with (refine⟨trivial,?_⟩;gi_at_call 23;refine(qZ.2 (HR.out _ KB.out)).mono ?_;rintro e w1 ⟨rfl,At⟩;have Be:=Hd (Bt KB.out At);have K1:=Hd ((At.block _ (qA.1 K0.out).1).trans K0.out);clear At x0 x1 x2);gi_wp2_with (refine⟨trivial,?_⟩;gi_at_call 36;refine(qZ.2 (Ak.out _ Be.out K1.out)).mono ?_;rintro e w2 ⟨rfl,Bs⟩;have Bq:=Hd (Bt Be.out Bs);clear Bs)
 obtain⟨W3,Ba⟩:=XQ (w2.alloc (.cells #[.bool true] 4))
 obtain⟨k3,A1,A3⟩:=la2 w2 (.cells #[.bool true] 4);rw[Ba]at k3 A1 A3⊢;refine qAm ?_;gi_wp2_with (refine⟨trivial,?_⟩;gi_at_call 39;refine(qZ.2 (pa5 a C.length c _)).mono ?_;rintro e w4 ⟨rfl,rfl⟩);obtain⟨W4,Br⟩:=XQ (W3.alloc (.cells #[.slice a C.length c] 28))
 obtain⟨k4,Bj,Aq⟩:=la2 W3 (.cells #[.slice a C.length c] 28);rw[Br]at k4 Bj Aq⊢;have Ax:=(Aq.block _ (by omega)).trans k3;have Ap:=Bt Bq.out (Bt A3 Aq);obtain⟨N,hN⟩:=XQ w2.heap.size
 rw[hN]at Ax A1;rw[A1]at k4 Bj;have B7:W4.heap.size=N+2:=by omega
 have Ce:w.heap.size<=N:=by have:=Bq.out.size;omega
 have B4:=Hd (pi2 C.length (by omega) us a c (N+1) (fun x=>(p x/\x<w.heap.size)∨x=N+1) W4 (qT _ _ 0 _ _ _ k4) (.inr rfl) (fun j hj=>by
  obtain⟨e6,_,b,Ac,ha,hb,hp,Aa⟩:=A0.out j hj
  exact⟨e6,b,Ac,ha,qF hb Ap.size,.inl ⟨hp,hb⟩,fun i hi=>(Ap.cell (p:=⟨b,Ac+j*6+i,none⟩) hb).trans (Aa i hi)⟩))
 have Cc:=Hd Ax;have K4:=Hd k4;have Bi:=Hd Ap;clear k3 k4 Ax A3 Aq Ap;rw[hN];refine Rf.rw3 (gf:=90) (lb:=#[.pointer (some ⟨N+1,0,none⟩)]) rfl (yd Tryz.func90 (by kernel_rfl) rfl) ?_;intro fn W5 hL hD Bp Bb;have Ad:Below W4.heap.size W4 W5:=Bp;rw[B7]at hL hD Bb⊢;obtain⟨Ab,Ae,hL⟩:∃Ab:Loop,Ab=_/\W5.heap[N+2+1]?=some (.loop Ab):=⟨_,rfl,hL⟩
 have Aw:=Hd Ae;have Az:Ab.state = .ready/\Ab.params.size=2/\Ab.pending=none:=by rw[Ae];exact⟨rfl,rfl,rfl⟩
 clear Ae;obtain⟨Az,Bu,B8⟩:=Az;obtain⟨J,hJ⟩:=Xq (fun k X=>X.heap[N]?=some (.cells #[.bool true] 4 (0,0))/\X.heap[N+1]?=some (.cells #[.slice a C.length c] 28 (0,0))/\X.heap[N+2]?=some (.deferred (some []))/\X.heap[N+2+1]?=some (.loop Ab)/\Below w.heap.size w X:Nat->World->Prop)
 have HJ:RowKit.Hid (∀k X,J k X↔(X.heap[N]?=some (.cells #[.bool true] 4 (0,0))/\X.heap[N+1]?=some (.cells #[.slice a C.length c] 28 (0,0))/\X.heap[N+2]?=some (.deferred (some []))/\X.heap[N+2+1]?=some (.loop Ab)/\Below w.heap.size w X)):=Hd fun k X=>by rw[hJ]
 have B5:J 0 W5:=(HJ.out _ _).2 ⟨(Ad.block _ (by omega)).trans Cc.out,(Ad.block _ (by omega)).trans K4.out,hD,hL,Bt Bi.out Ad⟩;clear hJ Bp Ad hL hD Bb Ba Br Bg;refine qZ.2 ((B4.out (N+2+1) Ab.fn (fun v=>(Ab.params.zip v).foldl (fun tmps (t,a)=>tmps.setIfInBounds t a) Ab.tmps) Ab.assign Ab.body J ?_ ?_ ?_ ?_ ?_ W5 B5).mono ?_)
 ·intro k X X' h hb;obtain⟨h2,h3,h4,h5,h6⟩:=(HJ.out _ _).1 h;exact(HJ.out _ _).2 ⟨(hb.block _ (qA.1 h2).1).trans h2,(hb.block _ (qA.1 h3).1).trans h3,(hb.block _ (qA.1 h4).1).trans h4,(hb.block _ (qA.1 h5).1).trans h5,Bt h6 hb⟩
 ·intro k X X' l' o h Ch ho hc hs;obtain⟨h2,h3,h4,h5,h6⟩:=(HJ.out _ _).1 h;exact(HJ.out _ _).2 ⟨(hs.block _ (by omega)).trans h2,(hs.block _ (by omega)).trans h3,(hs.block _ (by omega)).trans h4,(hs.block _ (by omega)).trans h5,h6.trans (hs.below (by omega))⟩
 ·intro k X h;obtain⟨h2,h3,h4,h5,h6⟩:=(HJ.out _ _).1 h;have hx:=(qA.1 h5).1;refine⟨hx,by omega,fun x hxl Bl=>?_⟩;rcases Bl with⟨Bl,Bh⟩|rfl
  ·exact(h6.block x Bh).trans (Bi.out.block x Bh).symm
  ·exact h3.trans K4.out.symm
 ·intro k X h z hz;obtain⟨h2,h3,h4,h5,h6⟩:=(HJ.out _ _).1 h;exact xJ h5 (by rw[Bu,hz])
 ·intro k X hk h;obtain⟨h2,h3,h4,h5,h6⟩:=(HJ.out _ _).1 h;rw[qX,xK]at hk;have Ay:k<C.length:=by omega
  have A4:k+1<C.length:=by omega
  have has:=Bz.out k Ay A4;obtain⟨_,Bo,_⟩:=A0.out k Ay;obtain⟨_,Ar,_⟩:=A0.out (k+1) A4;have Bv:=Hd (HJ.out (k+1));simp only[zL,yU];generalize us k=uk at *;generalize us (k+1)=uk1 at *;generalize C[k]=x at *;generalize C[k+1]=y at *;generalize J (k+1)=J' at *;obtain⟨As,A9,a3,c3,a4,c4,a5,c5,rfl,Bk⟩:=Bo.shapes;obtain⟨A6,Au,b3,d3,b4,d4,b5,d5,rfl,Bn⟩:=Ar.shapes
  have B2:=Hd (show(y.1.2.map Tess.valOf).length<=9223372036854775807 from by
   obtain⟨_,_,_,_,e,hd,_⟩:=Ar;obtain⟨_,_,_,hl,_⟩:=hd.cells
   exact hl)
  have A5:=Hd (fun W (hW:Below w.heap.size w W)=>aa As A6 A9 Au (x.1.2.map Tess.valOf) (y.1.2.map Tess.valOf) x.1.1 y.1.1 x.2.n y.2.n a3 a4 a5 b3 b4 b5 x.2.sums.length x.2.mins.length x.2.maxs.length c3 c4 c5 y.2.sums.length y.2.mins.length y.2.maxs.length d3 d4 d5 W B2.out (Bk.below hW) (Bn.below hW));simp only[vc2,qX]at A5;rw[show ckLt (x.1.1,x.1.2) (y.1.1,y.1.2)=true from has]at A5
  clear has Bo Ar Bk Bn;generalize x.2.sums.length=n3 at *;generalize x.2.mins.length=n4 at *;generalize x.2.maxs.length=n5 at *;generalize y.2.sums.length=m3 at *;generalize y.2.mins.length=m4 at *;generalize y.2.maxs.length=m5 at *;generalize x.1.2.length=n1 at *;generalize y.1.2.length=m1 at *;generalize x.1.1=t1 at *;generalize y.1.1=t2 at *;generalize x.2.n=z1 at *;generalize y.2.n=z2 at *
  have H2:=Hd h2;have H3:=Hd h3;have H4:=Hd h4;have H5:=Hd h5;have H6:=Hd h6;have Bm:=Hd (qA.1 h5).1;clear h h2 h3 h4 h5 h6 Ay A4 hk;refine Rf.rw2 (r:=Ab) ?_;have Ca:=Aw.out;subst Ca;dsimp only
  obtain⟨X1,B1⟩:=XQ ((X.alloc (.cells #[.int .i64 t1,.slice As n1 A9,.int .i64 z1,.slice a3 n3 c3,.slice a4 n4 c4,.slice a5 n5 c5] 80)).alloc (.cells #[.int .i64 t2,.slice A6 m1 Au,.int .i64 z2,.slice b3 m3 d3,.slice b4 m4 d4,.slice b5 m5 d5] 56))
  obtain⟨q1,q2,qS,qB⟩:=la3 X (.cells #[.int .i64 t1,.slice As n1 A9,.int .i64 z1,.slice a3 n3 c3,.slice a4 n4 c4,.slice a5 n5 c5] 80) (.cells #[.int .i64 t2,.slice A6 m1 Au,.int .i64 z2,.slice b3 m3 d3,.slice b4 m4 d4,.slice b5 m5 d5] 56);rw[B1]at q1 q2 qS qB;have Q1:=Hd q1;have Q2:=Hd q2;have QS:=Hd qS;have QB:=Hd qB;clear q1 q2 qS qB
  gi_wp2_with (rw[zK _ _ _ (fun c h=>by cases h)];go_simp;try go_bits);have A7:=Bm.out;refine⟨(QB.out.block _ A7).trans H5.out,fun X2 Af hl2=>?_⟩;have g1:=(Af.block X.heap.size (by omega)).trans Q1.out;have g2:=(Af.block (X.heap.size+1) (by omega)).trans Q2.out;obtain⟨⟨x0,x1,x2,x3,x4,x5⟩,_⟩:=can6 g1;obtain⟨⟨y0,y1,y2,y3,y4,y5⟩,_⟩:=can6 g2;have Cd:=QS.out
  have An:=Hd ((Bt H6.out QB.out).trans (Af.below (show w.heap.size<=N+2+1 by omega)));have B6:=Hd (A5.out X2 An.out);have Bw:=Hd (show ∀b,b<X.heap.size->b≠N+2+1->X2.heap[b]?=X.heap[b]? from fun b h1 h2=>(Af.block b h2).trans (QB.out.block b h1));have B9:=Hd hl2;have Cb:=Hd (show X.heap.size+2=X2.heap.size by have:=Af.size;omega);clear g1 g2 Af hl2 Cd A7
  gi_wp2_with (first|(refine⟨trivial,?_⟩;gi_at_call 40;refine xD (yu _ (qZ.2 B6.out)) ?_;rintro e w6 ⟨rfl,Aj⟩;have Bx:=Hd (below_grow Aj);clear Aj)|(rw[zK _ _ _ (fun c h=>by cases h)];go_simp;try go_bits));have Aj:=Bx.out;have Af:=Cb.out;have A7:=Bm.out;have B3:=(Aj.block _ (by omega)).trans B9.out
  have A2:∀b,b<X.heap.size->b≠N+2+1->w6.heap[b]?=X.heap[b]?:=fun b h1 h2=>(Aj.block b (by omega)).trans (Bw.out b h1 h2);have By:=Bt An.out Aj;refine⟨B3,fun X7 hs7 hl7=>⟨rfl,(Bv.out X7).2 ⟨?_,?_,?_,hl7,By.trans (hs7.below (by omega))⟩⟩⟩
  ·exact(hs7.block _ (by omega)).trans ((A2 _ (by omega) (by omega)).trans H2.out)
  ·exact(hs7.block _ (by omega)).trans ((A2 _ (by omega) (by omega)).trans H3.out)
  ·exact(hs7.block _ (by omega)).trans ((A2 _ (by omega) (by omega)).trans H4.out)
 ·rintro e W8 ⟨⟨vv,rfl⟩,h⟩;obtain⟨h2,h3,h4,h5,h6⟩:=(HJ.out _ _).1 h;refine⟨⟨_,rfl⟩,Ab,h5,by rw[Az];decide,?_⟩;intro W9 Ao;rw[B8];dsimp only;have B0:=(Ao.block (N+2) (by omega)).trans h4;have g0:=(Ao.block N (by omega)).trans h2;have Bf:=h6.trans (Ao.below (show w.heap.size<=N+2+1 by omega));have Av:=Hd (Bf.trans ((Rf.SB.put W9 (N+2) (.deferred none)).below (show w.heap.size<=N+2 by omega)))
  have x0:=(cob g0).1;clear h h2 h3 h4 h5 h6 Ao g0 Bf;gi_wp2;refine⟨by simp,.inl ⟨_,_,rfl,jD B0,?_⟩⟩;refine⟨.bool true,by simp[results,Tryz.results17,go_sem],rfl,Av.out⟩
