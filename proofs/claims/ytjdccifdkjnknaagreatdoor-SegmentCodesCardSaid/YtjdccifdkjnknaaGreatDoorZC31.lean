/- Joined. -/
import Derived.Test.YtjdccifdkjnknaaGreatDoorZC30
set_option maxRecDepth 100000
set_option maxHeartbeats 4000000
namespace Tess
def RCel.ck(x:RCel):CK:=(x.t,x.l.map Val.c)
end Tess
namespace Go.Proofs.Q9
open Go.RowKit Go.Sort Go.Shelf
open Tess (CK Pay PO CO2 CO ckLt RCel)
attribute [local go_sem] jK
theorem RA2.sV{p:Nat->Prop}{w:World}{cs:List Value}{x:RCel}(h:RA2 p w cs x):∃ad cd a3 c3 a4 c4 a5 c5,cs=[.int .i64 x.t,.slice ad x.l.length cd,.int .i64 x.n,.slice a3 x.sums.length c3,.slice a4 x.mins.length c4,.slice a5 x.maxs.length c5]/\VC w ad x.l:=by obtain⟨vd,vs,vm,vx,rfl,h1,h2,h3,h4⟩:=h;obtain⟨ad,cd,rfl,_,hc⟩:=h1.cells;obtain⟨a3,c3,rfl⟩:=h2.shape;obtain⟨a4,c4,rfl⟩:=h3.shape;obtain⟨a5,c5,rfl⟩:=h4.shape;exact⟨ad,cd,a3,c3,a4,c4,a5,c5,rfl,hc⟩
theorem right_stop(p:Nat->Prop)(vs va:Value)(s:Tess.Sch)(C:List RCel)(w:World)(hs:SA p w vs s)(hv:LA 6 (RA2 p) p w va C)(hsch:Tess.sO s=true)(hcl:C.length<=1000)(hok:∀x∈C,x.ok s=true)(hrn:∀x∈C,(∀z∈x.mins,I64 z)/\∀z∈x.maxs,I64 z)(m:Nat)(hm:m<C.length-1)
  (hah:∀k (h1:k<C.length) (h2:k+1<C.length),k<m->ckLt C[k].ck C[k+1].ck=true) (hno:∀(h1:m<C.length) (h2:m+1<C.length),ckLt C[m].ck C[m+1].ck=false) :
  Calls Tryz.prog 17 #[vs,va] w fun e w'=>e = .returned (.bool false)/\Below w.heap.size w w':=by
 obtain⟨a,c,rfl,Av,us,Bn⟩:=LA.rows hv;have HR:=Hd (fun W (hB:Below w.heap.size w W)=>sRa vs s p W (hs.ag (Ag.new p hB)));rw[hsch]at HR;have Bs:=hs;obtain⟨vd,vm,rfl,hd,Bq,_,_⟩:=hs;obtain⟨ad,Ap,rfl,_⟩:=sl3 hd;obtain⟨am,Am,rfl,_⟩:=sl3 Bq;have Az:=Hd Bn
 have Au:=Hd (fun W (hB:Below w.heap.size w W) (hbx:W.heap[w.heap.size]?=some (.cells #[.slice ad s.dims.length Ap,.slice am s.mets.length Am,.int .i64 s.grain] 24 (0,0)))=>crR w.heap.size (fun x=> !x.ok s) C a c W Av (fun k hk=>by
  obtain⟨e6,hR,b,Ad,ha,hb,hp,Aa⟩:=Bn k hk;obtain⟨y0,y1,y2,y3,y4,y5,ey⟩:=six e6;rw[ey]at Aa hR;refine⟨b,Ad,ha,qF hb hB.size,y0,y1,y2,y3,y4,y5,⟨?_,?_,?_,?_,?_,?_⟩,fun W' hW'=>?_⟩
  ·exact(hB.cell (p:=⟨b,Ad+k*6,none⟩) hb).trans (Aa 0 (by omega))
  ·exact(hB.cell (p:=⟨b,Ad+k*6+1,none⟩) hb).trans (Aa 1 (by omega))
  ·exact(hB.cell (p:=⟨b,Ad+k*6+2,none⟩) hb).trans (Aa 2 (by omega))
  ·exact(hB.cell (p:=⟨b,Ad+k*6+3,none⟩) hb).trans (Aa 3 (by omega))
  ·exact(hB.cell (p:=⟨b,Ad+k*6+4,none⟩) hb).trans (Aa 4 (by omega))
  ·exact(hB.cell (p:=⟨b,Ad+k*6+5,none⟩) hb).trans (Aa 5 (by omega))
  ·have Br:=Bt hB hW'
   exact rGa w.heap.size p [_,_,_] _ s C[k] W' ((hW'.block _ (qA.1 hbx).1).trans hbx) (Bs.ag (Ag.new p Br)) (hR.ag (Ag.new p Br)) hsch (hrn _ (qP hk)).1 (hrn _ (qP hk)).2))
 have Ax:C.any (fun x=> !x.ok s)=false:=by rw[xI];intro x hx;rw[hok x hx];simp
 rw[Ax]at Au;have Cc:=Hd hah;have Ca:=Hd hno;have Cl:decide ((1000:Int)<(C.length:Int))=false:=qG (by omega);clear Bs hd Bq hv Bn Av Ax hok hrn hah hno hsch;obtain⟨W0,Bw⟩:=XQ (w.alloc (.cells #[.slice ad s.dims.length Ap,.slice am s.mets.length Am,.int .i64 s.grain] 24))
 obtain⟨k0,kS,kB⟩:=la2 w (.cells #[.slice ad s.dims.length Ap,.slice am s.mets.length Am,.int .i64 s.grain] 24);rw[Bw]at k0 kS kB;obtain⟨⟨x0,x1,x2⟩,_⟩:=can3 k0;have K0:=Hd k0;have KB:=Hd kB;clear k0 kS kB;refine(qZ (n:=5)).1 ?_;refine jL Tryz.func17 rfl trivial ?_ rfl;simp only[Tryz.ntmps17,qu,qU,zE,Nat.reduceAdd,Nat.reduceSub,qv,qw,zO,zC,qr,qk];gi_wp2;refine Rf.wIs ?_
 gi_wp2_with (refine⟨trivial,?_⟩;gi_at_call 23;refine(qZ.2 (HR.out _ KB.out)).mono ?_;rintro e w1 ⟨rfl,Ba⟩;have Bu:=Hd (Bt KB.out Ba);have K1:=Hd ((Ba.block _ (qA.1 K0.out).1).trans K0.out);clear Ba x0 x1 x2);gi_wp2_with (refine⟨trivial,?_⟩;gi_at_call 36;refine(qZ.2 (Au.out _ Bu.out K1.out)).mono ?_;rintro e w2 ⟨rfl,B8⟩;have B3:=Hd (Bt Bu.out B8);clear B8)
 obtain⟨W3,Bo⟩:=XQ (w2.alloc (.cells #[.bool true] 4))
 obtain⟨k3,Bh,Bj⟩:=la2 w2 (.cells #[.bool true] 4);rw[Bo]at k3 Bh Bj⊢;refine qAm ?_;gi_wp2_with (refine⟨trivial,?_⟩;gi_at_call 39;refine(qZ.2 (pa5 a C.length c _)).mono ?_;rintro e w4 ⟨rfl,rfl⟩);obtain⟨W4,B5⟩:=XQ (W3.alloc (.cells #[.slice a C.length c] 28))
 obtain⟨k4,Bz,A8⟩:=la2 W3 (.cells #[.slice a C.length c] 28);rw[B5]at k4 Bz A8⊢;have Bg:=(A8.block _ (by omega)).trans k3;have A7:=Bt B3.out (Bt Bj A8);obtain⟨N,hN⟩:=XQ w2.heap.size
 rw[hN]at Bg Bh;rw[Bh]at k4 Bz;have Ci:W4.heap.size=N+2:=by omega
 have Ck:w.heap.size<=N:=by have:=B3.out.size;omega
 have Ch:=Hd (show ∀j,j<C.length->(us j).length=6/\∃b Ad,a=some ⟨b,Ad,none⟩/\b<W4.heap.size/\((p b/\b<w.heap.size)∨b=N+1)/\∀i,i<6->W4.cell? ⟨b,Ad+j*6+i,none⟩=(us j)[i]? from fun j hj=>by
  obtain⟨e6,_,b,Ad,ha,hb,hp,Aa⟩:=Az.out j hj
  exact⟨e6,b,Ad,ha,qF hb A7.size,.inl ⟨hp,hb⟩,fun i hi=>(A7.cell (p:=⟨b,Ad+j*6+i,none⟩) hb).trans (Aa i hi)⟩)
 have Cf:=Hd (qT _ _ 0 _ _ _ k4);have Cj:=Hd Bg;have K4:=Hd k4;have By:=Hd A7;clear k3 k4 Bg Bj A8 A7;rw[hN];refine Rf.rw3 (gf:=90) (lb:=#[.pointer (some ⟨N+1,0,none⟩)]) rfl (yd Tryz.func90 (by kernel_rfl) rfl) ?_;intro fn W5 hL hD B2 Bp;have Ah:Below W4.heap.size W4 W5:=B2;rw[Ci]at hL hD Bp⊢;obtain⟨Ab,Al,hL⟩:∃Ab:Loop,Ab=_/\W5.heap[N+2+1]?=some (.loop Ab):=⟨_,rfl,hL⟩
 have Aw:=Hd Al;have B1:Ab.state = .ready/\Ab.params.size=2/\Ab.pending=none:=by rw[Al];exact⟨rfl,rfl,rfl⟩
 clear Al;obtain⟨B1,B9,Cm⟩:=B1;obtain⟨J,hJ⟩:=Xq (fun k X=>X.heap[N]?=some (.cells #[.bool true] 4 (0,0))/\X.heap[N+1]?=some (.cells #[.slice a C.length c] 28 (0,0))/\X.heap[N+2]?=some (.deferred (some []))/\X.heap[N+2+1]?=some (.loop Ab)/\Below w.heap.size w X:Nat->World->Prop)
 have HJ:RowKit.Hid (∀k X,J k X↔(X.heap[N]?=some (.cells #[.bool true] 4 (0,0))/\X.heap[N+1]?=some (.cells #[.slice a C.length c] 28 (0,0))/\X.heap[N+2]?=some (.deferred (some []))/\X.heap[N+2+1]?=some (.loop Ab)/\Below w.heap.size w X)):=Hd fun k X=>by rw[hJ]
 have Cg:J 0 W5:=(HJ.out _ _).2 ⟨(Ah.block _ (by omega)).trans Cj.out,(Ah.block _ (by omega)).trans K4.out,hD,hL,Bt By.out Ah⟩;clear hJ B2 Ah hL hD Bp Bo B5 Bw;obtain⟨PP,B4⟩:=Xq (fun X=>X.heap[N]?=some (.cells #[.bool false] 4 (0,0))/\X.heap[N+2]?=some (.deferred (some []))/\X.heap[N+2+1]?=some (.loop { Ab with state:=.done,pending:=some (.exit 0) })/\Below w.heap.size w X:World->Prop)
 have B6:RowKit.Hid (∀X,PP X↔(X.heap[N]?=some (.cells #[.bool false] 4 (0,0))/\X.heap[N+2]?=some (.deferred (some []))/\X.heap[N+2+1]?=some (.loop { Ab with state:=.done,pending:=some (.exit 0) })/\Below w.heap.size w X)):=Hd fun X=>by rw[B4]
 clear B4;refine qZ.2 ((ps5 C.length (by omega) us a c (N+1) (fun x=>(p x/\x<w.heap.size)∨x=N+1) W4 Cf.out (.inr rfl) Ch.out m hm (N+2+1) Ab.fn (fun v=>(Ab.params.zip v).foldl (fun tmps (t,a)=>tmps.setIfInBounds t a) Ab.tmps) Ab.assign Ab.body J PP ?_ ?_ ?_ ?_ ?_ W5 Cg).mono ?_)
 ·intro k X X' h hb;obtain⟨h2,h3,h4,h5,h6⟩:=(HJ.out _ _).1 h;exact(HJ.out _ _).2 ⟨(hb.block _ (qA.1 h2).1).trans h2,(hb.block _ (qA.1 h3).1).trans h3,(hb.block _ (qA.1 h4).1).trans h4,(hb.block _ (qA.1 h5).1).trans h5,Bt h6 hb⟩
 ·intro k X h;obtain⟨h2,h3,h4,h5,h6⟩:=(HJ.out _ _).1 h;have hx:=(qA.1 h5).1;refine⟨hx,by omega,fun x hxl B0=>?_⟩;rcases B0 with⟨B0,Bx⟩|rfl
  ·exact(h6.block x Bx).trans (By.out.block x Bx).symm
  ·exact h3.trans K4.out.symm
 ·intro k X h z hz;obtain⟨h2,h3,h4,h5,h6⟩:=(HJ.out _ _).1 h;exact xJ h5 (by rw[B9,hz])
 ·intro k X B7 h;obtain⟨h2,h3,h4,h5,h6⟩:=(HJ.out _ _).1 h;have An:k<C.length:=by omega
  have Aq:k+1<C.length:=by omega
  have has:=Cc.out k An Aq B7;obtain⟨_,A1,_⟩:=Az.out k An;obtain⟨_,Ai,_⟩:=Az.out (k+1) Aq;have Cb:=Hd (HJ.out (k+1));generalize us k=uk at *;generalize us (k+1)=uk1 at *;generalize C[k]=x at *;generalize C[k+1]=y at *;generalize J (k+1)=J' at *;obtain⟨Aj,At,a3,c3,a4,c4,a5,c5,rfl,Ay⟩:=A1.sV;obtain⟨Ar,Ak,b3,d3,b4,d4,b5,d5,rfl,A0⟩:=Ai.sV
  have Be:=Hd (show y.l.length<=9223372036854775807 from by
   obtain⟨_,_,_,_,e,hd,_⟩:=Ai;obtain⟨_,_,_,hl,_⟩:=hd.cells
   exact hl)
  have A3:=Hd (fun W (hW:Below w.heap.size w W)=>aa Aj Ar At Ak x.l y.l x.t y.t x.n y.n a3 a4 a5 b3 b4 b5 x.sums.length x.mins.length x.maxs.length c3 c4 c5 y.sums.length y.mins.length y.maxs.length d3 d4 d5 W Be.out (Ay.below hW) (A0.below hW));rw[show ckLt (x.t,x.l.map Tess.Val.c) (y.t,y.l.map Tess.Val.c)=true from has]at A3;clear has A1 Ai Ay A0;generalize x.sums.length=n3 at *
  generalize x.mins.length=n4 at *;generalize x.maxs.length=n5 at *;generalize y.sums.length=m3 at *;generalize y.mins.length=m4 at *;generalize y.maxs.length=m5 at *;generalize x.l.length=n1 at *;generalize y.l.length=m1 at *;generalize x.t=t1 at *;generalize y.t=t2 at *;generalize x.n=z1 at *;generalize y.n=z2 at *;have H2:=Hd h2;have H3:=Hd h3;have H4:=Hd h4;have H5:=Hd h5;have H6:=Hd h6
  have Ao:=Hd (qA.1 h5).1;clear h h2 h3 h4 h5 h6 An Aq B7;refine Rf.rw2 (r:=Ab) ?_;have Bl:=Aw.out;subst Bl;dsimp only;obtain⟨X1,Bc⟩:=XQ ((X.alloc (.cells #[.int .i64 t1,.slice Aj n1 At,.int .i64 z1,.slice a3 n3 c3,.slice a4 n4 c4,.slice a5 n5 c5] 80)).alloc (.cells #[.int .i64 t2,.slice Ar m1 Ak,.int .i64 z2,.slice b3 m3 d3,.slice b4 m4 d4,.slice b5 m5 d5] 56))
  obtain⟨q1,q2,qS,qB⟩:=la3 X (.cells #[.int .i64 t1,.slice Aj n1 At,.int .i64 z1,.slice a3 n3 c3,.slice a4 n4 c4,.slice a5 n5 c5] 80) (.cells #[.int .i64 t2,.slice Ar m1 Ak,.int .i64 z2,.slice b3 m3 d3,.slice b4 m4 d4,.slice b5 m5 d5] 56);rw[Bc]at q1 q2 qS qB;have Q1:=Hd q1;have Q2:=Hd q2;have QS:=Hd qS;have QB:=Hd qB;clear q1 q2 qS qB
  gi_wp2_with (rw[zK _ _ _ (fun c h=>by cases h)];go_simp;try go_bits);have As:=Ao.out;refine⟨(QB.out.block _ As).trans H5.out,fun X2 Ac hl2=>?_⟩;have g1:=(Ac.block X.heap.size (by omega)).trans Q1.out;have g2:=(Ac.block (X.heap.size+1) (by omega)).trans Q2.out;obtain⟨⟨x0,x1,x2,x3,x4,x5⟩,_⟩:=can6 g1;obtain⟨⟨y0,y1,y2,y3,y4,y5⟩,_⟩:=can6 g2;have Bm:=QS.out
  have Af:=Hd ((Bt H6.out QB.out).trans (Ac.below (show w.heap.size<=N+2+1 by omega)));have Bi:=Hd (A3.out X2 Af.out);have A4:=Hd (show ∀b,b<X.heap.size->b≠N+2+1->X2.heap[b]?=X.heap[b]? from fun b h1 h2=>(Ac.block b h2).trans (QB.out.block b h1));have Bk:=Hd hl2;have A9:=Hd (show X.heap.size+2=X2.heap.size by have:=Ac.size;omega);clear g1 g2 Ac hl2 Bm As
  gi_wp2_with (first|(refine⟨trivial,?_⟩;gi_at_call 40;refine xD (yu _ (qZ.2 Bi.out)) ?_;rintro e w6 ⟨rfl,Ae⟩;have A5:=Hd (below_grow Ae);clear Ae)|(rw[zK _ _ _ (fun c h=>by cases h)];go_simp;try go_bits));have Ae:=A5.out;have Ac:=A9.out;have As:=Ao.out;have Bf:=(Ae.block _ (by omega)).trans Bk.out
  have A2:∀b,b<X.heap.size->b≠N+2+1->w6.heap[b]?=X.heap[b]?:=fun b h1 h2=>(Ae.block b (by omega)).trans (A4.out b h1 h2);have Bb:=Bt Af.out Ae;refine⟨Bf,fun X7 hs7 hl7=>⟨rfl,(Cb.out X7).2 ⟨?_,?_,?_,hl7,Bb.trans (hs7.below (by omega))⟩⟩⟩
  ·exact(hs7.block _ (by omega)).trans ((A2 _ (by omega) (by omega)).trans H2.out)
  ·exact(hs7.block _ (by omega)).trans ((A2 _ (by omega) (by omega)).trans H3.out)
  ·exact(hs7.block _ (by omega)).trans ((A2 _ (by omega) (by omega)).trans H4.out)
 ·intro X h;obtain⟨h2,h3,h4,h5,h6⟩:=(HJ.out _ _).1 h;have An:m<C.length:=by omega
  have Aq:m+1<C.length:=by omega
  have has:=Ca.out An Aq;obtain⟨_,A1,_⟩:=Az.out m An;obtain⟨_,Ai,_⟩:=Az.out (m+1) Aq;generalize us m=uk at *;generalize us (m+1)=uk1 at *;generalize C[m]=x at *;generalize C[m+1]=y at *;obtain⟨Aj,At,a3,c3,a4,c4,a5,c5,rfl,Ay⟩:=A1.sV;obtain⟨Ar,Ak,b3,d3,b4,d4,b5,d5,rfl,A0⟩:=Ai.sV
  have Be:=Hd (show y.l.length<=9223372036854775807 from by
   obtain⟨_,_,_,_,e,hd,_⟩:=Ai;obtain⟨_,_,_,hl,_⟩:=hd.cells
   exact hl)
  have A3:=Hd (fun W (hW:Below w.heap.size w W)=>aa Aj Ar At Ak x.l y.l x.t y.t x.n y.n a3 a4 a5 b3 b4 b5 x.sums.length x.mins.length x.maxs.length c3 c4 c5 y.sums.length y.mins.length y.maxs.length d3 d4 d5 W Be.out (Ay.below hW) (A0.below hW));rw[show ckLt (x.t,x.l.map Tess.Val.c) (y.t,y.l.map Tess.Val.c)=false from has]at A3;clear has A1 Ai Ay A0;generalize x.sums.length=n3 at *
  generalize x.mins.length=n4 at *;generalize x.maxs.length=n5 at *;generalize y.sums.length=m3 at *;generalize y.mins.length=m4 at *;generalize y.maxs.length=m5 at *;generalize x.l.length=n1 at *;generalize y.l.length=m1 at *;generalize x.t=t1 at *;generalize y.t=t2 at *;generalize x.n=z1 at *;generalize y.n=z2 at *;have H2:=Hd h2;have H3:=Hd h3;have H4:=Hd h4;have H5:=Hd h5;have H6:=Hd h6
  have Ao:=Hd (qA.1 h5).1;clear h h2 h3 h4 h5 h6 An Aq;refine Rf.rw2 (r:=Ab) ?_;have Bl:=Aw.out;subst Bl;dsimp only;obtain⟨X1,Bc⟩:=XQ ((X.alloc (.cells #[.int .i64 t1,.slice Aj n1 At,.int .i64 z1,.slice a3 n3 c3,.slice a4 n4 c4,.slice a5 n5 c5] 80)).alloc (.cells #[.int .i64 t2,.slice Ar m1 Ak,.int .i64 z2,.slice b3 m3 d3,.slice b4 m4 d4,.slice b5 m5 d5] 56))
  obtain⟨q1,q2,qS,qB⟩:=la3 X (.cells #[.int .i64 t1,.slice Aj n1 At,.int .i64 z1,.slice a3 n3 c3,.slice a4 n4 c4,.slice a5 n5 c5] 80) (.cells #[.int .i64 t2,.slice Ar m1 Ak,.int .i64 z2,.slice b3 m3 d3,.slice b4 m4 d4,.slice b5 m5 d5] 56);rw[Bc]at q1 q2 qS qB;have Q1:=Hd q1;have Q2:=Hd q2;have QS:=Hd qS;have QB:=Hd qB;clear q1 q2 qS qB
  gi_wp2_with (rw[zK _ _ _ (fun c h=>by cases h)];go_simp;try go_bits);have As:=Ao.out;refine⟨(QB.out.block _ As).trans H5.out,fun X2 Ac hl2=>?_⟩;have g1:=(Ac.block X.heap.size (by omega)).trans Q1.out;have g2:=(Ac.block (X.heap.size+1) (by omega)).trans Q2.out;obtain⟨⟨x0,x1,x2,x3,x4,x5⟩,_⟩:=can6 g1;obtain⟨⟨y0,y1,y2,y3,y4,y5⟩,_⟩:=can6 g2;have Bm:=QS.out
  have Af:=Hd ((Bt H6.out QB.out).trans (Ac.below (show w.heap.size<=N+2+1 by omega)));have Bi:=Hd (A3.out X2 Af.out);have A4:=Hd (show ∀b,b<X.heap.size->b≠N+2+1->X2.heap[b]?=X.heap[b]? from fun b h1 h2=>(Ac.block b h2).trans (QB.out.block b h1));have Bk:=Hd hl2;have A9:=Hd (show X.heap.size+2=X2.heap.size by have:=Ac.size;omega);clear g1 g2 Ac hl2 Bm As
  gi_wp2_with (first|(refine⟨trivial,?_⟩;gi_at_call 40;refine xD (yu _ (qZ.2 Bi.out)) ?_;rintro e w6 ⟨rfl,Ae⟩;have A5:=Hd (below_grow Ae);clear Ae;have g6:=((A5.out.block N (by have:=A9.out;have:=Ao.out;omega)).trans ((A4.out N (by have:=Ao.out;omega) (by omega)).trans H2.out));have f6:=(cob g6).2;have c6:=(cob g6).1;have G6:=Hd g6;clear g6)|(rw[zK _ _ _ (fun c h=>by cases h)];go_simp;try go_bits))
  have Ae:=A5.out;have Ac:=A9.out;have As:=Ao.out;have Bf:=(Ae.block _ (by omega)).trans Bk.out;have A2:∀b,b<X.heap.size->b≠N+2+1->w6.heap[b]?=X.heap[b]?:=fun b h1 h2=>(Ae.block b (by omega)).trans (A4.out b h1 h2);have Bb:=Bt Af.out Ae;have Ce:=qO w6 N 0 #[.bool true] 4 (.bool false) G6.out
  refine⟨(qW w6 ⟨N,0,none⟩ _ (.bool false) (by show N+2+1≠N;omega)).trans Bf,fun X7 hs7 hl7=>⟨rfl,(B6.out X7).2 ⟨(hs7.block _ (by omega)).trans Ce,?_,hl7,(Bb.setCell (by show _<=N;omega) _).trans (hs7.below (by omega))⟩⟩⟩;exact(hs7.block _ (by omega)).trans ((qW w6 ⟨N,0,none⟩ _ (.bool false) (by show N+2≠N;omega)).trans ((A2 _ (by omega) (by omega)).trans H4.out))
 ·rintro e W8 ⟨⟨vv,rfl⟩,h⟩;obtain⟨h2,h4,h5,h6⟩:=(B6.out _).1 h;refine⟨⟨_,rfl⟩,_,h5,(by show LoopState.done≠LoopState.busy;decide),?_⟩;intro W9 A6;dsimp only;have Cd:=(A6.block (N+2) (by omega)).trans h4;have g0:=(A6.block N (by omega)).trans h2;have Bv:=h6.trans (A6.below (show w.heap.size<=N+2+1 by omega))
  have Bd:=Hd (Bv.trans ((Rf.SB.put W9 (N+2) (.deferred none)).below (show w.heap.size<=N+2 by omega)));have x0:=(cob g0).1;clear h h2 h4 h5 h6 A6 g0 Bv;gi_wp2;refine⟨by simp,.inl ⟨_,_,rfl,jD Cd,?_⟩⟩;refine⟨.bool false,by simp[results,Tryz.results17,go_sem],rfl,Bd.out⟩
end Go.Proofs.Q9
namespace Tess
open Go Kl
def RCel.cel(x:RCel):CK×Pay:=(x.ck,⟨x.n,x.sums,x.mins,x.maxs⟩)
theorem sPo{s n l h:Int}(hn:1<=n)(h':iSP s n l h=true):SO2 s n l h:=by
 unfold iSP at h';unfold SO2;split at h'
 ·rename_i h1;subst h1;rw[qb,qn,qn]at h';omega
 ·rw[qb,qb,qn,qn,qn]at h';have e1:l*(n-1)=l*(n-2)+l:=by rw[show n-1=(n-2)+1 by omega,qBt,qBu]
  have e2:h*(n-1)=h*(n-2)+h:=by rw[show n-1=(n-2)+1 by omega,qBt,qBu]
  omega
theorem ro4{s:Sch}{x:RCel}(hmn:∀z∈x.mins,-9223372036854775808<=z/\z<=9223372036854775807)(hmx:∀z∈x.maxs,-9223372036854775808<=z/\z<=9223372036854775807)(h:x.ok s=true):CO2 s x.cel/\x.l.all vO=true:=by
 unfold RCel.ok rowFits at h;simp only[qb,qn]at h;obtain⟨⟨⟨⟨t0,t1⟩,t2,n1,n2⟩,⟨⟨⟨⟨⟨_,_⟩,_⟩,hl⟩,hm⟩,hv⟩,l1,l2⟩,Ab⟩:=h
 have Aa:∀m<s.mets.length,-9223372036854775808<=x.mins.getD m 0/\x.mins.getD m 0<=9223372036854775807 /\ -9223372036854775808<=x.maxs.getD m 0/\x.maxs.getD m 0<=9223372036854775807:=fun m hmm=>by
  have g1:m<x.mins.length:=by omega
  have g2:m<x.maxs.length:=by omega
  have a1:=hmn _ (qP g1);have a2:=hmx _ (qP g2);simp only[qE,qD g1,qD g2,yz];exact⟨a1.1,a1.2,a2.1,a2.2⟩
 exact⟨⟨⟨t0,t1,t2⟩,⟨by show(x.l.map Val.c).length=_;rw[qX];exact hl,by show((x.l.map Val.c).map valOf).all vO=true;rw[vOc hv];exact hv⟩,n2,⟨by show x.sums.length=_/\x.mins.length=_/\x.maxs.length=_;omega,n1,fun m hmm=>sPo n1 (RCel.sl6 x Ab (show m<x.sums.length by omega)),Aa⟩⟩,hv⟩
def rB2(s:Sch)(l:List RCel):Bool:=(sO s&&decide (l.length<=1000))&&(l.all (·.ok s)&&(List.range (l.length-1)).all fun k=>ckLt ((l.map RCel.ck).getD k (0,[])) ((l.map RCel.ck).getD (k+1) (0,[])))
theorem aa2{lt:CK->CK->Bool}(hs:Sto lt):∀(l:List CK),(∀k (h1:k<l.length) (h2:k+1<l.length),lt l[k] l[k+1]=true)->l.Pairwise fun a b=>lt a b=true
 |[],_=>List.Pairwise.nil
 |[x],_=>qBf _ _
 |x::y::l,h=>by
   have h0:=h 0 (by simp) (by simp);have ih:=aa2 hs (y::l) fun k h1 h2=>h (k+1) (by simp at h1⊢;omega) (by simp at h2⊢;omega);refine qBa.2 ⟨fun z hz=>?_,ih⟩;rcases qm.1 hz with rfl|hz
   ·exact h0
   ·exact hs.trans h0 ((qBa.1 ih).1 z hz)
end Tess
namespace Tess
open Go Kl Go.RowKit Go.Proofs.Q9
def toR(x:CK×Pay):RCel:=⟨x.1.1,x.1.2.map valOf,x.2.n,x.2.sums,x.2.mins,x.2.maxs⟩
theorem cvO2(l:List DV):(l.map valOf).map Val.c=l:=by rw[xe];exact(yI fun x _=>cvO x).trans (List.map_id _)
theorem tRc2(x:CK×Pay):(toR x).cel=x:=by obtain⟨⟨t,l⟩,⟨n,a,b,c⟩⟩:=x;show((t,(l.map valOf).map Val.c),_)=_;rw[cvO2];rfl
theorem tRc(C:List (CK×Pay)):(C.map toR).map RCel.cel=C:=by rw[xe];exact(yI fun x _=>tRc2 x).trans (List.map_id _)
def RRng(C:List RCel):Prop:=∀x∈C,(∀z∈x.mins,-9223372036854775808<=z/\z<=9223372036854775807)/\∀z∈x.maxs,-9223372036854775808<=z/\z<=9223372036854775807
theorem rBc{s:Sch}{C:List RCel}(h:rB2 s C=true)(hr:RRng C):CO s (C.map RCel.cel)/\∀x∈C,x.l.all vO=true:=by
 unfold rB2 at h;simp only[qb,qn,qx]at h;obtain⟨⟨h1,h2⟩,h3,h4⟩:=h
 have Aa:∀k (h:k<C.length),(C.map RCel.ck).getD k (0,[])=C[k].ck:=fun k h=>by rw[qE,qp,qD h];rfl
 refine⟨⟨h1,by rw[qX];exact h2,fun y hy=>?_,?_⟩,fun x hx=>(ro4 (hr x hx).1 (hr x hx).2 (h3 x hx)).2⟩
 ·obtain⟨x,hx,rfl⟩:=qd.1 hy;exact(ro4 (hr x hx).1 (hr x hx).2 (h3 x hx)).1
 ·have Ab:∀k (h1:k<(C.map RCel.ck).length) (h2:k+1<(C.map RCel.ck).length),ckLt (C.map RCel.ck)[k] (C.map RCel.ck)[k+1]=true:=fun k h1 h2=>by
   have h5:=h4 k (zV.2 (by rw[qX]at h2;omega));rw[qX]at h1 h2;rw[Aa k h1,Aa (k+1) h2]at h5;simpa only[zL]using h5
  have:=aa2 cs5 (C.map RCel.ck) Ab;rw[xi]at this;show(C.map RCel.cel).Pairwise fun a b=>ckLt a.1 b.1=true;rw[xi];exact this
theorem tRo2{s:Sch}{x:CK×Pay}(hs:sO s=true)(h:CO2 s x):(toR x).ok s=true:=by obtain⟨⟨t0,t1,t2⟩,⟨d1,d2⟩,n2,⟨⟨l1,l2,l3⟩,n1,Aa,Ab⟩⟩:=h;unfold RCel.ok rowFits toR RCel.sO2 RCel.sA2;simp only[qb,qn,qX,qx,zV];refine⟨⟨⟨⟨t0,t1⟩,t2,n1,n2⟩,⟨⟨⟨⟨⟨hs,t0⟩,t1⟩,d1⟩,l2⟩,fun v hv=>qx.1 d2 v hv⟩,by omega,by omega⟩,fun m hm=>iSo3 (Aa m (by omega))⟩
theorem rtR{s:Sch}{C:List (CK×Pay)}(hr:RRng (C.map toR)):rB2 s (C.map toR)=cB s C:=by
 cases h:rB2 s (C.map toR)
 ·cases h2:cB s C
  ·rfl
  ·exfalso;have h3:=cBi.1 h2
   have:rB2 s (C.map toR)=true:=by
    unfold rB2;simp only[qb,qn,qx,qX];refine⟨⟨h3.sch,h3.len⟩,fun y hy=>?_,fun k hk=>?_⟩
    ·obtain⟨x,hx,rfl⟩:=qd.1 hy;exact tRo2 h3.sch (h3.each x hx)
    ·have hk:=zV.1 hk
     have Aa:∀j (hj:j<C.length),((C.map toR).map RCel.ck).getD j (0,[])=C[j].1:=fun j hj=>by rw[qE,qp,qp,qD hj];exact zM Prod.fst (tRc2 C[j])
     rw[Aa k (by omega),Aa (k+1) (by omega)];exact xU.1 h3.asc k (k+1) (by omega) (by omega) (by omega)
   rw[this]at h;cases h
 ·have h3:=(rBc h hr).1;rw[tRc]at h3;exact(cBi.2 h3).symm
def encR(s:Sch)(C:List RCel):ByteArray×Nat:=
 if sO s=false then(mk [],100)else if rB2 s C=false then(mk [],120)else jP ((pS2 s (C.map RCel.cel)).map mk)
theorem jPp(s:Sch)(C:List (CK×Pay)):jP ((pS2 s C).map mk)=if ∀x∈pS2 s C,x.length<=60000 then(encS s C,0)else(mk [],30):=by
 unfold jP encS;by_cases h:∀x∈pS2 s C,x.length<=60000
 ·rw[qR h,qR (fun x hx=>by obtain⟨y,hy,rfl⟩:=qd.1 hx;rw[ms2];exact h y hy)]
 ·rw[qH h,qH (fun h2=>h fun x hx=>by have:=h2 _ (qd.2 ⟨x,hx,rfl⟩);rwa [ms2]at this)];rfl
theorem eRt{s:Sch}{C:List (CK×Pay)}(hr:RRng (C.map toR)):encR s (C.map toR)=encP s C:=by unfold encR encP;rw[rtR hr,tRc,jPp];cases sO s<;>cases cB s C<;>simp
end Tess
namespace Go.Proofs.Q9
open Go.RowKit Go.Sort Go.Shelf
open Tess (CK Pay PO CO2 CO ckLt RCel rB2)
attribute [local go_sem] jK
theorem LA.maps{α β:Type}{k:Nat}{R:World->List Value->α->Prop}{S:World->List Value->β->Prop}{p:Nat->Prop}{w:World}{v:Value}{l:List α}(f:α->β)(h:LA k R p w v l)(hR:∀cs x,x∈l->R w cs x->S w cs (f x)):LA k S p w v (l.map f):=by obtain⟨a,Aa,hv,h1,h2,h3,h4⟩:=h;refine⟨a,Aa,by rw[qX];exact hv,by rw[qX];exact h1,by rw[qX];exact h2,h3,fun hl=>?_⟩;obtain⟨b,Ab,ha,hb,hp,hc⟩:=h4 (by simpa using hl);refine⟨b,Ab,ha,hb,hp,fun j hj=>?_⟩;obtain⟨cs,e1,e2,e3⟩:=hc j (by simpa using hj);exact⟨cs,e1,by rw[zL];exact hR _ _ (qP _) e2,e3⟩
theorem RA2.cel{p:Nat->Prop}{w:World}{cs:List Value}{x:RCel}(h:RA2 p w cs x)(hv:x.l.all Tess.vO=true):CA3 p w cs x.cel:=by obtain⟨vd,vs,vm,vx,rfl,h1,h2,h3,h4⟩:=h;refine⟨vd,vs,vm,vx,rfl,?_,⟨h2,h3,h4⟩⟩;show VA2 p w vd ((x.l.map Tess.Val.c).map Tess.valOf);rw[Tess.vOc hv];exact h1
theorem rs9(p:Nat->Prop)(vs va:Value)(s:Tess.Sch)(C:List RCel)(w:World)(hs:SA p w vs s)(hv:LA 6 (RA2 p) p w va C)(hsch:Tess.sO s=false) :
  Calls Tryz.prog 17 #[vs,va] w fun e w'=>e = .returned (.bool false)/\Below w.heap.size w w':=by
 obtain⟨a,c,rfl,_⟩:=LA.open hv;have HR:=Hd (fun W (hB:Below w.heap.size w W)=>sRa vs s p W (hs.ag (Ag.new p hB)));rw[hsch]at HR;obtain⟨vd,vm,rfl,hd,Ad,_,_⟩:=hs;obtain⟨ad,Aa,rfl,_⟩:=sl3 hd;obtain⟨am,Ab,rfl,_⟩:=sl3 Ad;clear hv hd Ad hsch;obtain⟨W0,Af⟩:=XQ (w.alloc (.cells #[.slice ad s.dims.length Aa,.slice am s.mets.length Ab,.int .i64 s.grain] 24))
 obtain⟨k0,kS,kB⟩:=la2 w (.cells #[.slice ad s.dims.length Aa,.slice am s.mets.length Ab,.int .i64 s.grain] 24);rw[Af]at k0 kS kB;obtain⟨⟨x0,x1,x2⟩,_⟩:=can3 k0;have K0:=Hd k0;have KB:=Hd kB;clear k0 kS kB;refine(qZ (n:=5)).1 ?_;refine jL Tryz.func17 rfl trivial ?_ rfl;simp only[Tryz.ntmps17,qu,qU,zE,Nat.reduceAdd,Nat.reduceSub,qv,qw,zO,zC,qr,qk];gi_wp2;refine Rf.wIs ?_
 gi_wp2_with (refine⟨trivial,?_⟩;gi_at_call 23;refine(qZ.2 (HR.out _ KB.out)).mono ?_;rintro e w1 ⟨rfl,Ac⟩;have Ae:=Hd (Bt KB.out Ac);have K1:=Hd ((Ac.block _ (qA.1 K0.out).1).trans K0.out);clear Ac x0 x1 x2);gi_wp2_with (refine⟨trivial,?_⟩);rw[zI];refine⟨.bool false,by simp[results,Tryz.results17,go_sem],rfl,Ae.out⟩
theorem rm5(p:Nat->Prop)(vs va:Value)(s:Tess.Sch)(C:List RCel)(w:World)(hs:SA p w vs s)(hv:LA 6 (RA2 p) p w va C)(hsch:Tess.sO s=true)(hm:1000<C.length) :
  Calls Tryz.prog 17 #[vs,va] w fun e w'=>e = .returned (.bool false)/\Below w.heap.size w w':=by
 obtain⟨a,c,rfl,_⟩:=LA.open hv;have HR:=Hd (fun W (hB:Below w.heap.size w W)=>sRa vs s p W (hs.ag (Ag.new p hB)));rw[hsch]at HR;obtain⟨vd,vm,rfl,hd,Ad,_,_⟩:=hs;obtain⟨ad,Aa,rfl,_⟩:=sl3 hd;obtain⟨am,Ab,rfl,_⟩:=sl3 Ad;have Ah:decide ((1000:Int)<(C.length:Int))=true:=decide_eq_true (by omega);clear hv hd Ad hsch hm
 obtain⟨W0,Af⟩:=XQ (w.alloc (.cells #[.slice ad s.dims.length Aa,.slice am s.mets.length Ab,.int .i64 s.grain] 24))
 obtain⟨k0,kS,kB⟩:=la2 w (.cells #[.slice ad s.dims.length Aa,.slice am s.mets.length Ab,.int .i64 s.grain] 24);rw[Af]at k0 kS kB;obtain⟨⟨x0,x1,x2⟩,_⟩:=can3 k0;have K0:=Hd k0;have KB:=Hd kB;clear k0 kS kB;refine(qZ (n:=5)).1 ?_;refine jL Tryz.func17 rfl trivial ?_ rfl;simp only[Tryz.ntmps17,qu,qU,zE,Nat.reduceAdd,Nat.reduceSub,qv,qw,zO,zC,qr,qk];gi_wp2;refine Rf.wIs ?_
 gi_wp2_with (refine⟨trivial,?_⟩;gi_at_call 23;refine(qZ.2 (HR.out _ KB.out)).mono ?_;rintro e w1 ⟨rfl,Ac⟩;have Ae:=Hd (Bt KB.out Ac);have K1:=Hd ((Ac.block _ (qA.1 K0.out).1).trans K0.out);clear Ac x0 x1 x2);gi_wp2_with (refine⟨trivial,?_⟩);rw[zI];refine⟨.bool false,by simp[results,Tryz.results17,go_sem],rfl,Ae.out⟩
theorem rs7(p:Nat->Prop)(vs va:Value)(s:Tess.Sch)(C:List RCel)(w:World)(hs:SA p w vs s)(hv:LA 6 (RA2 p) p w va C)(hsch:Tess.sO s=true)(hcl:C.length<=1000)(hno:C.all (·.ok s)=false)(hrn:∀x∈C,(∀z∈x.mins,I64 z)/\∀z∈x.maxs,I64 z) :
  Calls Tryz.prog 17 #[vs,va] w fun e w'=>e = .returned (.bool false)/\Below w.heap.size w w':=by
 obtain⟨a,c,rfl,Ae,us,Aj⟩:=LA.rows hv;have HR:=Hd (fun W (hB:Below w.heap.size w W)=>sRa vs s p W (hs.ag (Ag.new p hB)));rw[hsch]at HR;have An:=hs;obtain⟨vd,vm,rfl,hd,Al,_,_⟩:=hs;obtain⟨ad,Ac,rfl,_⟩:=sl3 hd;obtain⟨am,Ad,rfl,_⟩:=sl3 Al;have Ar:=Hd Aj
 have Af:=Hd (fun W (hB:Below w.heap.size w W) (hbx:W.heap[w.heap.size]?=some (.cells #[.slice ad s.dims.length Ac,.slice am s.mets.length Ad,.int .i64 s.grain] 24 (0,0)))=>crR w.heap.size (fun x=> !x.ok s) C a c W Ae (fun k hk=>by
  obtain⟨e6,hR,b,Ab,ha,hb,hp,Aa⟩:=Aj k hk;obtain⟨y0,y1,y2,y3,y4,y5,ey⟩:=six e6;rw[ey]at Aa hR;refine⟨b,Ab,ha,qF hb hB.size,y0,y1,y2,y3,y4,y5,⟨?_,?_,?_,?_,?_,?_⟩,fun W' hW'=>?_⟩
  ·exact(hB.cell (p:=⟨b,Ab+k*6,none⟩) hb).trans (Aa 0 (by omega))
  ·exact(hB.cell (p:=⟨b,Ab+k*6+1,none⟩) hb).trans (Aa 1 (by omega))
  ·exact(hB.cell (p:=⟨b,Ab+k*6+2,none⟩) hb).trans (Aa 2 (by omega))
  ·exact(hB.cell (p:=⟨b,Ab+k*6+3,none⟩) hb).trans (Aa 3 (by omega))
  ·exact(hB.cell (p:=⟨b,Ab+k*6+4,none⟩) hb).trans (Aa 4 (by omega))
  ·exact(hB.cell (p:=⟨b,Ab+k*6+5,none⟩) hb).trans (Aa 5 (by omega))
  ·have Am:=Bt hB hW'
   exact rGa w.heap.size p [_,_,_] _ s C[k] W' ((hW'.block _ (qA.1 hbx).1).trans hbx) (An.ag (Ag.new p Am)) (hR.ag (Ag.new p Am)) hsch (hrn _ (qP hk)).1 (hrn _ (qP hk)).2))
 have Ah:C.any (fun x=> !x.ok s)=true:=by rw[yj];rw[List.all_eq_false]at hno;obtain⟨x,hx,h⟩:=hno;exact⟨x,hx,by simpa using h⟩
 rw[Ah]at Af;have As:decide ((1000:Int)<(C.length:Int))=false:=qG (by omega);clear An hd Al hv Aj Ae Ah hno hrn hsch;obtain⟨W0,Aq⟩:=XQ (w.alloc (.cells #[.slice ad s.dims.length Ac,.slice am s.mets.length Ad,.int .i64 s.grain] 24))
 obtain⟨k0,kS,kB⟩:=la2 w (.cells #[.slice ad s.dims.length Ac,.slice am s.mets.length Ad,.int .i64 s.grain] 24);rw[Aq]at k0 kS kB;obtain⟨⟨x0,x1,x2⟩,_⟩:=can3 k0;have K0:=Hd k0;have KB:=Hd kB;clear k0 kS kB;refine(qZ (n:=5)).1 ?_;refine jL Tryz.func17 rfl trivial ?_ rfl;simp only[Tryz.ntmps17,qu,qU,zE,Nat.reduceAdd,Nat.reduceSub,qv,qw,zO,zC,qr,qk];gi_wp2;refine Rf.wIs ?_
 gi_wp2_with (refine⟨trivial,?_⟩;gi_at_call 23;refine(qZ.2 (HR.out _ KB.out)).mono ?_;rintro e w1 ⟨rfl,Ai⟩;have Ak:=Hd (Bt KB.out Ai);have K1:=Hd ((Ai.block _ (qA.1 K0.out).1).trans K0.out);clear Ai x0 x1 x2);gi_wp2_with (refine⟨trivial,?_⟩;gi_at_call 36;refine(qZ.2 (Af.out _ Ak.out K1.out)).mono ?_;rintro e w2 ⟨rfl,Ao⟩;have Ap:=Hd (Bt Ak.out Ao);clear Ao);gi_wp2_with (refine⟨trivial,?_⟩);rw[zI]
 refine⟨.bool false,by simp[results,Tryz.results17,go_sem],rfl,Ap.out⟩
theorem rf2(p:Nat->Prop)(vs va:Value)(s:Tess.Sch)(C:List RCel)(w:World)(hs:SA p w vs s)(hv:LA 6 (RA2 p) p w va C)(hrn:∀x∈C,(∀z∈x.mins,I64 z)/\∀z∈x.maxs,I64 z) :
  Calls Tryz.prog 17 #[vs,va] w fun e w'=>e = .returned (.bool (rB2 s C))/\Below w.heap.size w w':=by
 cases hsch:Tess.sO s
 ·have e:rB2 s C=false:=by unfold rB2;rw[hsch];rfl
  rw[e];exact rs9 p vs va s C w hs hv hsch
 by_cases hcl:C.length<=1000;rotate_left
 ·have e:rB2 s C=false:=by unfold rB2;rw[qG hcl,yp,qo]
  rw[e];exact rm5 p vs va s C w hs hv hsch (by omega)
 cases hall:C.all (·.ok s)
 ·have e:rB2 s C=false:=by unfold rB2;rw[hall,qo,yp]
  rw[e];exact rs7 p vs va s C w hs hv hsch hcl hall hrn
 have Ad:∀x∈C,x.ok s=true:=qx.1 hall
 have Aa:∀k (h:k<C.length),(C.map RCel.ck).getD k (0,[])=C[k].ck:=fun k h=>by rw[qE,qp,qD h];rfl
 by_cases hst:∃m,m<C.length-1/\ckLt ((C.map RCel.ck).getD m (0,[])) ((C.map RCel.ck).getD (m+1) (0,[]))=false
 ·have e:rB2 s C=false:=by
   unfold rB2;obtain⟨m,hm,h⟩:=hst
   have:((List.range (C.length-1)).all fun k=>ckLt ((C.map RCel.ck).getD k (0,[])) ((C.map RCel.ck).getD (k+1) (0,[])))=false:=by rw[List.all_eq_false];exact⟨m,zV.2 hm,by simp only[h];decide⟩
   rw[this,yp,yp]
  rw[e]
  have Ac:∃m,(m<C.length-1/\ckLt ((C.map RCel.ck).getD m (0,[])) ((C.map RCel.ck).getD (m+1) (0,[]))=false)/\∀k,k<m->¬(k<C.length-1/\ckLt ((C.map RCel.ck).getD k (0,[])) ((C.map RCel.ck).getD (k+1) (0,[]))=false):=by
   obtain⟨m,hm⟩:=hst
   induction m using Nat.strongRecOn with
   |ind m ih=>
     by_cases h:∃k,k<m/\(k<C.length-1/\ckLt ((C.map RCel.ck).getD k (0,[])) ((C.map RCel.ck).getD (k+1) (0,[]))=false)
     ·obtain⟨k,hk,Ag⟩:=h;exact ih k hk Ag
     ·exact⟨m,hm,fun k hk h2=>h ⟨k,hk,h2⟩⟩
  obtain⟨m,⟨hm,Af⟩,Ah⟩:=Ac;refine right_stop p vs va s C w hs hv hsch hcl Ad hrn m hm (fun k h1 h2 hk=>?_) fun h1 h2=>?_
  ·have:=Ah k hk;rw[Aa k h1,Aa (k+1) h2]at this;cases h:ckLt C[k].ck C[k+1].ck
   ·exact absurd ⟨by omega,h⟩ this
   ·rfl
  ·rw[Aa m h1,Aa (m+1) h2]at Af;exact Af
 ·have Ae:∀k (h1:k<(C.map RCel.ck).length) (h2:k+1<(C.map RCel.ck).length),ckLt (C.map RCel.ck)[k] (C.map RCel.ck)[k+1]=true:=fun k h1 h2=>by
   rw[qX]at h1 h2;simp only[zL];cases h:ckLt C[k].ck C[k+1].ck
   ·exact absurd ⟨k,by omega,by rw[Aa k h1,Aa (k+1) h2];exact h⟩ hst
   ·rfl
  have e:rB2 s C=true:=by
   unfold rB2;rw[hsch,hall,decide_eq_true hcl,zl,zl,zl,qx];intro k hk;have hk:=zV.1 hk;cases h:ckLt ((C.map RCel.ck).getD k (0,[])) ((C.map RCel.ck).getD (k+1) (0,[]))
   ·exact absurd ⟨k,hk,h⟩ hst
   ·rfl
  rw[e]
  have Ab:CO s (C.map RCel.cel):=by
   refine⟨hsch,by rw[qX];exact hcl,fun y hy=>?_,?_⟩
   ·obtain⟨x,hx,rfl⟩:=qd.1 hy;exact(Tess.ro4 (hrn x hx).1 (hrn x hx).2 (Ad x hx)).1
   ·have:=Tess.aa2 Tess.cs5 (C.map RCel.ck) Ae;rw[xi]at this;show(C.map RCel.cel).Pairwise fun a b=>ckLt a.1 b.1=true;rw[xi];exact this
  exact ra55 p vs va s (C.map RCel.cel) w hs (LA.maps RCel.cel hv fun cs x hx h=>h.cel (Tess.ro4 (hrn x hx).1 (hrn x hx).2 (Ad x hx)).2) Ab
end Go.Proofs.Q9
namespace Tess
open Go Kl Go.RowKit Go.Proofs.Q9
theorem hr6{s:Sch}{C:List (CK×Pay)}(h:CO s C):∀m,m<s.mets.length->∀x∈C,I64 (wHi (x.2.sums.getD m 0)):=fun m hm x hx=>by have hp:=(h.each x hx).pay;obtain⟨h1,h2,h3⟩:=hp.sum m hm;obtain⟨r1,r2,r3,r4⟩:=hp.rng m hm;have h0:=hp.one;have hmost:=(h.each x hx).most;have m1: -9223372036854775808*(x.2.n-1)<=x.2.mins.getD m 0*(x.2.n-1):=jx r1 (by omega);have m2:x.2.maxs.getD m 0*(x.2.n-1)<=9223372036854775807*(x.2.n-1):=jx r4 (by omega);unfold wHi I64;omega
theorem wf3{s:Sch}{C:List (CK×Pay)}(h:CO s C)(i:Nat):∀y∈dW C i,y.size<=100:=fun y hy=>ds4 h i y ((sWa _ y).2 hy)
theorem pm2{s:Sch}{C:List (CK×Pay)}(h:CO s C):(∀x∈(pS2 s C).map mk,x.size<=maxLen)/\((pS2 s C).map mk).length<=1000:=by
 obtain⟨h1,h2,_⟩:=sf2 h.sch;have hl:=h.len
 have hp:∀l:List Int,l.length=C.length->(pL2 l).length<=20000:=fun l e=>by have:=pLf l (by omega);omega
 refine⟨fun x hx=>?_,by simp[pS2];omega⟩;obtain⟨y,hy,rfl⟩:=qd.1 hx;rw[ms2]
 suffices y.length<=1000000000 by unfold maxLen;omega
 unfold pS2 at hy;simp only[qm,zk,qd,zV]at hy;rcases hy with rfl|rfl|⟨i,_,rfl⟩|⟨m,_,rfl⟩
 ·have:=hf4 h.sch;omega
 ·unfold colT;rw[qI];have a1:=hp (C.map fun x=>x.1.1) (qX _);have a2:=hp (C.map fun x=>x.2.n) (qX _);omega
 ·exact cDa C hl i (wf3 h i)
 ·unfold colM;simp only[qI];have a1:=hp (C.map fun x=>wHi (x.2.sums.getD m 0)) (qX _);have a2:=hp (C.map fun x=>wrap64 (wLo (x.2.sums.getD m 0))) (qX _);have a3:=hp (C.map fun x=>x.2.mins.getD m 0) (qX _);have a4:=hp (C.map fun x=>x.2.maxs.getD m 0) (qX _);omega
end Tess
namespace Go.Proofs.Q9
open Go.RowKit Go.Sort
open Tess (CK Pay RCel rB2)
theorem CA2.lt{p:Nat->Prop}{w:World}{v:Value}{l:List (CK×Pay)}(h:CA2 p w v l):CA2 (fun b=>p b/\b<w.heap.size) w v l:=by obtain⟨a,c,hv,h1,h2,h3,h4⟩:=h;refine⟨a,c,hv,h1,h2,h3,fun hl=>?_⟩;obtain⟨b,Aa,ha,hb,hp,hc⟩:=h4 hl;exact⟨b,Aa,ha,hb,⟨hp,hb⟩,fun j hj=>let⟨cs,h5,h6,h7⟩:=hc j hj;⟨cs,h5,cn4.lt h6,h7⟩⟩
theorem RC2.ag{p:Nat->Prop}{w w':World}{v:Value}{l:List RCel}(h:LA 6 (RA2 p) p w v l)(hg:Ag p w w'):LA 6 (RA2 p) p w' v l:=LA.ag h hg fun _ _ _ h=>h.ag hg
theorem sa5(p:Nat->Prop)(vs va:Value)(s:Tess.Sch)(C:List RCel)(w:World)(hs:SA p w vs s)(hv:LA 6 (RA2 p) p w va C)(hrn:Tess.RRng C) :
  Calls Tryz.prog 11 #[vs,va] w fun e w'=>e = .returned (.tuple #[.string (Tess.encR s C).1,.int .i64 ((Tess.encR s C).2:Nat)])/\Below w.heap.size w w':=by
 cases hok:Tess.sO s
 ·rw[show Tess.encR s C=(Tess.mk [],100) by unfold Tess.encR;rw[qR hok]];exact ss4 p vs va s w hs hok
 have HR:∀W,Below w.heap.size w W->Calls Tryz.prog 17 #[vs,va] W fun e w'=>e = .returned (.bool (rB2 s C))/\Below W.heap.size W w':=fun W hB=>rf2 p vs va s C W (hs.ag (Ag.new p hB)) (RC2.ag hv (Ag.new p hB)) hrn;cases hr:rB2 s C
 ·rw[show Tess.encR s C=(Tess.mk [],120) by unfold Tess.encR;rw[qH (by rw[hok];decide),qR hr]];rw[hr]at HR;exact sc4 p vs va s w hs hok HR
 rw[hr]at HR;obtain⟨Aa,Ac⟩:=Tess.rBc hr hrn;rw[show Tess.encR s C=Tess.jP ((Tess.pS2 s (C.map RCel.cel)).map Tess.mk) by unfold Tess.encR;rw[qH (by rw[hok];decide),qH (by rw[hr];decide)]];have Ab:CA2 p w va (C.map RCel.cel):=LA.maps RCel.cel hv fun cs x hx h=>h.cel (Ac x hx);generalize C.map RCel.cel=D at *;clear hv hr hrn Ac;have Ah:=Ab;have Af:=hs;obtain⟨a,Ai,rfl,_⟩:=Ah
 obtain⟨vd,vm,rfl,hd,hm,_⟩:=hs;obtain⟨ad,Ad,rfl,_⟩:=sl3 hd;obtain⟨am,Ae,rfl,_⟩:=sl3 hm;obtain⟨f1,f2,_⟩:=Tess.sf2 hok;refine so6 p ad am a Ad Ae Ai s D w Af hok Ab (Tess.pm2 Aa).1 (Tess.pm2 Aa).2 (fun W0 b hB h0 h1=>?_) HR
 refine ci2 b _ _ ad am Ad Ae s.grain _ D (fun x=>p x/\x<w.heap.size) _ (fun c hc=>.inl hc) W0 h0 (cob h1).1 (.inr (.inl rfl)) (.inr (.inr rfl)) (Ab.lt.ag (Ag.new _ hB)) Aa.len f1 f2 (fun x hx=>(Aa.each x hx).dims.1) (Tess.wf3 Aa) (fun i=>Tess.cDa D Aa.len i (Tess.wf3 Aa i)) (fun x hx=>(Aa.each x hx).pay.len) (Tess.hr6 Aa) (fun m hm x hx=>?_) (fun m hm x hx=>?_) (fun x hx=>?_) (fun x hx=>?_)
 ·obtain⟨r1,r2,r3,r4⟩:=(Aa.each x hx).pay.rng m hm;exact⟨r1,r2⟩
 ·obtain⟨r1,r2,r3,r4⟩:=(Aa.each x hx).pay.rng m hm;exact⟨r3,r4⟩
 ·have:=(Aa.each x hx).time;unfold I64;omega
 ·have:=(Aa.each x hx).most;have:=(Aa.each x hx).pay.one;unfold I64;omega
end Go.Proofs.Q9
namespace Go.Proofs.Q9
open Go.RowKit Go.Sort
theorem ba7(n:Nat)(w:World)(hn:n<18446744073709551616):Calls Tryz.prog 171 #[.int .u64 n] w fun e w'=>e = .returned (.int .i64 (Tess.bN2 n))/\w'=w:=by
 have h1:IntKind.i64.wrap ((n:Int)/2)=((n/2:Nat):Int):=by rw[wrap_i64];unfold wrap64;omega
 have h2:bits .and .u64 (n:Int) 1=((n%2:Nat):Int):=by have:=u64_and_nat n 1 hn (by decide);rw[show n &&& 1=n%2 from Nat.and_one_is_mod n]at this;exact this
 have h3:IntKind.i64.wrap (((n%2:Nat):Int))=((n%2:Nat):Int):=by rw[wrap_i64];unfold wrap64;omega
 have h4:bits .xor .i64 ((n:Int)/2) (-((n:Int)%2))=Tess.bN2 n:=by
  rw[show(n:Int)/2=((n/2:Nat):Int) by omega];unfold Tess.bN2;rcases yR n with h|h
  ·rw[show -((n:Int)%2)=0 by omega,qR h];exact ix0 _ (by omega)
  ·rw[show -((n:Int)%2) = -1 by omega,qH (by omega),ixm (n/2) (by omega)];omega
 go_enter Tryz.func171,Tryz.ntmps171;go_wp2;go_ret;exact⟨by rw[<-h4];rfl,rfl⟩
end Go.Proofs.Q9
namespace Tess
def FinU(T:List Int×ByteArray×Nat)(o:List Int)(m:Nat)(last:Int)(r:ByteArray)(c:Nat):Prop:=(c=0/\T=(o++(takeN m last r).1,(takeN m last r).2))∨(c≠0/\T.2.2=c)
theorem FinU.step{T:List Int×ByteArray×Nat}{o:List Int}{m:Nat}{last:Int}{r:ByteArray}(h:FinU T o (m+1) last r 0):((getW r).2.2=0->FinU T (o++[Go.RowKit.wrap64 (last+bN2 (getW r).1)]) m (Go.RowKit.wrap64 (last+bN2 (getW r).1)) (getW r).2.1 0)/\((getW r).2.2≠0->FinU T o m last (getW r).2.1 (getW r).2.2):=by
 rcases h with⟨_,h⟩|⟨h,_⟩
 ·refine⟨fun hc=>.inl ⟨rfl,?_⟩,fun hc=>.inr ⟨hc,?_⟩⟩
  ·rw[h];simp only[takeN,hc,jH];simp
  ·rw[h];simp only[takeN,qH hc]
 ·exact absurd rfl h
theorem uWo{s:ByteArray}(T:List Int×ByteArray×Nat)(h:T=if(getW s).2.2≠0 then([],s,(getW s).2.2)else if 1000<(getW s).1 then([],s,20)else takeN (getW s).1 0 (getW s).2.1):uW s=if T.2.2=0 then T else([],s,T.2.2):=by
 unfold uW;by_cases h1:(getW s).2.2≠0
 ·rw[qR h1]at h⊢;rw[h,qH h1]
 ·rw[qH h1]at h⊢;by_cases h2:1000<(getW s).1
  ·rw[qR h2]at h⊢;rw[h];rfl
  ·rw[qH h2]at h⊢;rw[<-h]
end Tess
namespace Go.Proofs.Q9
open Go.RowKit Go.Sort
theorem eVs(a0 a1:Addr){c:Nat}(h:c≠0):∃p,deV a0 a1 c = .iface 314 (.pointer (some p)):=by unfold deV;rw[qH h];exact⟨_,rfl⟩
theorem ua2(a0 a1:Addr)(s:ByteArray)(w:World)(hv:DV2 a0 a1 w) :
  Calls Tryz.prog 132 #[.string s] w fun e w'=>∃v,e = .returned (.tuple #[v,.string (Tess.uW s).2.1,.int .i64 ((Tess.uW s).2.2:Nat)])/\w'.ownsRow w.heap.size 2 1 v (Tess.uW s).1.length ((Tess.uW s).1.map (.int .i64))/\Below w.heap.size w w':=by
 obtain⟨w0,Az⟩:=XQ (w.alloc (.cells #[.string s] 236))
 have A0:Below w.heap.size w w0:=by rw[<-Az];exact(qJ _ _).alloc (qC _) _
 have A3:w0.heap.size=w.heap.size+1:=by rw[<-Az];simp
 have h0:w0.heap[w.heap.size]?=some (.cells #[.string s] 236 (0,0)):=by rw[<-Az];exact zS w _
 obtain⟨c0,z0⟩:=dco h0;have hn:=na2 a0 a1 w.heap.size s w0 (hv.below A0) c0 z0;obtain⟨T,hT⟩:=Xq (if(Tess.getW s).2.2≠0 then([],s,(Tess.getW s).2.2)else if 1000<(Tess.getW s).1 then([],s,20)else Tess.takeN (Tess.getW s).1 0 (Tess.getW s).2.1:List Int×ByteArray×Nat)
 rw[Tess.uWo T hT];obtain⟨U,hU⟩:=Xq (if T.2.2=0 then T else([],s,T.2.2):List Int×ByteArray×Nat)
 rw[<-hU];have HU:=Hd hU;clear hU;have Ae:=gWc s;have Ak:=Tess.gWl s;obtain⟨⟨n,r0,c⟩,hg⟩:∃g,g=Tess.getW s:=⟨_,rfl⟩
 rw[<-hg]at hn hT Ae Ak;simp only at hn hT Ae Ak;have HN:=Hd hn;have HT:=Hd hT;have A6:=Hd A0;have Bl:=Hd A3;have g2:=hv.g2;have HV:=Hd hv;obtain⟨i0,hi,A7,Bg,Be⟩:=zF (P:=Tryz.prog) (e:=2) (z:=.int .i64 0) (size:=1) (bytes:=8) (by kernel_rfl);have Bc:∀x:Bool,(if(x=true)then true else false)=x:=fun x=>by cases x<;>rfl
 clear hn hT hg A0 A3 hv h0 c0 z0 Bc;go_enter Tryz.func132,Tryz.ntmps132;go_wp2_with (fail);go_at_call 170;refine HN.out.mono ?_;rintro e w1 ⟨rfl,c1,z1,A4⟩;have Aq:=A4.from A6.out (qC _);have A5:=qK _ _ g2;have Bm:=(Aq.cell (p:=⟨1,0,none⟩) A5).trans g2;have Ba:=Hd Aq;have Bn:=Hd (HV.out.below Aq);clear A4 Aq A5 g2;by_cases hc:c=0;rotate_left
 obtain⟨p,hp⟩:=eVs a0 a1 hc;obtain⟨C,hC⟩:=Xq (c:Nat)
 have HF:=Hd (show Value.iface 314 (.pointer (some p))=deV a0 a1 C/\(C=0∨C=20∨C=21)/\Tess.FinU T [] n 0 r0 C/\(C=0->n<=1000) by rw[hC];exact⟨hp.symm,Ae,.inr ⟨hc,by rw[HT.out,qR hc]⟩,fun h=>absurd h hc⟩);rw[hp];go_wp2_with (fail);rotate_left
 subst hc;by_cases hn:1000<n;have Bk:(1000:Int)<(n:Int):=by omega
 obtain⟨C,hC⟩:=Xq (20:Nat)
 have HF:=Hd (show Value.iface 314 (.pointer (some a1))=deV a0 a1 C/\(C=0∨C=20∨C=21)/\Tess.FinU T [] n 0 r0 C/\(C=0->n<=1000) by rw[hC];exact⟨rfl,.inr (.inl rfl),.inr ⟨by omega,by rw[HT.out,qH (by simp),qR hn]⟩,fun h=>by omega⟩);rw[show deV a0 a1 0 = .nilIface from rfl];go_wp2_with (fail);rotate_left
 have Bk:¬(1000:Int)<(n:Int):=by omega
 obtain⟨C,hC⟩:=Xq (0:Nat)
 have HF:=Hd (show Value.nilIface=deV a0 a1 C/\(C=0∨C=20∨C=21)/\Tess.FinU T [] n 0 r0 C/\(C=0->n<=1000) by rw[hC];exact⟨rfl,.inl rfl,.inl ⟨rfl,by rw[HT.out,qH (by simp),qH hn];rfl⟩,fun _=>by omega⟩);rw[show deV a0 a1 0 = .nilIface from rfl];go_wp2_with (fail);rotate_left
 all_goals
  go_loopw [6,7,8,9] (fun v6 v7 v8 v9 wr=>∃(m c':Nat) (o:List Int) (Ab:Int) (r:ByteArray),v6 = .int .u64 m/\v7=deV a0 a1 c'/\wr.ownsRow (w.heap.size+1) 2 1 v8 o.length (o.map (.int .i64))/\v9 = .int .i64 Ab/\wr.cell? ⟨w.heap.size,0,none⟩=some (.string r)/\wr.frozen? ⟨w.heap.size,0,none⟩=false/\(c'=0∨c'=20∨c'=21)/\Tess.FinU T o m Ab r c'/\(c'=0->o.length+m<=1000)/\Below w.heap.size w wr) (fun v6 _ _ _ _=>(intOf v6).toNat)
  case atStart=>exact⟨n,C,[],0,r0,rfl,HF.out.1,qg _ _ _ _,rfl,c1,z1,HF.out.2.1,HF.out.2.2.1,fun h=>by simpa using HF.out.2.2.2 h,Ba.out⟩
  case round=>
   obtain⟨m,c',o,Ab,r,rfl,rfl,Al,rfl,Ao,At,Ai,Aj,Af,hB⟩:=hrel;have HO:=Hd Al;have Av:=Hd Aj;have HB:=Hd hB;have Bp:=Hd Ao;have Bq:=Hd Af;have A8:=Hd Ai;have A2:=Hd (HV.out.below hB);clear Al Aj Ai;by_cases hc':c'=0
   ·subst hc';have Aw:=Af rfl;rw[show deV a0 a1 0 = .nilIface from rfl];clear Af;cases m with
    |zero=>
      have Ad:T=(o,r,0):=by
       rcases Av.out with⟨_,h⟩|⟨h,_⟩
       ·simpa[Tess.takeN]using h
       ·exact absurd rfl h
      have Bi:=Hd (ol2 HO.out (Nat.le_succ _));have HR:=Hd (show U=(o,r,0) by rw[HU.out,Ad];rfl);clear Ad;go_wp2_with (fail);go_quiet (fail);go_wp2_with (fail);go_ret3;exact⟨_,by rw[HR.out];rfl,by rw[HR.out];exact Bi.out,zi HB.out _⟩
    |succ m=>
      have Bo:(0:Int)<((m+1:Nat):Int):=by omega
      have Ax:=Hd (na2 a0 a1 w.heap.size r wr A2.out Ao At);obtain⟨An,Ap⟩:=Av.out.step;have Aa:=gWc r;have Ah:=Tess.gWl r;obtain⟨⟨gn,gr,gc⟩,hg⟩:∃g,g=Tess.getW r:=⟨_,rfl⟩
      rw[<-hg]at Ax An Ap Aa Ah;simp only at Ax An Ap Aa Ah;have A9:=Hd An;have Bj:=Hd Ap;clear An Ap hg Ao At hB;go_wp2_with (fail);go_at_call 170;refine Ax.out.mono ?_;rintro e w2 ⟨rfl,c2,z2,k2⟩;have Ar:=Hd (k2.owns HO.out (by omega));have A1:=Hd (k2.from HB.out (qC _));have As:=Hd (qK _ _ c2);clear k2;by_cases hgc:gc=0
      ·subst hgc;rw[show deV a0 a1 0 = .nilIface from rfl];have Bh:IntKind.i64.wrap (Ab+Tess.bN2 gn)=wrap64 (Ab+Tess.bN2 gn):=wrap_i64 _;have HX:=Hd (A9.out rfl);obtain⟨x,hx⟩:=Xq (wrap64 (Ab+Tess.bN2 gn))
       rw[<-hx]at Bh HX;clear hx
       go_wp2_with (first
        |(go_at_call 171;refine(ba7 gn _ Ah).mono ?_;rintro e w3 ⟨rfl,rfl⟩)
        |(at_builtin;refine qq _ rfl _ _ 49 rfl (w.heap.size+1) 2 i0 (.int .i64 0) 1 8 Tryz.underlying49 hi A7 Bg Be rfl (by decide) _ _ _ rfl (Ar.out.alloc _) ⟨w3.heap.size,0,none⟩ 1 1 [.int .i64 x] rfl rfl (zh _ _ _) (by simp[Value.oneCell']) (by unfold maxLen;omega) (by omega) (by have:=As.out;simp;omega) ?_))
       intro v' w4 Ag Ac _;have Ay:w4.heap[w.heap.size]?=w3.heap[w.heap.size]?:=(Ac.block _ (by have:=As.out;simp;omega) (fun e=>by have:=(Ar.out.lt _ e.symm).1;omega)).trans (zu w3 _ _ As.out);have C4:=Hd ((jz (a:=⟨w.heap.size,0,none⟩) Ay).trans c2);have Z4:=Hd ((World.frozen?_of_block (a:=⟨w.heap.size,0,none⟩) Ay).trans z2)
       have Bf:=Hd ((A1.out.alloc A1.out.size (.cells #[.int .i64 x] 2)).grown Ac (by have:=As.out;simp;omega) (fun k e=>by have:=(Ar.out.lt k e).1;omega));have Bd:=Hd (show w4.ownsRow (w.heap.size+1) 2 1 v' (o++[x]).length ((o++[x]).map (.int .i64)) by rw[qI,qs];exact Ag);clear Ay Ac Ag c2 z2;go_wp2_with (fail);go_roundw
       case rel=>exact⟨m,0,o++[x],x,gr,by go_num,rfl,Bd.out,rfl,C4.out,Z4.out,.inl rfl,HX.out,fun _=>by rw[qI,zX];omega,Bf.out⟩
       case measure=>simp[intOf]
      ·obtain⟨p2,Am⟩:=eVs a0 a1 hgc;rw[Am];go_wp2_with (fail);go_roundw
       case rel=>exact⟨m,gc,o,Ab,gr,by go_num,Am.symm,Ar.out,rfl,c2,z2,Aa,Bj.out hgc,fun h=>absurd h hgc,A1.out⟩
       case measure=>simp[intOf]
   ·obtain⟨p2,Am⟩:=eVs a0 a1 hc';have Au:=va2 a0 a1 c' wr A2.out A8.out;rw[Am]at Au⊢;have Bb:=Hd Au
    have Ad:T.2.2=c':=by
     rcases Av.out with⟨h,_⟩|⟨_,h⟩
     ·exact absurd h hc'
     ·exact h
    have HR:=Hd (show U=([],s,c') by rw[HU.out,Ad,qH hc']);clear Ao At Af Ad Au Am;go_wp2_with (go_at_call 172;refine Bb.out.mono ?_;rintro e w2 ⟨rfl,rfl⟩);go_ret3;exact⟨_,by rw[HR.out];rfl,by rw[HR.out];exact qg _ _ _ _,HB.out⟩
