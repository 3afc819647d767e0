/- Joined. -/
import Derived.Test.YtjdccifdkjnknaaGreatDoorZC35
set_option maxRecDepth 100000
set_option maxHeartbeats 8000000
namespace Go.Proofs.Q9
open Go.RowKit Go.Sort Go.Shelf
open Tess (DV ckLt)
def y13(k:Nat):Int×DV×Int:=if k=0 then(0,some Tess.tyy,1)else(5,none,1)
theorem or2{W:World}{N g n c:Nat}{xs:List Value}(h:W.ownsRow N 56 6 (.slice (some ⟨g,0,none⟩) n c) n xs)(hn:0<n):(∃cur,W.heap[g]?=some (.cells cur 56 (0,0)))/\N<=g/\g<W.heap.size/\∀j,j<n*6->W.cell? ⟨g,j,none⟩=xs[j]?:=by
 obtain⟨q,Ab,e,h1,h2,_,_,h3⟩:=oca h hn;rcases h.2 with⟨e2,_⟩|⟨g',Aa,cur,hv,_,h4,_⟩
 ·cases e2
 ·cases hv;cases e;exact⟨⟨_,h4⟩,h1,h2,h3⟩
def St13(N k:Nat)(v:Value)(W:World):Prop:=(k=0/\v = .slice none 0 0)∨(k=1/\∃g v0,v = .slice (some ⟨g,0,none⟩) 1 1/\N<g/\g<W.heap.size/\(∀j,j<6->W.cell? ⟨g,j,none⟩=(cv (0,some Tess.tyy,1) v0)[j]?)/\V1 (N+1) (some Tess.tyy) v0 W) ∨
 (2<=k/\k<=3/\∃g v0 v1 cur,v = .slice (some ⟨g,0,none⟩) 2 2/\N<g/\W.heap[g]?=some (.cells cur 56 (0,0))/\(∀j,j<12->W.cell? ⟨g,j,none⟩=(cv (0,some Tess.tyy,1) v0++cv (5,none,(k:Int)-1) v1)[j]?)/\V1 (N+1) (some Tess.tyy) v0 W/\V1 (N+1) none v1 W)
theorem St13.below{N k:Nat}{v:Value}{W W':World}(h:St13 N k v W)(hb:Below W.heap.size W W'):St13 N k v W':=by
 rcases h with h|⟨h1,g,v0,h2,h3,h4,h5,h6⟩|⟨h1,h2,g,v0,v1,Aa,h3,h4,h5,h6,h7,h8⟩
 ·exact .inl h
 ·exact .inr (.inl ⟨h1,g,v0,h2,h3,qF h4 hb.size,fun j hj=>(hb.cell (p:=⟨g,j,none⟩) h4).trans (h5 j hj),h6.below hb⟩)
 ·have hl:=(qA.1 h5).1;exact .inr (.inr ⟨h1,h2,g,v0,v1,Aa,h3,h4,(hb.block g hl).trans h5,fun j hj=>(hb.cell (p:=⟨g,j,none⟩) hl).trans (h6 j hj),h7.below hb,h8.below hb⟩)
theorem St13.shape{N k:Nat}{v:Value}{W:World}(h:St13 N k v W):∃la n,v = .slice la n n/\n<=2:=by
 rcases h with⟨_,h⟩|⟨_,g,v0,h2,_⟩|⟨_,_,g,v0,v1,Aa,h3,_⟩
 ·exact⟨_,_,h,by omega⟩
 ·exact⟨_,_,h2,by omega⟩
 ·exact⟨_,_,h3,by omega⟩
theorem sc5{W:World}{g:Nat}{cur:Array Value}{T:TypeId}{x0 x1 x2 x3 x4 x5:Value}{xs:List Value}(h:W.heap[g]?=some (.cells cur T (0,0)))(hl:xs.length=6){ys:List Value}(hy:ys.length=6)(hc:∀j,j<12->W.cell? ⟨g,j,none⟩=(xs++ys)[j]?) :
  ∃cur',((((((W.setCell ⟨g,6,none⟩ x0).setCell ⟨g,7,none⟩ x1).setCell ⟨g,8,none⟩ x2).setCell ⟨g,9,none⟩ x3).setCell ⟨g,10,none⟩ x4).setCell ⟨g,11,none⟩ x5).heap[g]?=some (.cells cur' T (0,0))/\∀j,j<12->((((((W.setCell ⟨g,6,none⟩ x0).setCell ⟨g,7,none⟩ x1).setCell ⟨g,8,none⟩ x2).setCell ⟨g,9,none⟩ x3).setCell ⟨g,10,none⟩ x4).setCell ⟨g,11,none⟩ x5).cell? ⟨g,j,none⟩=(xs++[x0,x1,x2,x3,x4,x5])[j]?:=by
 have h6:=qO _ _ 11 _ _ x5 (qO _ _ 10 _ _ x4 (qO _ _ 9 _ _ x3 (qO _ _ 8 _ _ x2 (qO _ _ 7 _ _ x1 (qO _ _ 6 _ _ x0 h)))));refine⟨_,h6,fun j hj=>?_⟩;rw[qT _ _ _ _ _ _ h6];have Aa:∀j,j<12->cur[j]?=(xs++ys)[j]?:=fun j hj=>(qT _ _ _ _ _ _ h).symm.trans (hc j hj)
 have hs:11<cur.size:=by have:=Aa 11 (by omega);rw[qD (by rw[qI];omega)]at this;exact(qA.1 this).1
 simp only[zt,xp];by_cases h5:j<6
 ·rw[jX (by omega),<-jX (l₂:=ys) (by omega),<-Aa j hj];rw[qH (by omega),qH (by omega),qH (by omega),qH (by omega),qH (by omega),qH (by omega)]
 ·rw[jk (by omega),hl];rcases (show j=6∨j=7∨j=8∨j=9∨j=10∨j=11 by omega)with rfl|rfl|rfl|rfl|rfl|rfl<;>simp<;>omega
theorem V1.sets{B g:Nat}{x:DV}{v y0 y1 y2 y3 y4 y5:Value}{t:Int}{W:World}(h:V1 B x v W)(hg:W.cell? ⟨g,0,none⟩=some (.int .i64 t)):V1 B x v ((((((W.setCell ⟨g,6,none⟩ y0).setCell ⟨g,7,none⟩ y1).setCell ⟨g,8,none⟩ y2).setCell ⟨g,9,none⟩ y3).setCell ⟨g,10,none⟩ y4).setCell ⟨g,11,none⟩ y5):=by
 obtain⟨d,c,e,h1,h2,h3,h4⟩:=h;have Aa:d≠g:=fun e=>by rw[e,hg]at h3;cases h3
 have hb:((((((W.setCell ⟨g,6,none⟩ y0).setCell ⟨g,7,none⟩ y1).setCell ⟨g,8,none⟩ y2).setCell ⟨g,9,none⟩ y3).setCell ⟨g,10,none⟩ y4).setCell ⟨g,11,none⟩ y5).heap[d]?=W.heap[d]?:=by rw[qW _ _ _ _ Aa,qW _ _ _ _ Aa,qW _ _ _ _ Aa,qW _ _ _ _ Aa,qW _ _ _ _ Aa,qW _ _ _ _ Aa]
 exact⟨d,c,e,h1,by simpa[World.setCell]using h2,(jz (a:=⟨d,0,none⟩) hb).trans h3,(jz (a:=⟨d,1,none⟩) hb).trans h4⟩
theorem aa3(B:Nat)(t n t2 n2:Int)(v:Value)(d2 c2:Nat)(w:World)(h:w.heap[B]?=some (.cells #[.int .i64 t,v,.int .i64 n,.slice none 0 0,.slice none 0 0,.slice none 0 0] 80 (0,0)))(hr:0<=n+n2/\n+n2<=1000) :
  Calls Tryz.prog 64 #[.pointer (some ⟨B,0,none⟩),.agg #[.int .i64 t2,.slice (some ⟨d2,0,none⟩) 1 c2,.int .i64 n2,.slice none 0 0,.slice none 0 0,.slice none 0 0]] w fun e w'=>e = .returned (.tuple #[])/\w'.heap[B]?=some (.cells #[.int .i64 t,v,.int .i64 (n+n2),.slice none 0 0,.slice none 0 0,.slice none 0 0] 80 (0,0))/\Below B w w':=by
 have Ad:IntKind.i64.wrap (n+n2)=n+n2:=by rw[zU];omega
 clear hr;obtain⟨W0,Ab⟩:=XQ (w.alloc (.cells #[.int .i64 t2,.slice (some ⟨d2,0,none⟩) 1 c2,.int .i64 n2,.slice none 0 0,.slice none 0 0,.slice none 0 0] 56))
 obtain⟨k0,kS,kB⟩:=la2 w (.cells #[.int .i64 t2,.slice (some ⟨d2,0,none⟩) 1 c2,.int .i64 n2,.slice none 0 0,.slice none 0 0,.slice none 0 0] 56);rw[Ab]at k0 kS kB;have hB:=(qA.1 h).1;have h0:=(kB.block B hB).trans h;obtain⟨⟨y0,y1,y2,y3,y4,y5⟩,z0,z1,z2,z3,z4,z5⟩:=can6 h0;obtain⟨⟨u0,u1,u2,u3,u4,u5⟩,_⟩:=can6 k0;have H0:=Hd h0;have HB:=Hd (kB.mono (yV hB));have Aa:B<W0.heap.size:=(qA.1 h0).1
 have Ae:w.heap.size<W0.heap.size:=by omega
 clear h h0 k0 kS kB;go_enter Tryz.func64,Tryz.ntmps64;go_wp2_with (fail);refine Flow.wrf 8 (Flow.sp3 [.inl ?_,.inl ?_,.inl ?_,.inl ?_,.inl ?_,.inl ?_,.inl ?_,.inl ?_]) (by kernel_rfl) (by kernel_rfl) ?_ ?_;rotate_left 8
 ·refine Flow.sm2 ?_
  repeat(first|exact Flow.ln2|refine Flow.li2 ?_)
 all_goals try simp only[qL,qY,qM,qV]
 iterate 8 (refine Flow.tvK rfl (fun K hK=>⟨fun w hw hG=>?_,?_⟩);(have Ag:=Flow.bc4 hw;clear hG hw;unfold Flow.Runs Flow.yields;go_simp;try rfl);go_simp;refine hK _ ?_;clear hK K)
 refine Flow.tn2 fun w2 hw2 hG=>?_;clear hG;have h2:=(hw2.block B Aa).trans H0.out;have Ac:=Hd (HB.out.trans (hw2.mono (yV Aa)));clear y0 y1 y2 y3 y4 y5 z0 z1 z2 z3 z4 z5 u0 u1 u2 u3 u4 u5 Ab hw2;obtain⟨⟨y0,y1,y2,y3,y4,y5⟩,z0,z1,z2,z3,z4,z5⟩:=can6 h2;have H2:=Hd h2;have Af:B<w2.heap.size:=(qA.1 h2).1;clear h2;go_wp2_with (fail);refine wp_loop_once ?_;go_wp2_with (fail);go_end0
 exact⟨rfl,qO _ _ _ _ _ _ H2.out,Ac.out.setCell (qC _) _⟩
theorem pa7(b cap:Nat)(u:Nat->Value)(w:World)(hb:b<w.heap.size)(hc:∀k,k<3->∀j,j<6->w.cell? ⟨b,k*6+j,none⟩=(cv (y13 k) (u k))[j]?)(hu:∀k,k<3->V1 0 (y13 k).2.1 (u k) w) :
  Calls Tryz.prog 26 #[.slice none 0 0,.slice (some ⟨b,0,none⟩) 3 cap] w fun e w'=>∃v,e = .returned v/\St13 w.heap.size 3 v w'/\Below w.heap.size w w':=by
 have HC:=Hd hc;have HU:=Hd hu;clear hc hu;obtain⟨W0,Dm⟩:=XQ (w.alloc (.cells #[.slice none 0 0] 28))
 obtain⟨k0,kS,kB⟩:=la2 w (.cells #[.slice none 0 0] 28);rw[Dm]at k0 kS kB;have K0:=Hd k0;have KB:=Hd kB;clear k0 kB;go_enter Tryz.func26,Tryz.ntmps26;go_wp2_with (fail);clear Dm;go_loopw [13] (fun i wr=>∃(k:Nat) (v:Value),k<=3/\i = .int .i64 k/\wr.heap[w.heap.size]?=some (.cells #[v] 28 (0,0))/\St13 w.heap.size k v wr/\Below w.heap.size w wr) (fun i _=>3-(intOf i).toNat)
 case atStart=>exact⟨0,_,qN _,rfl,K0.out,.inl ⟨rfl,rfl⟩,KB.out⟩
 case round=>
  obtain⟨k,v,hk,rfl,Ce,B4,hB⟩:=hrel;have D5:=(cob Ce).1;obtain⟨la,n,rfl,Ed⟩:=B4.shape;by_cases hlt:k<3;rotate_left
  ·have Du:¬(k:Int)<3:=by omega
   obtain rfl:k=3:=by omega
   have D3:=Hd B4;have HB:=Hd hB;clear B4 hB;go_wp2_with (fail);go_ret;exact⟨_,rfl,D3.out,HB.out⟩
  have Du:(k:Int)<3:=by omega
  have Cm:=(HU.out k hlt).below hB;obtain⟨du,cu,C9,_⟩:=HU.out k hlt;have A4:=HC.out k hlt;obtain⟨⟨t,x,m⟩,hy⟩:∃y,y=y13 k:=⟨_,rfl⟩
  obtain rfl:m=1:=by have:=zM (fun y=>y.2.2) hy;dsimp only at this;rw[this];unfold y13;split<;>rfl
  rw[C9,<-hy]at A4;rw[C9,<-hy]at Cm;have HY:=Hd hy;have e0:wr.cell? ⟨b,k*6,none⟩=some (.int .i64 t):=(hB.cell (p:=⟨b,k*6,none⟩) hb).trans (A4 0 (by omega));have e1:wr.cell? ⟨b,k*6+1,none⟩=some (.slice (some ⟨du,0,none⟩) 1 cu):=(hB.cell (p:=⟨b,k*6+1,none⟩) hb).trans (A4 1 (by omega));have e2:wr.cell? ⟨b,k*6+2,none⟩=some (.int .i64 1):=(hB.cell (p:=⟨b,k*6+2,none⟩) hb).trans (A4 2 (by omega))
  have e3:wr.cell? ⟨b,k*6+3,none⟩=some (.slice none 0 0):=(hB.cell (p:=⟨b,k*6+3,none⟩) hb).trans (A4 3 (by omega));have e4:wr.cell? ⟨b,k*6+4,none⟩=some (.slice none 0 0):=(hB.cell (p:=⟨b,k*6+4,none⟩) hb).trans (A4 4 (by omega));have e5:wr.cell? ⟨b,k*6+5,none⟩=some (.slice none 0 0):=(hB.cell (p:=⟨b,k*6+5,none⟩) hb).trans (A4 5 (by omega));clear hy A4 C9
  obtain⟨W1,C8⟩:=XQ (wr.alloc (.cells #[.int .i64 t,.slice (some ⟨du,0,none⟩) 1 cu,.int .i64 1,.slice none 0 0,.slice none 0 0,.slice none 0 0] 56))
  obtain⟨k1,Dj,Bq⟩:=la2 wr (.cells #[.int .i64 t,.slice (some ⟨du,0,none⟩) 1 cu,.int .i64 1,.slice none 0 0,.slice none 0 0,.slice none 0 0] 56);rw[C8]at k1 Dj Bq;have B7:=Hd (oa6 t 1 W1 (Cm.below Bq));have Dx:=Hd (Bt hB Bq);have Bw:=Hd (B4.below Bq);have At:=Hd ((Bq.block _ (qA.1 Ce).1).trans Ce);have Dd:=Hd C8;clear C8 k1 Dj Bq Cm B4 Ce hB;go_wp2_with (fail);go_at_call 60;rw[Dd.out]
  refine B7.out.mono ?_;rintro e w2 ⟨v2,rfl,Df,Cx⟩;have Dc:=Df.low (C:=w.heap.size+1) (qt (Nat.succ_le_of_lt (qA.1 At.out).1) (qC _));obtain⟨d2,c2,rfl,_⟩:=Df;obtain⟨W2,Cd⟩:=XQ (w2.alloc (.cells #[.int .i64 t,.slice (some ⟨d2,0,none⟩) 1 c2,.int .i64 1,.slice none 0 0,.slice none 0 0,.slice none 0 0] 80))
  obtain⟨k2,Dg,Ca⟩:=la2 w2 (.cells #[.int .i64 t,.slice (some ⟨d2,0,none⟩) 1 c2,.int .i64 1,.slice none 0 0,.slice none 0 0,.slice none 0 0] 80);rw[Cd]at k2 Dg Ca;have Cf:=Bt Cx Ca;have Be:=Bw.out.below Cf;have Bd:=(Cf.block _ (qA.1 At.out).1).trans At.out;have fl:=(cob Bd).1;have Bi:=Hd (Dc.below Ca)
  have Db:=Hd (show Calls Tryz.prog 62 #[.int .i64 n,.func (.func 63) #[] #[.pointer (some ⟨w.heap.size,0,none⟩),.pointer (some ⟨w2.heap.size,0,none⟩)]] W2 fun e w'=>e = .returned (.int .i64 (if k=0 then 0 else 1))/\Below W2.heap.size W2 w' from by
   have Ay:V1 0 x (.slice (some ⟨d2,0,none⟩) 1 c2) W2:=Bi.out.low (qN _);have hy:=HY.out;rcases Be with⟨rfl,hv⟩|⟨rfl,g,v0,hv,h3,h4,h5,h6⟩|⟨h1,h2,g,v0,v1,cur,hv,h4,h5,h6,h7,h8⟩
   ·cases hv
    exact se2 (g:=0) y13 (fun _=>.slice none 0 0) 0 (by omega) (fun h=>by omega) fl (fun i hi=>by omega) (fun h=>by omega) (fun i hi=>by omega) k2 Ay (qC _) (fun i hi=>by omega)
   ·cases hv
    cases hy
    exact se2 (g:=g) y13 (fun _=>v0) 1 (by omega) (fun _=>rfl) fl (fun i hi j hj=>by
     have h0:i=0:=by omega
     subst h0;simpa[y13]using h5 j hj) (fun _=>h4) (fun i hi=>by
     have h0:i=0:=by omega
     subst h0;exact h6.low (qN _)) k2 Ay (qC _) (fun i hi=>by
     have h0:i=0:=by omega
     subst h0
     decide)
   ·obtain rfl:k=2:=by omega
    cases hv
    cases hy
    exact se2 (g:=g) y13 (fun i=>if i=0 then v0 else v1) 1 (by omega) (fun _=>rfl) fl (fun i hi j hj=>by
     rcases (show i=0∨i=1 by omega)with rfl|rfl
     ·have:=h6 j (by omega);rw[jX (show j<6 from hj)]at this;simpa[y13]using this
     ·have:=h6 (6+j) (by omega);rw[jk (show 6<=6+j by omega)]at this;simpa[y13,cv]using this) (fun _=>(qA.1 h5).1) (fun i hi=>by
     rcases (show i=0∨i=1 by omega)with rfl|rfl
     ·exact h7.low (qN _)
     ·exact h8.low (qN _)) k2 Ay (by omega) (fun i hi=>by
     rcases (show i=0∨i=1 by omega)with rfl|rfl<;>decide))
  have Bs:=Hd Be;have Bj:=Hd Bd;have Cq:=Hd k2;have D9:=Hd (Bt Dx.out Cf);have Dh:=Hd Cd;rw[<-Cd]at fl;have Ec:w.heap.size<w2.heap.size:=qF (qA.1 At.out).1 Cx.size;clear Cd k2 Dg Ca Cf Be Bd Dc Cx Bw At e0 e1 e2 e3 e4 e5 D5;go_wp2_with (fail);go_at_call 62;rw[Dh.out];refine Db.out.mono ?_;rintro e w3 ⟨rfl,Bm⟩;have B0:=Hd (Bt D9.out Bm);have Bf:=Hd (Bs.out.below Bm)
  have Az:=(Bm.block _ (qA.1 Bj.out).1).trans Bj.out;have Cb:=(Bm.block _ (qA.1 Cq.out).1).trans Cq.out;have Am:=Hd Az;have B5:=Hd Cb;have As:=Hd (Bi.out.below Bm);have Cr:=(cob Az).1;obtain⟨⟨g0,g1,g2,g3,g4,g5⟩,_⟩:=can6 Cb;have A6:w.heap.size<w3.heap.size:=(qA.1 Az).1;have Bc:w2.heap.size<w3.heap.size:=(qA.1 Cb).1;clear fl Bm Az Cb Bs Bj Cq Bi Db B7 Dd Dh
  rcases Bf.out with⟨rfl,hv⟩|⟨rfl,g,v0,hv,Cv,B6,Bu,Ay⟩|⟨Ef,Eg,g,v0,v1,cur,hv,Cv,B6,Bu,Ay,C4⟩
  ·cases hv
   cases HY.out
   clear g0 g1 g2 g3 g4 g5;go_wp2_with (fail);refine Flow.wrf2 (Flow.sp3 [.inl ?_,.inl ?_,.inl ?_,.inl (.bool false),.inl (.bool false),.inl undef,.inl undef,.inl undef,.inl undef,.inl undef,.inl undef,.inl undef,.inl (.bool false)]) (by kernel_rfl) (by kernel_rfl) ?_ ?_;rotate_left 3
   ·refine Flow.sm2 ?_
    repeat(first|exact Flow.ln2|refine Flow.li2 ?_)
   iterate 13 (refine Flow.tvK rfl (fun K hK=>⟨fun w hw hG=>?_,?_⟩);(have B1:=Flow.bc4 hw;clear hG hw;unfold Flow.Runs Flow.yields;go_simp;try rfl);go_simp;refine hK _ ?_;clear hK K)
   refine Flow.tn2 fun w4 hw4 hG=>?_;clear hG;have B3:=Hd (Bt B0.out hw4);have Ae:=Hd ((hw4.block _ A6).trans Am.out);have Cj:=Hd ((hw4.block _ Bc).trans B5.out);have A8:=Hd (As.out.below hw4);have Cu:=(cob Ae.out).1;have Ai:w.heap.size<w4.heap.size:=qF A6 hw4.size;have Bb:w2.heap.size<w4.heap.size:=qF Bc hw4.size;clear hw4 B0 Bf Am B5 As Cr A6 Bc;obtain⟨i0,hi,Ci,A7,Cs⟩:=zF iC
   obtain⟨wm,Aj,Bh,Bk,A3,Au⟩:=rms (P:=Tryz.prog) w4 28 56 i0 _ 6 Tryz.underlying28 hi Ci A7 .i64 .i64 0 (0+1) (by omega) (by rw[Cs];omega) (by unfold maxLen;omega);replace Bh:Sem.run Tryz.prog (Instr.makeSlice 28 (.int .i64 0) (.int .i64 1)) w4 = .ok (.slice (some ⟨w4.heap.size,0,none⟩) 0 1) wm:=Bh;have fm:=(cob ((Au.block _ Ai).trans Ae.out)).1;have Cn:w.heap.size<wm.heap.size:=qF Ai Au.size
   have A5:=rcn (P:=Tryz.prog) wm 28 28 3 56 (some ⟨w4.heap.size,0,none⟩) 0 1 6 Tryz.underlying28 (by rw[hi];simp[A7]);obtain⟨wc,Bn⟩:=Xq wm
   subst Bn;obtain⟨Aa,Ag⟩:=Xq Aj
   subst Ag;have Br:=Bk;have Aq:Aa.size=(0+1)*6:=A3;have An:Aa.toList.take (0*6)=[]:=by simp
   have A2:=Au;have Bz:=Hd Br;have Ao:=Hd Aq;have Bg:=Hd An;have A1:=Hd A2;have Ct:w.heap.size<wc.heap.size:=qF Ai A2.size;have fc:=(cob ((A2.block _ Ai).trans Ae.out)).1;have C5:=Hd A5;clear Bk A3 Au Br Aq An A2 A5;go_simp;go_wp2_with (fail);rw[C5.out];clear Bh Cn;go_simp;go_wp2_with (fail)
   obtain⟨CS,Bv⟩:=Xq ([.int .i64 0,.slice (some ⟨d2,0,none⟩) 1 c2,.int .i64 1,.slice none 0 0,.slice none 0 0,.slice none 0 0]:List Value)
   have Ap:=Hd Bv;clear Bv;have Cl:=Hd ((A1.out.block _ Bb).trans Cj.out);have Bx:w2.heap.size<wc.heap.size:=qF Bb A1.out.size;have Ba:=Hd ((A1.out.block _ Ai).trans Ae.out);have A0:=Hd (show w.heap.size<w4.heap.size/\w2.heap.size<w4.heap.size/\w4.heap.size<wc.heap.size from⟨Ai,Bb,(qA.1 Bz.out).1⟩)
   have Cz:=Hd (fun V (hw:(one w4.heap.size (.cells Aa 56 (0,0)) (.cells (over Aa (0*6) CS) 56 (0,0))).r wc V)=>(can6 ((ob3 hw Bx (by have:=A0.out;omega)).trans Cl.out)).1);have Da:=Hd (fun V (hw:(one w4.heap.size (.cells Aa 56 (0,0)) (.cells (over Aa (0*6) CS) 56 (0,0))).r wc V)=>(cob ((ob3 hw Ct (by have:=A0.out;omega)).trans Ba.out)).1);clear Bx
   refine FlowR.wrf (R:=one w4.heap.size (.cells Aa 56 (0,0)) (.cells (over Aa (0*6) CS) 56 (0,0))) 8 (FlowR.sp3 44 (fun _=>.inl undef) (.inl ?_ :: .inl ?_ :: .inl ?_ :: .inr (newRow w4.heap.size CS) :: .inr (tT2 w4.heap.size (.cells (over Aa (0*6) CS) 56 (0,0)) (.slice (some ⟨w4.heap.size,0,none⟩) (0+1) (0+1))) :: .inl ?_ :: .inl ?_ :: .inl ?_::[])) (fun _=>0) (FlowR.so4 (by kernel_rfl)) (by kernel_rfl) (by kernel_rfl) ?_ ?_
   rotate_left 6
   ·refine FlowR.sm2 (fun x=>FlowR.mi _) ?_
    repeat(first|exact FlowR.ln2|refine FlowR.li2 ?_|refine FlowR.li3 (nRm2 _) ?_|refine FlowR.li3 (tTm _) ?_)
   all_goals try simp only[qL,qY,qM,qV]
   iterate 3 (refine FlowR.tvK rfl (fun K hK=>⟨fun V hw hG=>?_,?_⟩);(obtain⟨t1,t2,t3,t4,t5,t6⟩:=Cz.out V hw;clear hG hw;unfold FlowR.Runs FlowR.yields;go_simp;try rfl);go_simp;refine hK _ ?_;clear hK K)
   (refine FlowR.tvK2 rfl (fun K hK=>⟨fun V hw hG=>?_,?_⟩);(have C0:w4.heap.size<V.heap.size:=(qF A0.out.2.2 hw.2.2.2.1);clear hG hw;unfold FlowR.Runs FlowR.yields;go_simp;exact⟨oa4 C0 _,(⟨V.heap.size,rfl,by simp,by omega,fun j u hu=>by rw[qT _ _ _ _ _ _ (jY _ _)];rw[Ap.out]at hu;simpa using hu⟩:newRow w4.heap.size CS (.slice (some ⟨V.heap.size,0,none⟩) 1 1) (V.alloc _))⟩);intro vr;go_simp;refine hK _ _ ?_;clear hK K)
   (refine FlowR.tvK2 rfl (fun K hK=>⟨fun V hw hG=>?_,?_⟩);(have B2:=(show newRow w4.heap.size CS vr V by simpa[FlowR.upd]using hG 3 (by kernel_rfl));obtain⟨V2,A9,Ck,Cy⟩:=oa3 (P:=Tryz.prog) (ty:=28) (t:=28) (n:=0) (cap:=0+1) Tryz.underlying28 hi A7 hw Bz.out (by rw[Ap.out];rfl) (by rw[Ap.out];intro u hu;simp only[qm,zG,jr]at hu;rcases hu with rfl|rfl|rfl|rfl|rfl|rfl<;>rfl) Ao.out (by omega) B2;clear hG hw B2;exact ra2 (t:=28) (.tmp 62) (.tmp 65) rfl rfl rfl rfl A9 Ck Cy);intro vt;go_simp;refine hK _ _ ?_;clear hK K)
   iterate 3 (refine FlowR.tvK rfl (fun K hK=>⟨fun V hw hG=>?_,?_⟩);(have B1:=Da.out V hw;clear hG hw;unfold FlowR.Runs FlowR.yields;go_simp;try rfl);go_simp;refine hK _ ?_;clear hK K)
   refine FlowR.tn2 fun w8 hw8 hG=>?_;obtain⟨rfl,B8⟩:=(show tT2 w4.heap.size (.cells (over Aa (0*6) CS) 56 (0,0)) (.slice (some ⟨w4.heap.size,0,none⟩) (0+1) (0+1)) vt w8 by simpa[FlowR.upd]using hG 4)
   clear hG;have Bl:Below w4.heap.size w4 w8:=A1.out.trans (ob5 hw8 (qC _) (by have:=A0.out;omega));have Ar:CS.length=6:=by rw[Ap.out];rfl
   have Ah:=oo4 (N:=w.heap.size+1) (n:=0) (cap:=0+1) (by omega) B8 Ar Ao.out (by omega) (by unfold maxLen;omega) Bg.out;refine wLa5 rfl _ _ 28 rfl 56 i0 Tryz.underlying28 hi ⟨w4.heap.size,0,none⟩ (0+1) (0+1) rfl rfl (qC _) ?_;obtain⟨w9,Eb⟩:=Xq w8
   subst Eb;have Af:=Ah;have Av:=Bl;have Ad:=(Av.block _ Ai).trans Ae.out;have Dz:=(cob Ad).1;have D2:=(cob Ad).2;have By:=Hd (jt (a:=⟨w.heap.size,0,none⟩) Af (zQ _) (.slice (some ⟨w4.heap.size,0,none⟩) (0+1) (0+1)));have C2:=Hd (qO w9 w.heap.size 0 _ _ (.slice (some ⟨w4.heap.size,0,none⟩) (0+1) (0+1)) Ad)
   have Cp:=Hd ((A8.out.below Av).set (g:=w.heap.size) (i:=0) (u:=.slice (some ⟨w4.heap.size,0,none⟩) (0+1) (0+1)) (zQ _));have Cg:=Hd ((Bt B3.out Av).setCell (p:=⟨w.heap.size,0,none⟩) (qC _) (.slice (some ⟨w4.heap.size,0,none⟩) (0+1) (0+1)));have Dv:w.heap.size<w9.heap.size:=(qA.1 Ad).1;have Ch:=Hd Ai;clear Ah Ar Bl B8 hw8 Af Av Ad;go_simp;go_wp2_with (fail);go_roundw
   case rel=>exact⟨1,_,by omega,by go_num,C2.out,.inr (.inl ⟨rfl,w4.heap.size,_,rfl,Ch.out,(or2 By.out (by omega)).2.2.1,fun j hj=>by rw[(or2 By.out (by omega)).2.2.2 j (by omega),Ap.out];rfl,Cp.out⟩),Cg.out⟩
   case measure=>simp[intOf]
  ·cases hv
   cases HY.out
   clear g0 g1 g2 g3 g4 g5;go_wp2_with (fail);refine Flow.wrf2 (Flow.sp3 [.inl ?_,.inl ?_,.inl ?_,.inl (.bool false),.inl (.bool false),.inl undef,.inl undef,.inl undef,.inl undef,.inl undef,.inl undef,.inl undef,.inl (.bool false)]) (by kernel_rfl) (by kernel_rfl) ?_ ?_;rotate_left 3
   ·refine Flow.sm2 ?_
    repeat(first|exact Flow.ln2|refine Flow.li2 ?_)
   iterate 13 (refine Flow.tvK rfl (fun K hK=>⟨fun w hw hG=>?_,?_⟩);(have B1:=Flow.bc4 hw;clear hG hw;unfold Flow.Runs Flow.yields;go_simp;try rfl);go_simp;refine hK _ ?_;clear hK K)
   refine Flow.tn2 fun w4 hw4 hG=>?_;clear hG;have B3:=Hd (Bt B0.out hw4);have Ae:=Hd ((hw4.block _ A6).trans Am.out);have Cj:=Hd ((hw4.block _ Bc).trans B5.out);have A8:=Hd (As.out.below hw4);have Cu:=(cob Ae.out).1;have Ai:w.heap.size<w4.heap.size:=qF A6 hw4.size;have Bb:w2.heap.size<w4.heap.size:=qF Bc hw4.size;have C7:g<w4.heap.size:=qF B6 hw4.size
   have D8:=Hd (fun j (hj:j<6)=>(hw4.cell (p:=⟨g,j,none⟩) B6).trans (Bu j hj));have Dn:=Hd (Ay.below hw4);clear hw4 B0 Bf Am B5 As Cr A6 Bc Bu Ay;obtain⟨i0,hi,Ci,A7,Cs⟩:=zF iC;obtain⟨wm,Aj,Bh,Bk,A3,Au⟩:=rms (P:=Tryz.prog) w4 28 56 i0 _ 6 Tryz.underlying28 hi Ci A7 .i64 .i64 1 (1+1) (by omega) (by rw[Cs];omega) (by unfold maxLen;omega)
   replace Bh:Sem.run Tryz.prog (Instr.makeSlice 28 (.int .i64 1) (.int .i64 2)) w4 = .ok (.slice (some ⟨w4.heap.size,0,none⟩) 1 2) wm:=Bh;have fm:=(cob ((Au.block _ Ai).trans Ae.out)).1;have Cn:w.heap.size<wm.heap.size:=qF Ai Au.size
   have Do:∀j u,(cv (0,some Tess.tyy,1) v0)[j]?=some u->wm.cell? ((⟨g,0,none⟩:Addr).add j)=some u:=fun j u hu=>by have hj:j<6:=(zW.1 hu).1;rw[Addr.add_lit,qj];exact(Au.cell (p:=⟨g,j,none⟩) C7).trans ((D8.out j hj).trans hu)
   have A5:=rcr (P:=Tryz.prog) wm 28 28 3 56 w4.heap.size 0 1 2 6 ⟨g,0,none⟩ 1 1 Aj 56 (cv (0,some Tess.tyy,1) v0) Tryz.underlying28 (by rw[hi];simp[A7]) Bk rfl Do (by rw[A3];show 0+6<=_;omega) (fun u hu=>by
    obtain⟨d0,c0,e0,_⟩:=Dn.out;rw[e0]at hu;simp only[cv,qm,zG,jr]at hu
    rcases hu with rfl|rfl|rfl|rfl|rfl|rfl<;>rfl)
   obtain⟨wc,Bn⟩:=XQ (wm.setRow w4.heap.size (Aj.toList.take 0++cv (0,some Tess.tyy,1) v0++Aj.toList.drop (0+(cv (0,some Tess.tyy,1) v0).length)).toArray)
   obtain⟨Aa,Ag⟩:=Xq (over Aj 0 (cv (0,some Tess.tyy,1) v0))
   have Br:wc.heap[w4.heap.size]?=some (.cells Aa 56 (0,0)):=by rw[<-Bn,Ag];exact setRow_heap wm _ Aj _ _ _ Bk
   have Aq:Aa.size=(1+1)*6:=by rw[Ag,os5 (by rw[A3];show 0+6<=_;omega),A3]
   have An:Aa.toList.take (1*6)=cv (0,some Tess.tyy,1) v0:=by have:=ot2 (cur:=Aj) (n:=0) (cs:=cv (0,some Tess.tyy,1) v0) (by rw[A3];show 0+6<=_;omega);rw[qj,show(cv (0,some Tess.tyy,1) v0).length=6 from rfl,qY,qr]at this;rw[Ag];exact this
   have A2:Below w4.heap.size w4 wc:=Au.trans (by rw[<-Bn];exact⟨rfl,rfl,rfl,by rw[setRow_size];exact qC _,fun j hj=>setRow_other wm _ j _ (by omega)⟩);rw[Bn]at A5;replace A5:Sem.run Tryz.prog (Builtin.copy_ #[28,28] 3 #[.slice (some ⟨w4.heap.size,0,none⟩) 1 2,.slice (some ⟨g,0,none⟩) 1 1]) wm = .ok (goInt 1) wc:=A5;have Bz:=Hd Br;have Ao:=Hd Aq;have Bg:=Hd An;have A1:=Hd A2
   have Ct:w.heap.size<wc.heap.size:=qF Ai A2.size;have fc:=(cob ((A2.block _ Ai).trans Ae.out)).1;have C5:=Hd A5;clear Bk A3 Au Br Aq An A2 A5 Do Bn Ag;go_simp;go_wp2_with (fail);rw[C5.out];clear Bh fm Cn;go_simp;go_wp2_with (fail);obtain⟨CS,Bv⟩:=Xq ([.int .i64 5,.slice (some ⟨d2,0,none⟩) 1 c2,.int .i64 1,.slice none 0 0,.slice none 0 0,.slice none 0 0]:List Value)
   have Ap:=Hd Bv;clear Bv;have Cl:=Hd ((A1.out.block _ Bb).trans Cj.out);have Bx:w2.heap.size<wc.heap.size:=qF Bb A1.out.size;have Ba:=Hd ((A1.out.block _ Ai).trans Ae.out);have A0:=Hd (show w.heap.size<w4.heap.size/\w2.heap.size<w4.heap.size/\w4.heap.size<wc.heap.size from⟨Ai,Bb,(qA.1 Bz.out).1⟩)
   have Cz:=Hd (fun V (hw:(one w4.heap.size (.cells Aa 56 (0,0)) (.cells (over Aa (1*6) CS) 56 (0,0))).r wc V)=>(can6 ((ob3 hw Bx (by have:=A0.out;omega)).trans Cl.out)).1);have Da:=Hd (fun V (hw:(one w4.heap.size (.cells Aa 56 (0,0)) (.cells (over Aa (1*6) CS) 56 (0,0))).r wc V)=>(cob ((ob3 hw Ct (by have:=A0.out;omega)).trans Ba.out)).1);clear Bx
   refine FlowR.wrf (R:=one w4.heap.size (.cells Aa 56 (0,0)) (.cells (over Aa (1*6) CS) 56 (0,0))) 8 (FlowR.sp3 44 (fun _=>.inl undef) (.inl ?_ :: .inl ?_ :: .inl ?_ :: .inr (newRow w4.heap.size CS) :: .inr (tT2 w4.heap.size (.cells (over Aa (1*6) CS) 56 (0,0)) (.slice (some ⟨w4.heap.size,0,none⟩) (1+1) (1+1))) :: .inl ?_ :: .inl ?_ :: .inl ?_::[])) (fun _=>0) (FlowR.so4 (by kernel_rfl)) (by kernel_rfl) (by kernel_rfl) ?_ ?_
   rotate_left 6
   ·refine FlowR.sm2 (fun x=>FlowR.mi _) ?_
    repeat(first|exact FlowR.ln2|refine FlowR.li2 ?_|refine FlowR.li3 (nRm2 _) ?_|refine FlowR.li3 (tTm _) ?_)
   all_goals try simp only[qL,qY,qM,qV]
   iterate 3 (refine FlowR.tvK rfl (fun K hK=>⟨fun V hw hG=>?_,?_⟩);(obtain⟨t1,t2,t3,t4,t5,t6⟩:=Cz.out V hw;clear hG hw;unfold FlowR.Runs FlowR.yields;go_simp;try rfl);go_simp;refine hK _ ?_;clear hK K)
   (refine FlowR.tvK2 rfl (fun K hK=>⟨fun V hw hG=>?_,?_⟩);(have C0:w4.heap.size<V.heap.size:=(qF A0.out.2.2 hw.2.2.2.1);clear hG hw;unfold FlowR.Runs FlowR.yields;go_simp;exact⟨oa4 C0 _,(⟨V.heap.size,rfl,by simp,by omega,fun j u hu=>by rw[qT _ _ _ _ _ _ (jY _ _)];rw[Ap.out]at hu;simpa using hu⟩:newRow w4.heap.size CS (.slice (some ⟨V.heap.size,0,none⟩) 1 1) (V.alloc _))⟩);intro vr;go_simp;refine hK _ _ ?_;clear hK K)
   (refine FlowR.tvK2 rfl (fun K hK=>⟨fun V hw hG=>?_,?_⟩);(have B2:=(show newRow w4.heap.size CS vr V by simpa[FlowR.upd]using hG 3 (by kernel_rfl));obtain⟨V2,A9,Ck,Cy⟩:=oa3 (P:=Tryz.prog) (ty:=28) (t:=28) (n:=1) (cap:=1+1) Tryz.underlying28 hi A7 hw Bz.out (by rw[Ap.out];rfl) (by rw[Ap.out];intro u hu;simp only[qm,zG,jr]at hu;rcases hu with rfl|rfl|rfl|rfl|rfl|rfl<;>rfl) Ao.out (by omega) B2;clear hG hw B2;exact ra2 (t:=28) (.tmp 62) (.tmp 65) rfl rfl rfl rfl A9 Ck Cy);intro vt;go_simp;refine hK _ _ ?_;clear hK K)
   iterate 3 (refine FlowR.tvK rfl (fun K hK=>⟨fun V hw hG=>?_,?_⟩);(have B1:=Da.out V hw;clear hG hw;unfold FlowR.Runs FlowR.yields;go_simp;try rfl);go_simp;refine hK _ ?_;clear hK K)
   refine FlowR.tn2 fun w8 hw8 hG=>?_;obtain⟨rfl,B8⟩:=(show tT2 w4.heap.size (.cells (over Aa (1*6) CS) 56 (0,0)) (.slice (some ⟨w4.heap.size,0,none⟩) (1+1) (1+1)) vt w8 by simpa[FlowR.upd]using hG 4)
   clear hG;have Bl:Below w4.heap.size w4 w8:=A1.out.trans (ob5 hw8 (qC _) (by have:=A0.out;omega));have Ar:CS.length=6:=by rw[Ap.out];rfl
   have Ah:=oo4 (N:=w.heap.size+1) (n:=1) (cap:=1+1) (by omega) B8 Ar Ao.out (by omega) (by unfold maxLen;omega) Bg.out;refine wpList_append_own_spare _ rfl _ _ 28 rfl (w.heap.size+1) 56 i0 6 Tryz.underlying28 hi A7 w4.heap.size (1+1) (1+1) _ rfl Ah ⟨g,0,none⟩ 0 0 [] (by simp only[Act.eval];go_simp;try rfl) rfl (fun j u hu=>by simp at hu) (fun u hu=>by cases hu) (by omega) ?_;intro w9 Af Ac
   replace Af:w9.ownsRow (w.heap.size+1) 56 6 (.slice (some ⟨w4.heap.size,0,none⟩) (1+1) (1+1)) (1+1) (cv (0,some Tess.tyy,1) v0++CS):=by simpa using Af
   have Av:Below w4.heap.size w4 w9:=Bl.trans ⟨Ac.1,Ac.2,Ac.3,Ac.4,fun j hj=>Ac.5 j (by have:=Bl.size;omega) (by intro e;cases e;omega)⟩;have Ad:=(Av.block _ Ai).trans Ae.out;have Dz:=(cob Ad).1;have D2:=(cob Ad).2;have By:=Hd (jt (a:=⟨w.heap.size,0,none⟩) Af (zQ _) (.slice (some ⟨w4.heap.size,0,none⟩) (1+1) (1+1)))
   have C2:=Hd (qO w9 w.heap.size 0 _ _ (.slice (some ⟨w4.heap.size,0,none⟩) (1+1) (1+1)) Ad);have Cp:=Hd ((A8.out.below Av).set (g:=w.heap.size) (i:=0) (u:=.slice (some ⟨w4.heap.size,0,none⟩) (1+1) (1+1)) (zQ _));have Dy:=Hd ((Dn.out.below Av).set (g:=w.heap.size) (i:=0) (u:=.slice (some ⟨w4.heap.size,0,none⟩) (1+1) (1+1)) (zQ _))
   have Cg:=Hd ((Bt B3.out Av).setCell (p:=⟨w.heap.size,0,none⟩) (qC _) (.slice (some ⟨w4.heap.size,0,none⟩) (1+1) (1+1)));have Dv:w.heap.size<w9.heap.size:=(qA.1 Ad).1;have Ch:=Hd Ai;clear Ah Ar Bl B8 hw8 Af Av Ad Ac;go_simp;go_wp2_with (fail);go_roundw
   case rel=>exact⟨2,_,by omega,by go_num,C2.out,.inr (.inr ⟨by omega,by omega,w4.heap.size,v0,_,_,rfl,Ch.out,(or2 By.out (by omega)).1.choose_spec,fun j hj=>by rw[(or2 By.out (by omega)).2.2.2 j (by omega),Ap.out];rfl,Dy.out,Cp.out⟩),Cg.out⟩
   case measure=>simp[intOf]
  ·obtain rfl:k=2:=by omega
   cases hv
   cases HY.out
   have Ak:=(qA.1 B6).1;have Al:=Hd Bu;clear Bu;have h0:w3.cell? ⟨g,6,none⟩=some (.int .i64 5):=Al.out 6 (by omega);have h1:w3.cell? ⟨g,7,none⟩=some v1:=Al.out 7 (by omega);have h2:w3.cell? ⟨g,8,none⟩=some (.int .i64 1):=Al.out 8 (by omega);have h3:w3.cell? ⟨g,9,none⟩=some (.slice none 0 0):=Al.out 9 (by omega);have h4:w3.cell? ⟨g,10,none⟩=some (.slice none 0 0):=Al.out 10 (by omega)
   have h5:w3.cell? ⟨g,11,none⟩=some (.slice none 0 0):=Al.out 11 (by omega);obtain⟨e1,k1,rfl,Dp⟩:=C4.cell;obtain⟨e2,k2,D7,De⟩:=As.out.cell;cases D7
   have Dr:=Hd (show ∀W,Below w3.heap.size w3 W->Calls Tryz.prog 40 #[.agg #[.int .i64 5,.slice (some ⟨d2,0,none⟩) 1 c2,.int .i64 1,.slice none 0 0,.slice none 0 0,.slice none 0 0],.agg #[.int .i64 5,.slice (some ⟨e1,0,none⟩) 1 k1,.int .i64 1,.slice none 0 0,.slice none 0 0,.slice none 0 0]] W fun e w'=>e = .returned (.bool false)/\Below W.heap.size W w' from fun W hW=>by
    have:=aa (some ⟨d2,0,none⟩) (some ⟨e1,0,none⟩) c2 k1 [Tess.valOf none] [Tess.valOf none] 5 5 1 1 none none none none none none 0 0 0 0 0 0 0 0 0 0 0 0 W (show 1<=_ by omega) (De.below hW) (Dp.below hW);rw[oc6,show ckLt (5,[none]) (5,[none])=false by decide]at this;refine this.mono ?_;rintro e w' ⟨rfl,q',os,rfl⟩
    exact⟨rfl,below_grown_sl W.heap.size W q' os (qC _)⟩)
   clear Dp De;go_wp2_with (fail);refine Flow.wrf2 (Flow.sp3 [.inl ?_,.inl ?_,.inl ?_,.inl ?_,.inl ?_,.inl ?_,.inl ?_,.inl ?_,.inl ?_,.inl ?_,.inl (.bool false),.inl ?_,.inl ?_]) (by kernel_rfl) (by kernel_rfl) ?_ ?_;rotate_left 12
   ·refine Flow.sm2 ?_
    repeat(first|exact Flow.ln2|refine Flow.li2 ?_)
   iterate 10 (refine Flow.tvK rfl (fun K hK=>⟨fun w hw hG=>?_,?_⟩);(have B1:=Flow.bc4 hw;clear hG hw;unfold Flow.Runs Flow.yields;go_simp;try rfl);go_simp;refine hK _ ?_;clear hK K)
   (refine Flow.tvK rfl (fun K hK=>⟨fun w hw hG=>?_,?_⟩);(have HW:=Hd hw;clear hG hw;unfold Flow.Runs Flow.yields;go_simp;refine(Dr.out _ HW.out).mono ?_;rintro e w4 ⟨rfl,D4⟩;exact⟨rfl,D4⟩);go_simp;refine hK _ ?_;clear hK K)
   iterate 2 (refine Flow.tvK rfl (fun K hK=>⟨fun w hw hG=>?_,?_⟩);(have B1:=Flow.bc4 hw;clear hG hw;unfold Flow.Runs Flow.yields;go_simp;try rfl);go_simp;refine hK _ ?_;clear hK K)
   refine Flow.tn2 fun w4 hw4 hG=>?_;clear hG;obtain⟨W5,B9⟩:=XQ (w4.alloc (.cells #[.int .i64 5,.slice (some ⟨e1,0,none⟩) 1 k1,.int .i64 1,.slice none 0 0,.slice none 0 0,.slice none 0 0] 80))
   obtain⟨k5,Dq,Cc⟩:=la2 w4 (.cells #[.int .i64 5,.slice (some ⟨e1,0,none⟩) 1 k1,.int .i64 1,.slice none 0 0,.slice none 0 0,.slice none 0 0] 80);rw[B9]at k5 Dq Cc;have Dl:=Bt hw4 Cc;have D0:=Hd (aa3 w4.heap.size 5 1 5 1 _ d2 c2 W5 k5 ⟨by omega,by omega⟩);have Cu:=(cob ((hw4.block _ A6).trans Am.out)).1;have t0:=(hw4.cell (p:=⟨g,6,none⟩) Ak).trans h0;have t1:=(hw4.cell (p:=⟨g,7,none⟩) Ak).trans h1
   have t2:=(hw4.cell (p:=⟨g,8,none⟩) Ak).trans h2;have t3:=(hw4.cell (p:=⟨g,9,none⟩) Ak).trans h3;have t4:=(hw4.cell (p:=⟨g,10,none⟩) Ak).trans h4;have t5:=(hw4.cell (p:=⟨g,11,none⟩) Ak).trans h5;have Di:=(Dl.block _ Bc).trans B5.out;obtain⟨⟨r0,r1,r2,r3,r4,r5⟩,_⟩:=can6 Di;rw[<-B9]at r0 r1 r2 r3 r4 r5;have D6:=Hd B9;have B3:=Hd hw4;have Cw:=Hd Cc
   clear B9 Di Dl Cc Dq k5 hw4 Cr g0 g1 g2 g3 g4 g5 h0 h1 h2 h3 h4 h5 Dr;go_wp2_with (fail);go_at_call 64;rw[D6.out];refine D0.out.mono ?_;rintro e w6 ⟨rfl,Ds,Dk⟩;have Ab:Below w3.heap.size w3 w6:=Bt B3.out (Cw.out.trans Dk);have Ax:=(Ab.block _ A6).trans Am.out;have Aw:=(Ab.block _ Ak).trans B6;have Ei:=(cob Ax).1;obtain⟨⟨g0,g1,g2,g3,g4,g5⟩,_⟩:=can6 Ds
   have t0:=(Ab.cell (p:=⟨g,6,none⟩) Ak).trans (Al.out 6 (by omega));have t1:=(Ab.cell (p:=⟨g,7,none⟩) Ak).trans (Al.out 7 (by omega));have t2:=(Ab.cell (p:=⟨g,8,none⟩) Ak).trans (Al.out 8 (by omega));have t3:=(Ab.cell (p:=⟨g,9,none⟩) Ak).trans (Al.out 9 (by omega));have t4:=(Ab.cell (p:=⟨g,10,none⟩) Ak).trans (Al.out 10 (by omega))
   have t5:=(Ab.cell (p:=⟨g,11,none⟩) Ak).trans (Al.out 11 (by omega));replace t0:w6.cell? ⟨g,6,none⟩=some (.int .i64 5):=t0;replace t1:w6.cell? ⟨g,7,none⟩=some (.slice (some ⟨e1,0,none⟩) 1 k1):=t1;replace t2:w6.cell? ⟨g,8,none⟩=some (.int .i64 1):=t2;replace t3:w6.cell? ⟨g,9,none⟩=some (.slice none 0 0):=t3;replace t4:w6.cell? ⟨g,10,none⟩=some (.slice none 0 0):=t4
   replace t5:w6.cell? ⟨g,11,none⟩=some (.slice none 0 0):=t5;have f0:=zY w6 g 6 _ _ Aw;have f1:=zY w6 g 7 _ _ Aw;have f2:=zY w6 g 8 _ _ Aw;have f3:=zY w6 g 9 _ _ Aw;have f4:=zY w6 g 10 _ _ Aw;have f5:=zY w6 g 11 _ _ Aw;have Ea:g<w6.heap.size:=(qA.1 Aw).1;have Ee:w.heap.size<w6.heap.size:=(qA.1 Ax).1;have C3:=Hd Ab;have Co:=Hd Ax;have Eh:=Hd Aw;have C1:=Hd Cv
   have D1:=Hd ((Ay.below Ab).sets (g:=g) (y0:=.int .i64 5) (y1:=.slice (some ⟨e1,0,none⟩) 1 k1) (y2:=.int .i64 2) (y3:=.slice none 0 0) (y4:=.slice none 0 0) (y5:=.slice none 0 0) ((Ab.cell (p:=⟨g,0,none⟩) Ak).trans (Al.out 0 (by omega))))
   have Dw:=Hd ((C4.below Ab).sets (g:=g) (y0:=.int .i64 5) (y1:=.slice (some ⟨e1,0,none⟩) 1 k1) (y2:=.int .i64 2) (y3:=.slice none 0 0) (y4:=.slice none 0 0) (y5:=.slice none 0 0) ((Ab.cell (p:=⟨g,0,none⟩) Ak).trans (Al.out 0 (by omega))))
   have Dt:=Hd (sc5 (x0:=.int .i64 5) (x1:=.slice (some ⟨e1,0,none⟩) 1 k1) (x2:=.int .i64 2) (x3:=.slice none 0 0) (x4:=.slice none 0 0) (x5:=.slice none 0 0) Aw rfl rfl fun j hj=>(Ab.cell (p:=⟨g,j,none⟩) Ak).trans (Al.out j hj));clear Ab Ax Aw Ds Dk Cu Cv Ay C4;go_wp2_with (fail);go_roundw
   case rel=>
    obtain⟨C6,h1,h2⟩:=Dt.out;have Bp:w.heap.size≠g:=qAu C1.out;have Bo:w.heap.size<=g:=yV C1.out;refine⟨3,_,by omega,by go_num,?_,.inr (.inr ⟨by omega,by omega,g,v0,_,C6,rfl,C1.out,h1,h2,D1.out,Dw.out⟩),((((((Bt B0.out C3.out).setCell Bo _).setCell Bo _).setCell Bo _).setCell Bo _).setCell Bo _).setCell Bo _⟩;rw[qW _ _ _ _ Bp,qW _ _ _ _ Bp,qW _ _ _ _ Bp,qW _ _ _ _ Bp,qW _ _ _ _ Bp,qW _ _ _ _ Bp]
    exact Co.out
   case measure=>simp[intOf]
end Go.Proofs.Q9
namespace Go.Proofs.Q9
open Go.RowKit Go.Sort Go.Shelf
open Tess (DV CK Pay)
theorem V1.vP{B:Nat}{p:Nat->Prop}{x:DV}{v:Value}{W:World}(h:V1 B x v W)(hs:(Tess.valOf x).s.size<=maxLen)(hp:∀y,B<=y->p y):VA2 p W v [Tess.valOf x]:=by
 obtain⟨d,c,rfl,h1,h2,h3,h4⟩:=h
 exact⟨_,c,rfl,(by decide:(1:Nat)<=maxLen),fun y hy=>(by rw[zJ.1 hy];exact hs),(fun e=>by cases e),fun _=>⟨d,0,rfl,h2,hp d h1,fun j hj=>by
  have hj:j<1:=hj;obtain rfl:j=0:=by omega
  exact⟨h3,h4⟩⟩⟩
theorem V1.cA2{B:Nat}{p:Nat->Prop}{x:DV}{v:Value}{W:World}(t n:Int)(h:V1 B x v W)(hs:(Tess.valOf x).s.size<=maxLen)(hp:∀y,B<=y->p y):CA3 p W (cv (t,x,n) v) ((t,[x]),⟨n,[],[],[]⟩):=
 ⟨v,.slice none 0 0,.slice none 0 0,.slice none 0 0,rfl,h.vP hs hp,⟨RA.nil _ _ _ _,RA.nil _ _ _ _,RA.nil _ _ _ _⟩⟩
theorem St13.cels{N:Nat}{v:Value}{W:World}(h:St13 N 3 v W):CA2 (fun y=>N<=y) W v Tess.ce2:=by
 rcases h with⟨h,_⟩|⟨h,_⟩|⟨_,_,g,v0,v1,Ab,rfl,h4,h5,h6,h7,h8⟩
 ·omega
 ·omega
 refine⟨_,2,rfl,(by decide:(2:Nat)<=maxLen),qC 2,(fun e=>by cases e),fun _=>⟨g,0,rfl,(qA.1 h5).1,yV h4,fun j hj=>?_⟩⟩;have Aa:j<2:=hj;rcases (show j=0∨j=1 by omega)with rfl|rfl
 ·refine⟨_,rfl,h7.cA2 0 1 (by decide) fun y hy=>by omega,fun i hi=>?_⟩;rw[show 0+0*6+i=i by omega,h6 i (by omega)];exact jX hi
 ·refine⟨_,rfl,h8.cA2 5 2 (by decide) fun y hy=>by omega,fun i hi=>?_⟩;rw[show 0+1*6+i=6+i by omega,h6 (6+i) (by omega),jk (show 6<=6+i by omega)];rw[show 6+i-(cv (0,some Tess.tyy,1) v0).length=i by show 6+i-6=i;omega];rfl
theorem yo(k:Nat):(y13 k).2.2=1:=by unfold y13;split<;>rfl
theorem yf(k:Nat):Tess.rowFits Tess.sc2 (y13 k).1 [Tess.valOf (y13 k).2.1] 0=true/\(Tess.valOf (y13 k).2.1).s.size<=maxLen:=by unfold y13;split<;>exact⟨by decide +kernel,by decide⟩
def xs13(us:Nat->Value)(k:Nat):List Value:=(List.range k).flatMap fun i=>cv (y13 i) (us i)
theorem xs2(us:Nat->Value)(k:Nat):xs13 us (k+1)=xs13 us k++cv (y13 k) (us k):=by unfold xs13;rw[xX,yt];simp
theorem xc{us vs:Nat->Value}{k:Nat}(h:∀i,i<k->us i=vs i):xs13 us k=xs13 vs k:=by unfold xs13;rw[qBr,qBr];congr 1;exact yI fun i hi=>by rw[h i (zV.1 hi)]
theorem xa2(us:Nat->Value){k j:Nat}(hk:k<3)(hj:j<6):(xs13 us 3)[k*6+j]?=(cv (y13 k) (us k))[j]?:=by have e:xs13 us 3=cv (y13 0) (us 0)++(cv (y13 1) (us 1)++(cv (y13 2) (us 2)++[])):=rfl;rw[e];rcases (show k=0∨k=1∨k=2 by omega)with rfl|rfl|rfl<;>rcases (show j=0∨j=1∨j=2∨j=3∨j=4∨j=5 by omega)with rfl|rfl|rfl|rfl|rfl|rfl<;>rfl
theorem ra49(b:Nat)(u:Nat->Value)(vs:Value)(w:World)(hs:SA (fun _=>True) w vs Tess.sc2)(hb:b<w.heap.size)(hc:∀k,k<3->w.cell? ⟨b,k*3,none⟩=some (.int .i64 (y13 k).1)/\w.cell? ⟨b,k*3+1,none⟩=some (u k)/\w.cell? ⟨b,k*3+2,none⟩=some (.slice none 0 0))(hu:∀k,k<3->V1 0 (y13 k).2.1 (u k) w) :
  Calls Tryz.prog 9 #[vs,.slice (some ⟨b,0,none⟩) 3 3] w fun e w'=>∃v,e = .returned (.tuple #[v,.int .i64 0])/\CA2 (fun y=>w.heap.size<=y) w' v Tess.ce2/\Below w.heap.size w w':=by
 have HC:=Hd hc;have HU:=Hd hu;have HR:=Hd (fun W (hB:Below w.heap.size w W)=>sRa vs Tess.sc2 (fun _=>True) W (hs.ag (Ag.new _ hB)));have Bv:=Hd (fun W (hB:Below w.heap.size w W) k (hk:k<3)=>oa9 (y13 k).1 vs Tess.sc2 W (hs.ag (Ag.new _ hB)) rfl (yf k).1 ((hu k hk).below hB) (yf k).2);rw[Tess.so5]at HR;clear hc hu;obtain⟨vd,vm,rfl,hd,hm,_,_⟩:=hs;obtain⟨ad,Ak,rfl,_⟩:=sl3 hd
 obtain⟨am,Ai,rfl,_⟩:=sl3 hm;clear hd hm;obtain⟨W0,Bd⟩:=XQ (w.alloc (.cells #[.slice ad Tess.sc2.dims.length Ak,.slice am Tess.sc2.mets.length Ai,.int .i64 Tess.sc2.grain] 24))
 obtain⟨h0,hS,hB⟩:=la2 w (.cells #[.slice ad Tess.sc2.dims.length Ak,.slice am Tess.sc2.mets.length Ai,.int .i64 Tess.sc2.grain] 24);rw[Bd]at h0 hS hB;obtain⟨⟨x0,x1,x2⟩,_⟩:=can3 h0;have HB:=Hd hB;have H0:=Hd h0;clear h0 hS hB;obtain⟨i0,hi,Bm,B3,Bz⟩:=zF iC;go_enter Tryz.func9,Tryz.ntmps9;go_wp2_with (fail);go_at_call 23;refine(HR.out W0 HB.out).mono ?_;rintro e w1 ⟨rfl,A5⟩
 have Bo:=Hd ((A5.block _ (qA.1 H0.out).1).trans H0.out);have Bu:=Hd (Bt HB.out A5);clear x0 x1 x2 Bd A5;go_wp2_with (fail)
 go_loopw [6,16] (fun v i wr=>∃(k:Nat) (us:Nat->Value),k<=3/\i = .int .i64 k/\wr.ownsRow (w.heap.size+1) 56 6 v k (xs13 us k)/\(k=0->v = .slice none 0 0)/\(∀i,i<k->V1 (w.heap.size+1) (y13 i).2.1 (us i) wr)/\wr.heap[w.heap.size]?=some (.cells #[.slice ad Tess.sc2.dims.length Ak,.slice am Tess.sc2.mets.length Ai,.int .i64 Tess.sc2.grain] 24 (0,0))/\Below w.heap.size w wr) (fun _ i _=>3-(intOf i).toNat)
 case atStart=>exact⟨0,fun _=>undef,qN _,rfl,qg _ _ _ _,(fun _=>rfl),(fun i h=>absurd h (zH i)),Bo.out,Bu.out⟩
 case round=>
  obtain⟨k,us,hk,rfl,Af,Ao,Bc,Aw,hB⟩:=hrel;have HN:=Hd Ao;have HO:=Hd Af;have Bh:=Hd Bc;have Bl:=Hd Aw;have Ay:=Hd hB;obtain⟨⟨x0,x1,x2⟩,_⟩:=can3 Aw;have As:w.heap.size<wr.heap.size:=(qA.1 Aw).1;clear Bc Aw Ao;by_cases hlt:k<3
  ·have Bn:(k:Int)<3:=by omega
   obtain⟨q0,q1,q2⟩:=HC.out k hlt;have HF:=Hd (fun W hW=>Bv.out W hW k hlt);have Be:=Hd (yo k);obtain⟨du,cu,Bk,_⟩:=HU.out k hlt;obtain⟨⟨t,x,m⟩,hy⟩:∃y,y=y13 k:=⟨_,rfl⟩
   rw[<-hy]at q0 HF Be;rw[Bk]at q1 HF;obtain rfl:m=1:=Be.out;have HY:=Hd hy;have c0:wr.cell? ⟨b,k*3,none⟩=some (.int .i64 t):=(hB.cell (p:=⟨b,k*3,none⟩) hb).trans q0;have c1:wr.cell? ⟨b,k*3+1,none⟩=some (.slice (some ⟨du,0,none⟩) 1 cu):=(hB.cell (p:=⟨b,k*3+1,none⟩) hb).trans q1;have c2:wr.cell? ⟨b,k*3+2,none⟩=some (.slice none 0 0):=(hB.cell (p:=⟨b,k*3+2,none⟩) hb).trans q2
   have Cc:b<wr.heap.size:=qF hb hB.size;clear q0 q1 q2 hy Bk hB Af;obtain⟨W3,Au⟩:=XQ (wr.alloc (.cells #[.int .i64 t,.slice (some ⟨du,0,none⟩) 1 cu,.slice none 0 0] 51))
   obtain⟨k1,kS,kB⟩:=la2 wr (.cells #[.int .i64 t,.slice (some ⟨du,0,none⟩) 1 cu,.slice none 0 0] 51);rw[Au]at k1 kS kB;have A4:=(kB.block _ As).trans Bl.out;obtain⟨⟨z0,z1,z2⟩,_⟩:=can3 A4;rw[<-Au]at z0 z1 z2;have Cb:=Hd A4;have A2:=Hd (Bt Ay.out kB);have Bi:=Hd kB;have B0:=Hd Au;clear A4 kB kS k1 Au;go_wp2_with (fail);go_at_call 24;rw[B0.out];refine(HF.out W3 A2.out).mono ?_
   rintro e w2 ⟨v2,rfl,At,Ar⟩;have At:=At.low (C:=w.heap.size+1) (qt As Bi.out.size);have Bp:=Hd At;obtain⟨d2,k2,rfl,_⟩:=At;have An:=Bt Bi.out Ar;clear x0 x1 x2 z0 z1 z2 c0 c1 c2;obtain⟨W4,Ba⟩:=XQ (w2.alloc (.cells #[.int .i64 t,.slice (some ⟨d2,0,none⟩) 1 k2,.int .i64 1,.slice none 0 0,.slice none 0 0,.slice none 0 0] 56))
   obtain⟨k4,A6,A1⟩:=la2 w2 (.cells #[.int .i64 t,.slice (some ⟨d2,0,none⟩) 1 k2,.int .i64 1,.slice none 0 0,.slice none 0 0,.slice none 0 0] 56);rw[Ba]at k4 A6 A1;obtain⟨W5,Ax⟩:=XQ (W4.alloc (.cells #[.int .i64 t,.slice (some ⟨d2,0,none⟩) 1 k2,.int .i64 1,.slice none 0 0,.slice none 0 0,.slice none 0 0] 56))
   obtain⟨k5,Bf,Az⟩:=la2 W4 (.cells #[.int .i64 t,.slice (some ⟨d2,0,none⟩) 1 k2,.int .i64 1,.slice none 0 0,.slice none 0 0,.slice none 0 0] 56);rw[Ax]at k5 Bf Az;rw[A6]at k5;have B6:=Hd k5;have Aj:Below w2.heap.size w2 W5:=Bt A1 Az;have Ae:Below wr.heap.size wr W5:=Bt An Aj;have Av:=Hd (ob2 HO.out Ae);have A7:=Hd ((Ae.block _ As).trans Bl.out);have Bb:=Hd (Bt Ay.out Ae)
   have Bg:=Hd (Bp.out.below Aj);have A3:=Hd (fun i hi=>(Bh.out i hi).below Ae);have Bx:=Hd Ba;have B5:=Hd Ax;clear A1 Az A6 Bf k4 k5 Aj Ae Ba Ax Ar An
   go_wp2_with (have B9:=Bg;clear B9;at_builtin;rw[Bx.out,B5.out];refine jT _ rfl _ _ 28 rfl (w.heap.size+1) 56 i0 (.agg #[.int .i64 0,.slice none 0 0,.int .i64 0,.slice none 0 0,.slice none 0 0,.slice none 0 0]) 6 112 Tryz.underlying28 hi Bm B3 Bz rfl (by decide) _ _ _ rfl Av.out ⟨w2.heap.size+1,0,none⟩ 1 1 [.int .i64 t,.slice (some ⟨d2,0,none⟩) 1 k2,.int .i64 1,.slice none 0 0,.slice none 0 0,.slice none 0 0] rfl rfl ?_ ?_ ?_ ?_ ?_ ?_)
   ·intro j u hj;rw[addr_add,qT _ _ _ _ _ _ B6.out,qj];simpa using hj
   ·intro u hu;simp only[qm,zG,jr]at hu;rcases hu with rfl|rfl|rfl|rfl|rfl|rfl<;>rfl
   ·unfold maxLen;omega
   ·omega
   ·have:=Bb.out.size;have:=(qA.1 A7.out).1;omega
   intro v' w3 Ad Aa Aq Ap;obtain⟨Am,Ac⟩:=Xq (fun i=>if i=k then .slice (some ⟨d2,0,none⟩) 1 k2 else us i:Nat->Value)
   have Bj:xs13 Am (k+1)=xs13 us k++[.int .i64 t,.slice (some ⟨d2,0,none⟩) 1 k2,.int .i64 1,.slice none 0 0,.slice none 0 0,.slice none 0 0]:=by rw[xs2,xc (vs:=us) fun i hi=>by rw[Ac];exact qH (by omega),<-HY.out,show Am k = .slice (some ⟨d2,0,none⟩) 1 k2 by rw[Ac];exact qR rfl];rfl
   rw[<-Bj]at Ad;have B1:=Hd Ad
   have Al:∀{x:DV} {v:Value},V1 (w.heap.size+1) x v W5->V1 (w.heap.size+1) x v w3:=fun {x v} h=>by
    obtain⟨d,c,e,h1,h2,h3,h4⟩:=h
    have B2:some d≠Value.ownBlock u6:=fun e=>by
     rcases jI k with h0|h0
     ·rw[HN.out h0]at e;cases e
     ·obtain⟨q,_,eq,_,_,_,_,hq⟩:=oca Av.out h0;rw[eq]at e;cases e
      have:=(hq 0 (by omega)).symm.trans h3;rcases (show k=1∨k=2 by omega)with rfl|rfl<;>cases this
    have hb:=Aa.block d h2 B2;exact⟨d,c,e,h1,qF h2 Aa.size,(jz (a:=⟨d,0,none⟩) hb).trans h3,(jz (a:=⟨d,1,none⟩) hb).trans h4⟩
   have B4:=Hd (show ∀i,i<k+1->V1 (w.heap.size+1) (y13 i).2.1 (Am i) w3 from fun i hi=>by
    by_cases e:i=k
    ·subst e;rw[Ac];simp only[jH];rw[<-HY.out];exact Al Bg.out
    ·rw[Ac];simp only[qH e]
     exact Al (A3.out i (by omega)))
   have Bq:=Hd (Bb.out.grown Aa Bb.out.size (fun j e=>by have:=(Av.out.lt j e).1;omega));have Br:=Hd ((Aa.block w.heap.size ((qA.1 A7.out).1) (fun e=>by have:=(Av.out.lt _ e.symm).1;omega)).trans A7.out);clear Ad Aa Aq Ap Al Bj Ac;go_wp2;go_roundw
   case rel=>exact⟨k+1,Am,by omega,by go_num,B1.out,(fun h=>by omega),B4.out,Br.out,Bq.out⟩
   case measure=>simp[intOf];omega
  ·obtain rfl:k=3:=by omega
   have Bn:¬((3:Nat):Int)<3:=by omega
   obtain⟨g,Bw,hv,_,By,_,_,Ah⟩:=oca Af (by omega);have A9:=Hd (pa7 g Bw us wr By (fun k hk j hj=>(Ah _ (by omega)).trans (xa2 us hk hj)) (fun k hk=>(Bh.out k hk).low (qN _)));subst hv;clear Ah Af hB;go_wp2_with (fail);go_at_call 26;refine A9.out.mono ?_;rintro e w2 ⟨v2,rfl,A8,Ar⟩;have Ab:=A8.cels;obtain⟨la,n2,rfl,_⟩:=A8.shape;have Ca:=Hd (ea3 _ _ _ w2 Ab (by decide) (by decide))
   have B7:=Hd (Bt Ay.out Ar);have Bs:=Hd (Ab.weak (q:=fun y=>w.heap.size<=y) fun y hy=>qt (yV As) hy);clear Ab A8 Ar x0 x1 x2;go_wp2_with (fail);go_at_call 25;refine Ca.out.mono ?_;rintro e w3 ⟨rfl,A0⟩;have A2:=Hd (Bt B7.out A0);have B8:=Hd (Bs.out.ag (Ag.new _ A0));clear A0;go_wp2_with (fail);go_ret2;exact⟨_,rfl,B8.out,A2.out⟩
