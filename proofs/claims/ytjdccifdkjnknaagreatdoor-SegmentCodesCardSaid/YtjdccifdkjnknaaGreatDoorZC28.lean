/- Are cells right? The program's Right, walked, where they are. Written by gen34.py. -/
import Derived.Test.YtjdccifdkjnknaaGreatDoorZC27
set_option maxRecDepth 100000
set_option maxHeartbeats 2000000
namespace Go.Proofs.Q9
open Go.RowKit Go.Sort Go.Shelf
open Tess (CK Pay PO CO2 CO ckLt)
attribute [local go_sem] jK
def rL2(cb:Nat)(q:CK×Pay->Bool)(l:List (CK×Pay))(a:Option Addr)(w:World):Prop:=
 ∀k (hk:k<l.length),∃b off,a=some ⟨b,off,none⟩/\b<w.heap.size/\∃c0 c1 c2 c3 c4 c5,(w.cell? ⟨b,off+k*6,none⟩=some c0/\w.cell? ⟨b,off+k*6+1,none⟩=some c1/\w.cell? ⟨b,off+k*6+2,none⟩=some c2/\w.cell? ⟨b,off+k*6+3,none⟩=some c3/\w.cell? ⟨b,off+k*6+4,none⟩=some c4/\w.cell? ⟨b,off+k*6+5,none⟩=some c5) /\
   ∀W,Below w.heap.size w W->Calls Tryz.prog 37 #[.agg #[c0,c1,c2,c3,c4,c5],.pointer (some ⟨cb,0,none⟩)] W fun e w'=>e = .returned (.bool (q l[k]))/\Below W.heap.size W w'
theorem ir2(cb:Nat)(q:CK×Pay->Bool)(l:List (CK×Pay))(a:Option Addr)(cap:Nat)(w:World)(hlen:l.length<=maxLen)(hc:rL2 cb q l a w) :
  Calls Tryz.prog 88 #[.slice a l.length cap,.func (.func 37) #[] #[.pointer (some ⟨cb,0,none⟩)]] w fun e w'=>∃i:Int,e = .returned (.int .i64 i)/\decide (0<=i)=l.any q/\Below w.heap.size w w':=by
 have HC:=Hd hc;have Ag:l.length<=9223372036854775807:=by unfold maxLen at hlen;omega
 clear hc hlen;go_enter Tryz.func88,Tryz.ntmps88;go_wp2;go_loopw [8] (fun i wr=>∃k:Nat,k<=l.length/\i = .int .i64 k/\(∀j (hj:j<l.length),j<k->q l[j]=false)/\Below w.heap.size w wr) (fun i _=>l.length-(intOf i).toNat)
 case atStart=>exact⟨0,qN _,rfl,fun j _ h=>absurd h (zH _),qJ _ _⟩
 case round=>
  obtain⟨k,hk,rfl,Ac,hB⟩:=hrel;have HA:=Hd Ac;have HB:=Hd hB;clear Ac hB;by_cases hlt:k<l.length
  ·obtain⟨b,Aa,rfl,hb,c0,c1,c2,c3,c4,c5,⟨g0,g1,g2,g3,g4,g5⟩,Ab⟩:=HC.out k hlt;have e0:wr.cell? ⟨b,Aa+k*6,none⟩=some c0:=(HB.out.cell (p:=⟨b,Aa+k*6,none⟩) hb).trans g0;have e1:wr.cell? ⟨b,Aa+k*6+1,none⟩=some c1:=(HB.out.cell (p:=⟨b,Aa+k*6+1,none⟩) hb).trans g1;have e2:wr.cell? ⟨b,Aa+k*6+2,none⟩=some c2:=(HB.out.cell (p:=⟨b,Aa+k*6+2,none⟩) hb).trans g2
   have e3:wr.cell? ⟨b,Aa+k*6+3,none⟩=some c3:=(HB.out.cell (p:=⟨b,Aa+k*6+3,none⟩) hb).trans g3;have e4:wr.cell? ⟨b,Aa+k*6+4,none⟩=some c4:=(HB.out.cell (p:=⟨b,Aa+k*6+4,none⟩) hb).trans g4;have e5:wr.cell? ⟨b,Aa+k*6+5,none⟩=some c5:=(HB.out.cell (p:=⟨b,Aa+k*6+5,none⟩) hb).trans g5;have HX:=Hd Ab;clear g0 g1 g2 g3 g4 g5 Ab;have Af:(k:Int)<(l.length:Int):=by omega
   cases hyx:q l[k]
   ·rw[hyx]at HX;have HY:=Hd hyx;clear hyx;go_wp2_with (go_at_call 37;refine(HX.out _ HB.out).mono ?_;rintro e w2 ⟨rfl,Ad⟩;have Ae:=Hd Ad;clear Ad);go_roundw
    case rel=>
     refine⟨k+1,by omega,by go_num,fun j hj hjk=>?_,Bt HB.out Ae.out⟩;by_cases hjk':j<k
     ·exact HA.out j hj hjk'
     ·obtain rfl:j=k:=by omega
      exact HY.out
    case measure=>simp[intOf];omega
   ·rw[hyx]at HX;have HY:=Hd hyx;clear hyx;go_wp2_with (go_at_call 37;refine(HX.out _ HB.out).mono ?_;rintro e w2 ⟨rfl,Ad⟩;have Ae:=Hd Ad;clear Ad);go_ret;refine⟨(k:Int),rfl,?_,Bt HB.out Ae.out⟩;rw[decide_eq_true (by omega),qBy,yj];exact⟨l[k],qP hlt,HY.out⟩
  ·have Af:¬(k:Int)<(l.length:Int):=by omega
   go_wp2;go_ret;refine⟨-1,rfl,?_,HB.out⟩;rw[qG (by omega),qBy,xI];intro y hy;obtain⟨j,hj,rfl⟩:=zq hy;rw[HA.out j hj (by omega)];simp
theorem cr2(cb:Nat)(q:CK×Pay->Bool)(l:List (CK×Pay))(a:Option Addr)(cap:Nat)(w:World)(hlen:l.length<=maxLen)(hc:rL2 cb q l a w) :
  Calls Tryz.prog 36 #[.slice a l.length cap,.func (.func 37) #[] #[.pointer (some ⟨cb,0,none⟩)]] w fun e w'=>e = .returned (.bool (l.any q))/\Below w.heap.size w w':=by
 have HI:=Hd (ir2 cb q l a cap w hlen hc);clear hc;go_enter Tryz.func36,Tryz.ntmps36;go_wp2_with (go_at_call 88;refine HI.out.mono ?_;rintro e w2 ⟨i,rfl,hi,hB⟩;have HH:=Hd hi;have HB:=Hd hB;clear hi hB);go_ret;refine⟨?_,HB.out⟩;rw[<-HH.out];rfl
theorem ra46(cb:Nat)(p:Nat->Prop)(vs:List Value)(cs:List Value)(s:Tess.Sch)(x:CK×Pay)(W:World)(hbx:W.heap[cb]?=some (.cells vs.toArray 24 (0,0)))(hs:SA p W (.agg vs.toArray) s)(hc:CA3 p W cs x)(hsch:Tess.sO s=true)(hok:CO2 s x) :
  Calls Tryz.prog 37 #[.agg cs.toArray,.pointer (some ⟨cb,0,none⟩)] W fun e w'=>e = .returned (.bool false)/\Below W.heap.size W w':=by
 have HR:=Hd (fun W' (hB:Below W.heap.size W W')=>cRa p _ cs s x W' (hs.ag (Ag.new p hB)) (hc.ag (Ag.new p hB)) hsch hok);obtain⟨vd,vm,hv,_,_,_,_⟩:=hs;obtain rfl:vs=[vd,vm,.int .i64 s.grain]:=by simpa using zM (fun v=>match v with | .agg a=>a.toList|_=>[]) hv
 obtain⟨ad,cd,a3,c3,a4,c4,a5,c5,rfl,_⟩:=hc.shapes;clear hc hv;obtain⟨W0,Aa⟩:=XQ (W.alloc (.cells #[.int .i64 x.1.1,.slice ad x.1.2.length cd,.int .i64 x.2.n,.slice a3 x.2.sums.length c3,.slice a4 x.2.mins.length c4,.slice a5 x.2.maxs.length c5] 56))
 obtain⟨k0,kS,kB⟩:=la2 W (.cells #[.int .i64 x.1.1,.slice ad x.1.2.length cd,.int .i64 x.2.n,.slice a3 x.2.sums.length c3,.slice a4 x.2.mins.length c4,.slice a5 x.2.maxs.length c5] 56);rw[Aa]at k0 kS kB;obtain⟨⟨x0,x1,x2,x3,x4,x5⟩,_⟩:=can6 k0;obtain⟨⟨y0,y1,y2⟩,_⟩:=can3 ((kB.block _ (qA.1 hbx).1).trans hbx);have HB:=Hd kB;clear k0 kS kB hbx;go_enter Tryz.func37,Tryz.ntmps37;go_wp2_with (fail)
 go_at_call 38;refine(HR.out _ HB.out).mono ?_;rintro e w2 ⟨rfl,Ab⟩;have Ac:=Hd (Bt HB.out Ab);clear Ab x0 x1 x2 x3 x4 x5 y0 y1 y2 Aa;go_wp2;go_ret;exact⟨rfl,Ac.out⟩
theorem pa5(a:Option Addr)(n c:Nat)(w:World):Calls Tryz.prog 39 #[.slice a n c] w fun e w'=>e = .returned (.func (.func 90) #[] #[.pointer (some ⟨w.heap.size,0,none⟩)])/\w'=w.alloc (.cells #[.slice a n c] 28):=by go_enter Tryz.func39,Tryz.ntmps39;go_wp2;go_ret;exact⟨rfl,rfl⟩
theorem LA.rows{α:Type}{k:Nat}{R:World->List Value->α->Prop}{p:Nat->Prop}{w:World}{v:Value}{l:List α}(h:LA k R p w v l):∃a c,v = .slice a l.length c/\l.length<=maxLen/\∃us:Nat->List Value,∀j (hj:j<l.length),(us j).length=k/\R w (us j) l[j]/\∃b off,a=some ⟨b,off,none⟩/\b<w.heap.size/\p b/\∀i,i<k->w.cell? ⟨b,off+j*k+i,none⟩=(us j)[i]?:=by
 obtain⟨a,c,hv,h1,_,_,h4⟩:=h;refine⟨a,c,hv,h1,?_⟩;by_cases hl:0<l.length
 ·obtain⟨b,off,ha,hb,hp,hc⟩:=h4 hl;refine⟨fun j=>if hj:j<l.length then Classical.choose (hc j hj)else[],fun j hj=>?_⟩;dsimp only;rw[dif_pos hj];obtain⟨h5,h6,h7⟩:=Classical.choose_spec (hc j hj);exact⟨h5,h6,b,off,ha,hb,hp,h7⟩
 ·exact⟨fun _=>[],fun j hj=>absurd hj (by omega)⟩
theorem six{l:List Value}(h:l.length=6):∃y0 y1 y2 y3 y4 y5,l=[y0,y1,y2,y3,y4,y5]:=by
 match l,h with
 |[y0,y1,y2,y3,y4,y5],_=>exact⟨_,_,_,_,_,_,rfl⟩
theorem pi2(n:Nat)(hn:n<=1000000)(us:Nat->List Value)(a:Option Addr)(c bp:Nat)(q:Nat->Prop)(W0:World)(h0:W0.cell? ⟨bp,0,none⟩=some (.slice a n c))(hb:q bp)
  (hr:∀j,j<n->(us j).length=6/\∃b off,a=some ⟨b,off,none⟩/\b<W0.heap.size/\q b/\∀i,i<6->W0.cell? ⟨b,off+j*6+i,none⟩=(us j)[i]?) :
  Iter 90 #[.pointer (some ⟨bp,0,none⟩)] 2 ((List.range (n-1)).map fun j=>#[.agg (us j).toArray,.agg (us (j+1)).toArray]) q W0:=by
 intro l Av T A B Al Ah _ Am hy Ak W hI;have HI:=Hd hI;have Aj:=Hd Ah;have Ai:=Hd Am;have HY:=Hd hy;have HR:=Hd Ak;have HU:=Hd hr;have Af:=qK W0 _ h0;have HC:=Hd (fun k X (h:Al k X)=>((Ai.out k X h).2.cell Af hb).trans h0);clear hI Ah Am hy Ak hr;refine(qZ (n:=5)).1 ?_;refine yg Tryz.func90 rfl trivial ?_ rfl;simp only[Tryz.ntmps90,qu,qU,zE,Nat.reduceAdd,Nat.reduceSub,qv,qw,zO,zC,qr,qk];gi_wp2
 gi_loopw [3] (fun i wr=>∃k:Nat,k<=n-1/\i = .int .i64 ((k:Int)+1)/\Al k wr) (fun i _=>n-(intOf i).toNat)
 case atStart=>exact⟨0,qN _,rfl,HI.out⟩
 case round=>
  obtain⟨k,hk,rfl,hI⟩:=hrel;have HJ:=Hd hI;have c1:=HC.out k wr hI;clear hI;by_cases hlt:k<n-1
  ·have Ap:(k:Int)+1<(n:Int):=by omega
   obtain⟨e5,b,off,rfl,Ac,Ae,Ab⟩:=HU.out k (by omega);obtain⟨e6,b',Ao,e7,_,_,Aa⟩:=HU.out (k+1) (by omega);simp only[xf,Addr.mk.injEq,and_true]at e7;obtain⟨rfl,rfl⟩:=e7;have Ad:=(Ai.out k wr HJ.out).2;obtain⟨y0,y1,y2,y3,y4,y5,ey⟩:=six e5;obtain⟨z0,z1,z2,z3,z4,z5,ez⟩:=six e6;rw[ey]at Ab;rw[ez]at Aa;have hm:(k+1)*6=k*6+6:=by omega
   have g0:=(Ad.cell Ac Ae).trans (Ab 0 (by omega));have g1:=(Ad.cell Ac Ae).trans (Ab 1 (by omega));have g2:=(Ad.cell Ac Ae).trans (Ab 2 (by omega));have g3:=(Ad.cell Ac Ae).trans (Ab 3 (by omega));have g4:=(Ad.cell Ac Ae).trans (Ab 4 (by omega));have g5:=(Ad.cell Ac Ae).trans (Ab 5 (by omega));have q0:=(Ad.cell Ac Ae).trans (Aa 0 (by omega));have q1:=(Ad.cell Ac Ae).trans (Aa 1 (by omega))
   have q2:=(Ad.cell Ac Ae).trans (Aa 2 (by omega));have q3:=(Ad.cell Ac Ae).trans (Aa 3 (by omega));have q4:=(Ad.cell Ac Ae).trans (Aa 4 (by omega));have q5:=(Ad.cell Ac Ae).trans (Aa 5 (by omega));rw[hm]at q0 q1 q2 q3 q4 q5;simp only[yD,jU,jV]at g0 g1 g2 g3 g4 g5 q0 q1 q2 q3 q4 q5;have Ag:=Hd (fun X (hX:Below wr.heap.size wr X)=>HR.out k X (by simp;omega) (Aj.out k wr X HJ.out hX))
   have Ar:=Hd (fun X (hX:Below wr.heap.size wr X)=>HY.out k X (Aj.out k wr X HJ.out hX));simp only[zL,yU,ey,ez]at Ag;have Aw:b<wr.heap.size:=qF Ac Ad.1;have An:bp<wr.heap.size:=qK wr _ c1;have Az:IntKind.i64.wrap (k:Int)=(k:Int):=by rw[zU];omega
   have Au:(k:Int)<(n:Int):=by omega
   have Ax:(0:Int)<=(k:Int)+1:=by omega
   clear Ab Aa Ad ey ez e5 e6 Ae Ac;gi_wp2;refine Flow.wIr 11 (Flow.sp3 [.inl ?_,.inl ?_,.inl ?_,.inl ?_,.inl ?_,.inl ?_,.inl ?_,.inl ?_,.inl ?_,.inl ?_,.inl ?_]) (by kernel_rfl) (by kernel_rfl) ?_ ?_;rotate_left 11
   ·refine Flow.sm2 ?_
    repeat(first|exact Flow.ln2|refine Flow.li2 ?_)
   all_goals try simp only[qL,qY,qM,qV]
   iterate 11 (refine Flow.tvK rfl (fun K hK=>⟨fun w hw hG=>?_,?_⟩);(have Ay:=Flow.bc4 hw;clear hG hw;unfold Flow.Runs Flow.yields;go_simp;try rfl);go_simp;refine hK _ ?_;clear hK K)
   refine Flow.tn2 fun w2 hw2 hG=>?_;clear hG;have As:=Ar.out w2 hw2 #[.agg #[y0,y1,y2,y3,y4,y5],.agg #[z0,z1,z2,z3,z4,z5]] rfl;have Aq:=Hd (Ag.out w2 hw2);clear hw2 g0 g1 g2 g3 g4 g5 q0 q1 q2 q3 q4 q5 c1;go_simp;gi_wp2;refine rIa (Aq.out.mono ?_);clear As;rintro e w3 ⟨rfl,hinv⟩;have HV:=Hd hinv;clear hinv;gi_wp2;go_roundw
   case rel=>exact⟨k+1,by omega,by go_num,HV.out⟩
   case measure=>simp[intOf];omega
  ·have Ap:¬(k:Int)+1<(n:Int):=by omega
   have At:k=n-1:=by omega
   gi_wp2;go_end0;refine⟨⟨_,rfl⟩,?_⟩;exact At▸HJ.out
