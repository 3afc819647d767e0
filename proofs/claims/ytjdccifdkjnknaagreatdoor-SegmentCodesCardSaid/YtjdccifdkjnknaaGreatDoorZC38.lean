/- Joined. -/
import Derived.Test.YtjdccifdkjnknaaGreatDoorZC37
set_option maxRecDepth 100000
set_option maxHeartbeats 4000000
namespace Go.Proofs.Q9
open Go.RowKit Go.Sort
theorem rm2(n:Nat)(w:World)(h:n<18446744073709551616):Calls Tryz.prog 52 #[.int .u64 n] w fun e w'=>e = .returned (.string (Tess.mk (Tess.putL n)))/\Below w.heap.size w w':=ra6 9 n w (by omega) h
theorem ra53(d:Int)(w:World)(h: -9223372036854775808<=d/\d<=9223372036854775807):Calls Tryz.prog 147 #[.int .i64 d] w fun e w'=>e = .returned (.int .u64 (Tess.tN d:Nat))/\w=w':=by
 by_cases h0:d<0
 ·have e1:IntKind.i64.wrap (-1-d) = -1-d:=by rw[zU];omega
  have e2:IntKind.u64.wrap (-1-d) = -1-d:=by rw[zy];omega
  have e3:IntKind.u64.wrap (2*(-1-d))=2*(-1-d):=by rw[zy];omega
  have e4:IntKind.u64.wrap (2*(-1-d)+1)=(Tess.tN d:Nat):=by rw[zy];unfold Tess.tN;split<;>omega
  generalize Tess.tN d=t at *;go_enter Tryz.func147,Tryz.ntmps147;go_wp2;go_ret;exact⟨rfl,rfl⟩
 ·have e2:IntKind.u64.wrap d=d:=by rw[zy];omega
  have e4:IntKind.u64.wrap (2*d)=(Tess.tN d:Nat):=by rw[zy];unfold Tess.tN;split<;>omega
  generalize Tess.tN d=t at *;go_enter Tryz.func147,Tryz.ntmps147;go_wp2;go_ret;exact⟨rfl,rfl⟩
theorem ra59(v:Value)(l:List Int)(w:World)(h:SlOf w v (l.map (.int .i64)))(hr:Tess.I64s l)(hl:l.length<=1000) :
  Calls Tryz.prog 96 #[v] w fun e w'=>e = .returned (.tuple #[.string (Tess.mk (Tess.pL2 l)),.int .i64 0])/\Below w.heap.size w w':=by
 obtain⟨a,c,rfl,_,hc⟩:=so3 _ h;have HC:=Hd hc;have HR:=Hd hr;have Au:decide ((1000:Int)<(l.length:Int))=false:=qG (by omega);have As:¬(1000:Int)<(l.length:Int):=by omega
 have Ap:=Hd (fun W=>rm2 l.length W (by omega));clear h hr hc;go_enter Tryz.func96,Tryz.ntmps96;go_wp2_with (fail);go_at_call 52;refine(Ap.out _).mono ?_;rintro e w1 ⟨rfl,Ah⟩;have Aj:=Hd Ah;clear Ah;go_wp2_with (fail)
 go_loopw [4,5,6] (fun vo vl vi wr=>∃(k:Nat) (pre:List UInt8) (Aa:Int),k<=l.length/\vi = .int .i64 k/\vl = .int .i64 Aa/\vo = .string (Tess.mk pre)/\pre.length<=10*(k+1)/\pre++(Tess.di Aa (l.drop k)).flatMap (fun d=>Tess.putL (Tess.tN d))=Tess.pL2 l/\(-9223372036854775808<=Aa/\Aa<=9223372036854775807)/\Below w.heap.size w wr) (fun _ _ i _=>l.length-(intOf i).toNat)
 case atStart=>exact⟨0,_,0,qN _,rfl,rfl,rfl,Tess.pWs l.length (by omega),rfl,by omega,Aj.out⟩
 case round=>
  obtain⟨k,pre,Aa,hk,rfl,rfl,rfl,Ag,Ac,Aw,hB⟩:=hrel;have Av:(Tess.mk pre).size<=20000:=by rw[Tess.ms2];omega
  have Ar:=Hd Ag;clear Ag;have HB:=Hd hB;have Ae:=Hd Ac;by_cases hlt:k<l.length
  ·obtain⟨b,Am,rfl,hb,Ab⟩:=HC.out wr hB k hlt;have Al:(k:Int)<(l.length:Int):=by omega
   have hx:=HR.out _ (qP hlt);have Ad:=Ae.out;rw[zv hlt,Tess.di,zp,<-zN]at Ad;have At:=Hd Ad;generalize l[k]=x at *;have HT:=Hd (fun W=>ra53 (wrap64 (x-Aa)) W (Tess.wr5 _));have Ao:=Hd (fun W=>rm2 (Tess.tN (wrap64 (x-Aa))) W (Tess.tl2 _ (Tess.wr5 _)));have Ai:(Tess.mk (Tess.putL (Tess.tN (wrap64 (x-Aa))))).size<=10:=Tess.pWs _ (Tess.tl2 _ (Tess.wr5 _));have An:=Hd Ai
   have Ak:=Hd (Tess.ma2 pre (Tess.putL (Tess.tN (wrap64 (x-Aa)))));have hw:wrap64 (IntKind.u64.wrap (IntKind.u64.wrap x-IntKind.u64.wrap Aa))=wrap64 (x-Aa):=by simp only[zy];unfold wrap64;omega
   have HW:=Hd hw;clear hB Ac Ad hw;go_wp2_with (fail);rw[HW.out];go_at_call 147;refine(HT.out _).mono ?_;rintro e w2 ⟨rfl,rfl⟩;go_wp2_with (fail);go_at_call 52;refine(Ao.out _).mono ?_;rintro e w3 ⟨rfl,Af⟩;have Aq:=Hd (Bt HB.out Af);have Ab:=(Af.cell (p:=⟨b,Am+k,none⟩) hb).trans Ab;have hb:=qF hb Af.size;clear Af;go_wp2_with (fail);go_roundw
   case rel=>exact⟨k+1,_,x,by omega,by go_num,rfl,by rw[Ak.out],by have:=An.out;rw[Tess.ms2]at this;have:=Ar.out;rw[qI];omega,At.out,hx,Aq.out⟩
   case measure=>simp[intOf];omega
  ·have Al:¬(k:Int)<(l.length:Int):=by omega
   have Ad:=Ae.out;rw[qBo (by omega),Tess.di,jg,zZ]at Ad;subst Ad;clear hB Ac;go_wp2_with (fail);go_ret2;exact⟨rfl,HB.out⟩
theorem ra3(v:Value)(l:List Int)(w:World)(h:SlOf w v (l.map (.int .i64)))(hr:Tess.I64s l)(hl:l.length<=1000) :
  Calls Tryz.prog 45 #[v] w fun e w'=>e = .returned (.string (Tess.mk (Tess.pL2 l)))/\Below w.heap.size w w':=by
 have HP:=Hd (ra59 v l w h hr hl);clear h hr hl;go_enter Tryz.func45,Tryz.ntmps45;go_wp2_with (fail);go_at_call 96;refine HP.out.mono ?_;rintro e w1 ⟨rfl,Aa⟩;have Ab:=Hd Aa;clear Aa;go_wp2_with (fail);go_ret;exact⟨rfl,Ab.out⟩
end Go.Proofs.Q9
namespace Go.Proofs.Q9
open Go.RowKit Go.Sort
open Tess (sO)
theorem ra10(p:Nat->Prop)(vs:Value)(s:Tess.Sch)(w:World)(hs:SA p w vs s) :
  Calls Tryz.prog 21 #[vs] w fun e w'=>e = .returned (.tuple #[.string (if sO s=true then Tess.mk (Tess.hB14 s)else ByteArray.empty),.int .i64 (if sO s=true then 0 else 100)])/\Below w.heap.size w w':=by
 have Ap:=Hd (fun W (hB:Below w.heap.size w W)=>rRa p vs s W (hs.ag (Ag.new p hB)));obtain⟨vd,vm,rfl,hd,hm,A3,A2⟩:=hs;obtain⟨ds,ms,g⟩:=s;simp only at hd hm A3 A2⊢;obtain⟨ad,Ad,rfl,Cb,A4⟩:=so2 hd.1;obtain⟨am,Ab,rfl,B8,Bh⟩:=so2 hm.1;have A1:=Hd hm.2.2;have A6:=Hd A4;have Bb:=Hd Bh;have Bz:=Hd A3;have Br:=Hd A2;clear hd hm A4 Bh A3 A2;cases hok:sO ⟨ds,ms,g⟩
 ·rw[hok]at Ap;obtain⟨k0,kS,kB⟩:=la2 w (.cells #[.slice ad ds.length Ad,.slice am ms.length Ab,.int .i64 g] 24);obtain⟨W0,Al⟩:=XQ (w.alloc (.cells #[.slice ad ds.length Ad,.slice am ms.length Ab,.int .i64 g] 24))
  rw[Al]at k0 kS kB;obtain⟨⟨x0,x1,x2⟩,_⟩:=can3 k0;have HB:=Hd kB;clear k0 kS kB hok;go_enter Tryz.func21,Tryz.ntmps21;go_wp2_with (fail);go_at_call 50;refine(Ap.out _ HB.out).mono ?_;rintro e w1 ⟨rfl,Ai⟩;have Aw:=Hd (Bt HB.out Ai);clear Ai;go_wp2_with (fail);go_ret2;exact⟨rfl,Aw.out⟩
 rw[hok]at Ap;obtain⟨h2,h3,h4,h5,Ah⟩:=Tess.sf2 hok
 have h1:1<=ds.length:=by simp only[sO,qb,qn]at hok;exact hok.1.1.1.1.1
 simp only at h2 h3 h4 h5 Ah;have Am:=Hd Ah;have Ax:=Hd (show Tess.hB14 ⟨ds,ms,g⟩=(Tess.putL ds.length++Tess.putL ms.length++Tess.putL g.toNat)++(ds++ms).flatMap Tess.nB2 by simp[Tess.hB14]);obtain⟨gn,Bk⟩:∃gn:Nat,g=gn:=⟨g.toNat,by omega⟩
 subst Bk;rw[xj]at Ax;clear hok Ah;have Ar:=Hd (And.intro h1 (And.intro h2 h3));obtain⟨db,Aj,rfl,Ca,Bv⟩:=A6.out 0 (by omega);clear Bv
 have Ba:=Hd (show ∀j u,(ds.map Value.string)[j]?=some u->w.cell? ((⟨db,Aj,none⟩:Addr).add j)=some u from fun j u hj=>by
  rw[qp]at hj;obtain⟨x,hx,rfl⟩:=jM.1 hj;obtain⟨A0,rfl⟩:=zW.1 hx;obtain⟨b,Aq,ha,hb,h⟩:=A6.out j A0;cases ha
  rw[show(⟨db,Aj,none⟩:Addr).add j=⟨db,Aj+j,none⟩ by unfold Addr.add;split<;>simp_all]
  exact h)
 have Bq:=Hd (fun W=>rm2 ds.length W (by omega));have B6:=Hd (fun W=>rm2 ms.length W (by omega));have Bp:=Hd (fun W=>rm2 gn W (by omega));have z1:(Tess.mk (Tess.putL ds.length)).size<=10:=Tess.pWs _ (by omega);have z2:(Tess.mk (Tess.putL ms.length)).size<=10:=Tess.pWs _ (by omega);have z3:(Tess.mk (Tess.putL gn)).size<=10:=Tess.pWs _ (by omega)
 have B0:=Tess.ma2 (Tess.putL ds.length) (Tess.putL ms.length);have Av:=Tess.ma2 (Tess.putL ds.length++Tess.putL ms.length) (Tess.putL gn);have Bw:(Tess.mk (Tess.putL ds.length++Tess.putL ms.length)).size<=20:=by rw[Tess.ms2]at *;rw[qI];omega
 have Ao:(Tess.mk (Tess.putL ds.length++Tess.putL ms.length++Tess.putL gn)).size<=30:=by rw[Tess.ms2]at *;rw[qI];omega
 have s1:¬9223372036854775807<(Tess.mk (Tess.putL ds.length)).size+(Tess.mk (Tess.putL ms.length)).size:=by omega
 have s2:¬9223372036854775807<(Tess.mk (Tess.putL ds.length++Tess.putL ms.length)).size+(Tess.mk (Tess.putL gn)).size:=by omega
 have u1:IntKind.u64.wrap (ds.length:Int)=(ds.length:Int):=by rw[zy];omega
 have u2:IntKind.u64.wrap (ms.length:Int)=(ms.length:Int):=by rw[zy];omega
 have u3:IntKind.u64.wrap (gn:Int)=(gn:Int):=by rw[zy];omega
 clear h1 h2 h3 h4 h5;generalize Tess.putL ds.length++Tess.putL ms.length++Tess.putL gn=HD at *;generalize Tess.putL ds.length++Tess.putL ms.length=HE at *;generalize Tess.putL ds.length=P1 at *;generalize Tess.putL ms.length=P2 at *;generalize Tess.putL gn=P3 at *;obtain⟨i0,hi,A7,Bg,Bf⟩:=zF iS2
 obtain⟨W0,Al⟩:=XQ (w.alloc (.cells #[.slice (some ⟨db,Aj,none⟩) ds.length Ad,.slice am ms.length Ab,.int .i64 gn] 24))
 obtain⟨k0,kS,kB⟩:=la2 w (.cells #[.slice (some ⟨db,Aj,none⟩) ds.length Ad,.slice am ms.length Ab,.int .i64 gn] 24);rw[Al]at k0 kS kB;obtain⟨⟨x0,x1,x2⟩,_⟩:=can3 k0;have HB:=Hd kB;have HK:=Hd k0;have Ak:w.heap.size<W0.heap.size:=by omega
 clear k0 kS kB;go_enter Tryz.func21,Tryz.ntmps21;go_wp2_with (fail);go_at_call 50;refine(Ap.out _ HB.out).mono ?_;rintro e w1 ⟨rfl,Ai⟩;have k1:=(Ai.block _ Ak).trans HK.out;have Aw:=Hd (Bt HB.out Ai);have B5:=Hd k1;clear Ai x0 x1 x2 Ak Al;obtain⟨⟨x0,x1,x2⟩,_⟩:=can3 k1;have Ak:=(qA.1 k1).1;clear k1;go_wp2_with (fail)
 refine Flow.wrf 16 (Flow.sp3 [.inl ?_,.inl ?_,.inl ?_,.inl ?_,.inl ?_,.inl ?_,.inl ?_,.inl ?_,.inl ?_,.inl ?_,.inl ?_,.inl ?_,.inl ?_,.inl ?_,.inl ?_,.inl ?_]) (by kernel_rfl) (by kernel_rfl) ?_ ?_;rotate_left 16
 ·refine Flow.sm2 ?_
  repeat(first|exact Flow.ln2|refine Flow.li2 ?_)
 all_goals try simp only[qL,qY,qM,qV]
 iterate 4 (refine Flow.tvK rfl (fun K hK=>⟨fun w hw hG=>?_,?_⟩);(have Af:=Flow.bc4 hw;clear hG hw;unfold Flow.Runs Flow.yields;go_simp;try rfl);go_simp;refine hK _ ?_;clear hK K)
 (refine Flow.tvK rfl (fun K hK=>⟨fun w hw hG=>?_,?_⟩);(clear hG hw;unfold Flow.Runs Flow.yields;go_simp;refine(Bq.out _).mono ?_;rintro e w5 ⟨rfl,Ac⟩;first|exact⟨_,rfl,Ac,rfl⟩|(refine⟨?_,Ac⟩;rfl));go_simp;refine hK _ ?_;clear hK K)
 iterate 4 (refine Flow.tvK rfl (fun K hK=>⟨fun w hw hG=>?_,?_⟩);(have Af:=Flow.bc4 hw;clear hG hw;unfold Flow.Runs Flow.yields;go_simp;try rfl);go_simp;refine hK _ ?_;clear hK K)
 (refine Flow.tvK rfl (fun K hK=>⟨fun w hw hG=>?_,?_⟩);(clear hG hw;unfold Flow.Runs Flow.yields;go_simp;refine(B6.out _).mono ?_;rintro e w5 ⟨rfl,Ac⟩;first|exact⟨_,rfl,Ac,rfl⟩|(refine⟨?_,Ac⟩;rfl));go_simp;refine hK _ ?_;clear hK K)
 iterate 1 (refine Flow.tvK rfl (fun K hK=>⟨fun w hw hG=>?_,?_⟩);(have Af:=Flow.bc4 hw;clear hG hw;unfold Flow.Runs Flow.yields;go_simp;try rfl);go_simp;refine hK _ ?_;clear hK K)
 iterate 3 (refine Flow.tvK rfl (fun K hK=>⟨fun w hw hG=>?_,?_⟩);(have Af:=Flow.bc4 hw;clear hG hw;unfold Flow.Runs Flow.yields;go_simp;try rfl);go_simp;refine hK _ ?_;clear hK K)
 (refine Flow.tvK rfl (fun K hK=>⟨fun w hw hG=>?_,?_⟩);(clear hG hw;unfold Flow.Runs Flow.yields;go_simp;refine(Bp.out _).mono ?_;rintro e w5 ⟨rfl,Ac⟩;first|exact⟨_,rfl,Ac,rfl⟩|(refine⟨?_,Ac⟩;rfl));go_simp;refine hK _ ?_;clear hK K)
 iterate 1 (refine Flow.tvK rfl (fun K hK=>⟨fun w hw hG=>?_,?_⟩);(have Af:=Flow.bc4 hw;clear hG hw;unfold Flow.Runs Flow.yields;go_simp;try rfl);go_simp;refine hK _ ?_;clear hK K)
 refine Flow.tn2 fun wh hwh hG=>?_;clear hG x0 x1 x2;have k2:=(hwh.block _ Ak).trans B5.out;have Bn:=Hd (Bt Aw.out hwh);clear hwh Ak s1 s2 z1 z2 z3 Bw B0 Av u1 u2 u3;obtain⟨⟨x0,x1,x2⟩,_⟩:=can3 k2;have Ak:=(qA.1 k2).1;clear k2;have HB:=Bn;obtain⟨W0,Al⟩:=Xq wh
 subst Al;go_simp;go_wp2_with (fail);refine Flow.wrf 6 (Flow.sp3 [.inl ?_,.inl ?_,.inl ?_,.inr (oN W0.heap.size ds.length (ds.map .string)),.inl ?_,.inl ?_]) (by kernel_rfl) (by kernel_rfl) ?_ ?_;rotate_left 5
 ·refine Flow.sm2 ?_
  repeat(first|exact Flow.ln2|refine Flow.li2 ?_|refine Flow.li3 (oNm _ _ _) ?_)
 all_goals try simp only[qL,qY,qM,qV]
 iterate 3 (refine Flow.tvK rfl (fun K hK=>⟨fun w hw hG=>?_,?_⟩);(have Af:=Flow.bc4 hw;clear hG hw;unfold Flow.Runs Flow.yields;go_simp;try rfl);go_simp;refine hK _ ?_;clear hK K)
 refine Flow.tvK2 rfl (fun K hK=>⟨fun w5 hw hG=>?_,?_⟩)
 ·have HW:=Hd hw;clear hG hw;refine Flow.fan _ _ 22 9 i0 (.string ByteArray.empty) 16 rfl Tryz.underlying22 hi A7 Bg Bf rfl rfl ⟨db,Aj,none⟩ ds.length Ad (ds.map .string) rfl (by simp) (fun j u hj=>?_) (fun u hu=>?_) ?_ ?_ ?_ (fun v w' h=>?_)
  ·exact((Bt HB.out HW.out).cell (qK _ _ (Ba.out j u hj))).trans (Ba.out j u hj)
  ·obtain⟨y,_,rfl⟩:=qd.1 hu;rfl
  ·unfold maxLen;omega
  ·have:=Ar.out;omega
  ·simp[Region.wanted]
  ·exact ob4 h HW.out.size
 intro vz;go_simp;refine hK _ _ ?_;clear hK K
 iterate 2 (refine Flow.tvK rfl (fun K hK=>⟨fun w hw hG=>?_,?_⟩);(have Af:=Flow.bc4 hw;clear hG hw;unfold Flow.Runs Flow.yields;go_simp;try rfl);go_simp;refine hK _ ?_;clear hK K)
 refine Flow.tn2 fun w2 hw2 hG=>?_;have HO:=Hd (show oN W0.heap.size ds.length (ds.map .string) vz w2 by simpa[Flow.upd]using hG 3);have As:=Hd (Bt HB.out hw2);have Bd:=hw2.size;clear hG hw2 x0 x1 x2
 have Az:=Hd (show ∀b,am=some b->∀j u,(ms.map Value.string)[j]?=some u->w2.cell? (b.add j)=some u from fun b e j u hj=>by
  rw[qp]at hj;obtain⟨x,hx,rfl⟩:=jM.1 hj;obtain⟨A0,rfl⟩:=zW.1 hx;obtain⟨b',Aq,ha,hb,h⟩:=Bb.out j A0;rw[e]at ha;cases ha
  rw[show(⟨b',Aq,none⟩:Addr).add j=⟨b',Aq+j,none⟩ by unfold Addr.add;split<;>simp_all]
  exact(As.out.cell (p:=⟨b',Aq+j,none⟩) hb).trans h)
 have Be:=Hd (show am=none->ms.length=0/\Ab=0 from fun e=>by
  subst e;refine⟨?_,A1.out _ _ rfl⟩;rcases jI ms.length with h|h
  ·exact h
  ·obtain⟨_,_,ha,_⟩:=Bb.out 0 h
   cases ha)
 go_wp2_with (have B2:=Az;clear B2;at_builtin;refine wLa rfl _ _ 22 rfl W0.heap.size 9 i0 (.string ByteArray.empty) 16 Tryz.underlying22 hi A7 Bg Bf rfl _ ds.length _ rfl HO.out am ms.length Ab (ms.map .string) rfl (by simp) Be.out Az.out ?_ ?_ ?_ ?_ ?_)
 ·intro u hu;obtain⟨y,_,rfl⟩:=qd.1 hu;rfl
 ·have:=Ar.out;unfold maxLen;omega
 ·have:=Ar.out;omega
 ·exact Bd
 intro v3 w3 Aa A5;rw[<-qs]at Aa;have Ay:ds.length+ms.length=(ds++ms).length:=by simp
 rw[Ay]at Aa;have Bu:=Hd (As.out.grown A5 As.out.size (fun j e=>qt HB.out.size (HO.out.lt j e).1));have By:=Hd (show ∀x∈ds++ms,x.size<=maxLen from fun x hx=>(zk.1 hx).elim (Bz.out x) (Br.out x));have Bj:1<=(ds++ms).length/\(ds++ms).length<=10:=by have:=Ar.out;simp;omega
 generalize ds++ms=al at Ax Am Aa Ay By Bj;obtain⟨gg,cp,rfl,_,B9,_,Ae⟩:=oc2 Aa (by omega);have Bs:=Hd Ae;obtain⟨Bo,B1⟩:=Bj;clear Aa A5 Ay HO As Ae Az Be Bd;go_wp2_with (fail)
 go_loopw [4,6] (fun b i wr=>∃k:Nat,k<=al.length/\i = .int .i64 k/\b = .string (Tess.mk (HD++(al.take k).flatMap Tess.nB2))/\(HD++(al.take k).flatMap Tess.nB2).length<=30+30*k/\Below w3.heap.size w3 wr) (fun _ i _=>al.length-(intOf i).toNat)
 case atStart=>exact⟨0,qN _,rfl,by simp,by rw[Tess.ms2]at Ao;simpa using Ao,qJ _ _⟩
 case round=>
  obtain⟨k,hk,rfl,rfl,A9,Au⟩:=hrel;have A8:=Hd A9;have Bc:=Hd Au;by_cases hlt:k<al.length
  ·have Bl:(k:Int)<(al.length:Int):=by omega
   have ek:=(Bs.out k hlt).1;rw[qp,qD hlt,qj]at ek;have Bm:=Am.out _ (qP hlt);have At:=Tess.fn2 Tess.nB2 al k hlt;generalize al[k]=x at *;have ek:=(Au.cell (p:=⟨gg,k,none⟩) (qK _ _ ek)).trans ek;have B7:=qK _ _ ek;rw[show Tess.nB2 x=Tess.putL x.size++x.data.toList from rfl,<-zN]at At
   have An:HD++(al.take (k+1)).flatMap Tess.nB2=HD++(al.take k).flatMap Tess.nB2++Tess.putL x.size++x.data.toList:=by rw[At];simp
   have Bi:=Hd An;clear At An Au A9;generalize HD++(al.take k).flatMap Tess.nB2=S0 at *;have B3:=Hd (fun W=>rm2 x.size W (by omega));have y1:(Tess.mk S0).size<=330:=by rw[Tess.ms2];have:=A8.out;omega
   have y2:(Tess.mk (Tess.putL x.size)).size<=10:=Tess.pWs _ (by omega);have y3:(Tess.mk (S0++Tess.putL x.size)).size<=340:=by rw[Tess.ms2]at *;rw[qI];omega
   have b1:=Tess.ma2 S0 (Tess.putL x.size);have b2:Tess.mk (S0++Tess.putL x.size)++x=Tess.mk (S0++Tess.putL x.size++x.data.toList):=Tess.ma2 _ x.data.toList
   have y4:(S0++Tess.putL x.size++x.data.toList).length<=30+30*(k+1):=by have:=A8.out;rw[Tess.ms2]at y2;have e:x.data.toList.length=x.size:=ju;rw[qI,qI,e];omega
   have Bx:=Hd y4;have s1:¬9223372036854775807<(Tess.mk S0).size+(Tess.mk (Tess.putL x.size)).size:=by omega
   have s2:¬9223372036854775807<(Tess.mk (S0++Tess.putL x.size)).size+x.size:=by omega
   have u1:IntKind.u64.wrap (x.size:Int)=(x.size:Int):=by rw[zy];omega
   clear y1 y2 y3 y4;generalize S0++Tess.putL x.size++x.data.toList=S2 at *;generalize S0++Tess.putL x.size=S1 at *;generalize Tess.putL x.size=PX at *;go_wp2_with (fail);refine Flow.wrf 14 (Flow.sp3 [.inl ?_,.inl ?_,.inl ?_,.inl ?_,.inl ?_,.inl ?_,.inl ?_,.inl ?_,.inl ?_,.inl ?_,.inl ?_,.inl ?_,.inl ?_,.inl ?_]) (by kernel_rfl) (by kernel_rfl) ?_ ?_;rotate_left 14
   ·refine Flow.sm2 ?_
    repeat(first|exact Flow.ln2|refine Flow.li2 ?_)
   all_goals try simp only[qL,qY,qM,qV]
   iterate 7 (refine Flow.tvK rfl (fun K hK=>⟨fun w hw hG=>?_,?_⟩);(have Af:=Flow.bc4 hw;clear hG hw;unfold Flow.Runs Flow.yields;go_simp;try rfl);go_simp;refine hK _ ?_;clear hK K)
   (refine Flow.tvK rfl (fun K hK=>⟨fun w hw hG=>?_,?_⟩);(clear hG hw;unfold Flow.Runs Flow.yields;go_simp;refine(B3.out _).mono ?_;rintro e w5 ⟨rfl,Ac⟩;first|exact⟨_,rfl,Ac,rfl⟩|(refine⟨?_,Ac⟩;rfl));go_simp;refine hK _ ?_;clear hK K)
   iterate 6 (refine Flow.tvK rfl (fun K hK=>⟨fun w hw hG=>?_,?_⟩);(have Af:=Flow.bc4 hw;clear hG hw;unfold Flow.Runs Flow.yields;go_simp;try rfl);go_simp;refine hK _ ?_;clear hK K)
   refine Flow.tn2 fun w5 hw5 hG=>?_;clear hG ek;have B4:=Hd (Bt Bc.out hw5);clear hw5;go_simp;go_wp2_with (fail);go_roundw
   case rel=>exact⟨k+1,by omega,by go_num,by rw[Bi.out],by rw[Bi.out];exact Bx.out,B4.out⟩
   case measure=>simp[intOf];omega
  ·have Bl:¬(k:Int)<(al.length:Int):=by omega
   have HT:=Hd (show(al.take k).flatMap Tess.nB2=al.flatMap Tess.nB2 by rw[qh (by omega)]);go_wp2_with (fail);go_ret2;refine⟨?_,Bt Bu.out Bc.out⟩;rw[Ax.out,HT.out];rfl
end Go.Proofs.Q9
namespace Tess
open Go
def dN:Nat->Nat->List Nat
 |0,_=>[]
 |w+1,n=>n/2^w%2::dN w n
theorem dl2:∀w n,(dN w n).length=w
 |0,_=>rfl
 |w+1,n=>by rw[dN,qU,dl2 w n]
theorem dl3:∀w n,∀x∈dN w n,x<2
 |0,_,x,h=>by cases h
 |w+1,n,x,h=>by
   rcases qm.1 h with rfl|h
   ·exact yX _ (by decide)
   ·exact dl3 w n x h
theorem fVc(b:Nat)(l:List Nat):fV 1 (b::l)=b*2^l.length+fV 1 l:=by have:=fVa 1 [b] l;rw[yw,yY]at this;rw[this];simp[fV]
theorem fd2:∀w n,fV 1 (dN w n)=n%2^w
 |0,n=>by rw[dN,Nat.pow_zero,Nat.mod_one];rfl
 |w+1,n=>by rw[dN,fVc,dl2,fd2 w n,Nat.mod_pow_succ,xB,yO]
theorem ff2(w:Nat)(l:List Nat)(h:∀x∈l,x<2^w):fV 1 (l.flatMap (dN w))=fV w l/\(l.flatMap (dN w)).length=l.length*w:=by revert h;refine ri2 (P:=fun l=>(∀x∈l,x<2^w)->fV 1 (l.flatMap (dN w))=fV w l/\(l.flatMap (dN w)).length=l.length*w) (fun _=>⟨rfl,by simp⟩) (fun l x ih h=>?_) l;obtain⟨h1,h2⟩:=ih fun y hy=>h y (zk.2 (.inl hy));have hx:=h x (zk.2 (.inr (zJ.2 rfl)));rw[yt,List.flatMap_singleton,fVa,fd2,dl2,h1,fVs,yY,jf hx];refine⟨rfl,?_⟩;rw[qI,h2,dl2,qI,zX,jd,ya]
theorem fp3(l:List Nat):∀k,fV 1 (l++List.replicate k 0)=fV 1 l*2^k:=fun k=>by
 rw[fVa]
 have:fV 1 (List.replicate k 0)=0:=by
  induction k with
  |zero=>rfl
  |succ k ih=>rw[List.replicate_succ,fVc,ih];omega
 rw[this,qBp,yY,yD]
def cN3(B:List Nat)(j:Nat):Nat:=fV 1 ((B.drop (8*j)).take 8)
theorem fbl(l:List Nat)(h:∀x∈l,x<2):fV 1 l<2^l.length:=by have:=fVl 1 l (by simpa using h);rwa [yY]at this
theorem cl4(B:List Nat)(j:Nat)(h:∀x∈B,x<2):cN3 B j<256:=by have h1:=fbl ((B.drop (8*j)).take 8) fun x hx=>h x (qBv (jp hx));have h2:2^((B.drop (8*j)).take 8).length<=2^8:=zf (by decide) (by rw[qy];omega);unfold cN3;omega
def bN(m:Nat)(B:List Nat):List UInt8:=(List.range m).map fun j=>UInt8.ofNat (cN3 B j)
theorem bNl(m:Nat)(B:List Nat):(bN m B).length=m:=by unfold bN;simp
theorem bc5:∀(m:Nat) (B:List Nat),B.length=8*m->(∀x∈B,x<2)->valB (bN m B)=fV 1 B
 |0,B,hB,_=>by obtain rfl:B=[]:=yl.1 (by omega);rfl
 |m+1,B,hB,hx=>by
   have ih:=bc5 m (B.take (8*m)) (by rw[qy];omega) fun x h=>hx x (jp h)
   have e:bN (m+1) B=bN m (B.take (8*m))++[UInt8.ofNat (cN3 B m)]:=by unfold bN;rw[xX,qs];refine zM (· ++ _) (yI fun j hj=>?_);have hj:=zV.1 hj;unfold cN3;rw[List.drop_take,List.take_take,show min 8 (8*m-8*j)=8 by omega]
   have hc:=cl4 B m hx;rw[e,vBs,ih]
   conv=>rhs;rw[<-jm (8*m) B,fVa,zn,show B.length-8*m=8 by omega]
   have h8:(UInt8.ofNat (cN3 B m)).toNat=cN3 B m:=by rw[zP];omega
   rw[h8];unfold cN3;have h9:(B.drop (8*m)).take 8=B.drop (8*m):=qh (by rw[zn];omega);rw[h9]
theorem pb2(l:List Nat)(w:Nat)(h:∀x∈l,x<2^w):bN (sP l.length w) (l.flatMap (dN w)++List.replicate (8*sP l.length w-l.length*w) 0)=bytesBE (sP l.length w) (fV w l*2^(8*sP l.length w-l.length*w)):=by
 obtain⟨h1,h2⟩:=ff2 w l h;have hs:=sg2 l.length w
 have hv:=bc5 (sP l.length w) (l.flatMap (dN w)++List.replicate (8*sP l.length w-l.length*w) 0) (by rw[qI,h2,qBp];omega) (fun x hx=>by
  rcases zk.1 hx with hx|hx
  ·obtain⟨y,_,hy⟩:=List.mem_flatMap.1 hx;exact dl3 w y x hy
  ·rw[List.eq_of_mem_replicate hx];decide)
 rw[fp3,h1]at hv;rw[<-hv];have:=bv (bN (sP l.length w) (l.flatMap (dN w)++List.replicate (8*sP l.length w-l.length*w) 0));rw[bNl]at this;exact this.symm
theorem fn3{α β:Type}(f:α->List β)(l:List α)(k:Nat)(h:k<l.length):(l.take (k+1)).flatMap f=(l.take k).flatMap f++f l[k]:=by rw[qQ h,yt,List.flatMap_singleton]
theorem cm2(B:List Nat)(i:Nat)(hi:i<B.length)(j:Nat):cN3 (B.take (i+1)) j=if j=i/8 then 2*cN3 (B.take i) j+B[i]else cN3 (B.take i) j:=by
 unfold cN3;rw[qQ hi];by_cases h:j=i/8
 ·rw[qR h,List.drop_append_of_le_length (by rw[qy];omega)];have hl:((B.take i).drop (8*j)).length<8:=by rw[zn,qy];omega
  have e1:((B.take i).drop (8*j)++[B[i]]).take 8=(B.take i).drop (8*j)++[B[i]]:=qh (by rw[qI,zX];omega);have e2:((B.take i).drop (8*j)).take 8=(B.take i).drop (8*j):=qh (by omega);rw[e1,e2,fVs];omega
 ·rw[qH h];by_cases h2:j<i/8
  ·rw[List.drop_append_of_le_length (by rw[qy];omega),List.take_append_of_le_length (by rw[zn,qy];omega)]
  ·rw[qBo (by rw[qI,qy,zX];omega),qBo (by rw[qy];omega)]
theorem bNm(m:Nat)(B:List Nat)(i:Nat)(hi:i<B.length):bN m (B.take (i+1))=(bN m (B.take i)).set (i/8) (UInt8.ofNat (2*cN3 (B.take i) (i/8)+B[i])):=by
 refine xA (by simp[bN]) fun j h1 h2=>?_;have hj:j<m:=by simpa[bN]using h1
 rw[qBs];simp only[bN,zL,yU];rw[cm2 B i hi];by_cases h:j=i/8
 ·rw[qR h,qR h.symm,h]
 ·rw[qH h,qH fun e=>h e.symm]
theorem cn3(j:Nat):cN3 [] j=0:=by unfold cN3;simp[fV]
theorem bNn(m:Nat):bN m []=List.replicate m 0:=by refine xA (by simp[bN]) fun j h1 h2=>?_;simp[bN,cn3]
theorem bNa(m:Nat)(B:List Nat)(q:Nat)(h:q<(bN m B).length):(bN m B)[q]=UInt8.ofNat (cN3 B q):=by simp[bN]
theorem da7:∀(w n k:Nat) (h:k<(dN w n).length),(dN w n)[k]=n/2^(w-1-k)%2
 |0,_,_,h=>by simp[dN]at h
 |w+1,n,0,h=>by simp[dN]
 |w+1,n,k+1,h=>by
   have h':k<(dN w n).length:=by simpa[dN]using h
   have:=da7 w n k h';simp only[dN,zR];rw[this,show w+1-1-(k+1)=w-1-k by omega]
theorem bitLen_half(m:Nat)(h:0<m):bitLen m=bitLen (m/2)+1:=by
 by_cases h2:m/2=0
 ·obtain rfl:m=1:=by omega
  decide
 ·have:=bitLen_shift m 1 (by simpa using h2);rw[this];simp only[Nat.pow_one];omega
theorem bL0:bitLen 0=0:=rfl
end Tess
namespace Go.Proofs.Q9
open Go.RowKit Go.Sort
abbrev iO(l:List Nat):List Value:=l.map fun n=>.int .i64 (n:Nat)
theorem ra7(n wd:Nat)(hwd:wd<=16)(w:World) :
  Calls Tryz.prog 102 #[.int .i64 n,.int .i64 wd] w fun e w'=>(∃v,e = .returned v/\w'.ownsRow w.heap.size 3 1 v wd (iO (Tess.dN wd n)))/\Below w.heap.size w w':=by
 obtain⟨i0,Ak,Aj,Al,Ag⟩:=zF (P:=Tryz.prog) (e:=3) (z:=.int .i64 0) (size:=1) (bytes:=8) (by kernel_rfl);have HL:=Hd (Tess.dl2 wd n);go_enter Tryz.func102,Tryz.ntmps102;go_wp2_with (fail);go_loopw [5,6] (fun vo vi wr=>∃(k:Nat) (z:Int),k<=wd/\z=(wd:Int)-1-k/\vi = .int .i64 z/\wr.ownsRow w.heap.size 3 1 vo k (iO ((Tess.dN wd n).take k))/\Below w.heap.size w wr) (fun _ i _=>(intOf i+1).toNat)
 case atStart=>exact⟨0,_,qN _,by omega,rfl,qg _ _ _ _,qJ _ _⟩
 case round=>
  obtain⟨k,z,hk,hz,rfl,Ac,hB⟩:=hrel;have HO:=Hd Ac;have HB:=Hd hB;clear Ac hB;by_cases hlt:k<wd
  ·obtain⟨j,rfl⟩:∃j:Nat,z=j:=⟨z.toNat,by omega⟩
   have hj:j=wd-1-k:=by omega
   have Af:k<(Tess.dN wd n).length:=by rw[Tess.dl2];exact hlt
   have An:=Hd (show iO ((Tess.dN wd n).take (k+1))=iO ((Tess.dN wd n).take k)++[.int .i64 ((n/2^j%2:Nat):Int)] by
    unfold iO
    rw[qQ Af,qs,Tess.da7 wd n k Af,hj];rfl)
   have HJ:=Hd hz;have Ai:(0:Int)<=(j:Int):=by omega
   have Ae:(((n:Int)/2^min j 64).tmod 2)=((n/2^j%2:Nat):Int):=by rw[show min j 64=j by omega,show((n:Int)/2^j)=((n/2^j:Nat):Int) by simp];rfl
   have Aq:=Hd Ae;have Ao:wrap64 ((j:Int)-1)=(j:Int)-1:=by unfold wrap64;omega
   clear hz hj Af;generalize n/2^j%2=bt at *;go_wp2_with (at_builtin;refine qq _ rfl _ _ 96 rfl w.heap.size 3 i0 (.int .i64 0) 1 8 Tryz.underlying96 Ak Aj Al Ag rfl (by decide) _ _ _ rfl (HO.out.alloc _) ⟨wr.heap.size,0,none⟩ 1 1 [.int .i64 bt] rfl rfl (zh _ _ _) (by simp[Value.oneCell']) (by unfold maxLen;omega) (by omega) (by have:=HB.out.size;simp;omega) ?_);intro v' w3 Ab Aa _
   have Am:=Hd ((HB.out.alloc HB.out.size _).grown Aa (by have:=HB.out.size;simp;omega) (fun j e=>(HO.out.lt j e).1));have Ah:=Hd Ab;clear Ab Aa;go_wp2_with (fail);go_roundw
   case rel=>exact⟨k+1,_,by omega,by have:=HJ.out;omega,rfl,by rw[An.out];have e:=Ah.out;rw[<-qAj]at e;exact e,Am.out⟩
   case measure=>simp[intOf];omega
  ·have Ap:¬(0:Int)<=z:=by omega
   obtain rfl:k=wd:=by omega
   have Ad:=HO.out;rw[qh (by have:=HL.out;omega)]at Ad;have HO:=Hd Ad;clear Ad;go_wp2_with (fail);go_ret;exact⟨⟨_,rfl,HO.out⟩,HB.out⟩
theorem ra50(v:Value)(l:List Nat)(w:World)(hv:SlOf w v (iO l))(hl:∀x∈l,x<=65535)(hll:l.length<=1000) :
  Calls Tryz.prog 101 #[v] w fun e w'=>e = .returned (.tuple #[.int .i64 (Tess.widN l:Nat),.int .i64 0])/\Below w.heap.size w w':=by
 obtain⟨a,c,rfl,_,hc⟩:=so3 _ hv;have HC:=Hd hc;have HL:=Hd hl;have HW:=Hd (Tess.wNl l hl);have HM:=Hd (Tess.mNl 65535 l 0 (by omega) hl);have Ah:¬(1000:Int)<(l.length:Int):=by omega
 clear hc hv hl;go_enter Tryz.func101,Tryz.ntmps101;go_wp2_with (fail);go_loopw [4,5] (fun vm vi wr=>∃(k m:Nat),k<=l.length/\vi = .int .i64 k/\vm = .int .i64 m/\m=(l.take k).foldl max 0/\Below w.heap.size w wr) (fun _ i _=>l.length-(intOf i).toNat)
 case atStart=>exact⟨0,0,qN _,rfl,rfl,rfl,qJ _ _⟩
 case round=>
  obtain⟨k,m,hk,rfl,rfl,hm,hB⟩:=hrel;by_cases hlt:k<l.length
  ·obtain⟨b,Ag,rfl,hb,Ad⟩:=HC.out wr hB k hlt;have Af:(k:Int)<(l.length:Int):=by omega
   have hx:=HL.out _ (qP hlt);have HX:=Hd (show max m l[k]=(l.take (k+1)).foldl max 0 by rw[hm,qQ hlt,yr];rfl);generalize l[k]=x at *;have HB:=Hd hB;clear hB hm;have c1:¬(x:Int)<0:=by omega
   have c2:¬(65535:Int)<(x:Int):=by omega
   go_wp2_with (fail);go_roundw
   case rel=>exact⟨k+1,max m x,by omega,by go_num,zM (Value.int .i64) (by omega),HX.out,HB.out⟩
   case measure=>simp[intOf];omega
  ·have Af:¬(k:Int)<(l.length:Int):=by omega
   have HB:=Hd hB;rw[qh (by omega)]at hm;obtain rfl:m=Tess.maxN l:=hm;clear hB;go_wp2_with (fail);go_loopw [4,6] (fun vm vw wr'=>∃(m n:Nat),vm = .int .i64 m/\vw = .int .i64 n/\m<=65535/\n<=16/\n+bitLen m=Tess.widN l/\Below w.heap.size w wr') (fun m _ _=>(intOf m).toNat)
   case atStart=>exact⟨_,0,rfl,rfl,HM.out,by omega,qj _,HB.out⟩
   case round=>
    obtain⟨m,n,rfl,rfl,hm,hn,Aa,hB⟩:=hrel;have Ac:=Hd hB;have Ab:=Hd Aa;clear hB Aa;by_cases h0:0<m
    ·have Ae:(0:Int)<(m:Int):=by omega
     have hq:(m:Int).tdiv 2=((m/2:Nat):Int):=rfl;go_wp2_with (fail);go_roundw
     case rel=>exact⟨m/2,n+1,rfl,by go_num,by omega,by have:=Ab.out;have:=HW.out;rw[Tess.bitLen_half m h0]at *;omega,by have:=Ab.out;rw[Tess.bitLen_half m h0]at this;omega,Ac.out⟩
     case measure=>simp[intOf];omega
    ·have Ae:¬(0:Int)<(m:Int):=by omega
     obtain rfl:m=0:=by omega
     have hs:=Ab.out;rw[Tess.bL0,yD]at hs;subst hs;go_wp2_with (fail);go_ret2;exact⟨rfl,Ac.out⟩
theorem oo{w:World}{base:Nat}{e:TypeId}{v:Value}{n:Nat}{xs:List Value}(h:w.ownsRow base e 1 v n xs):∃ad c,v = .slice ad n c/\xs.length=n/\(ad=none->n=0/\c=0)/\∀b,ad=some b->∀j u,xs[j]?=some u->w.cell? (b.add j)=some u:=by
 have hl:xs.length=n:=by simpa using h.1
 rcases h.2 with⟨hv,h0⟩|⟨g,Aa,Ad,hv,hb,hg,Ab,hm,hs,ht⟩
 ·exact⟨none,0,by rw[hv,h0],hl,fun _=>⟨h0,rfl⟩,fun b e=>by cases e⟩
 ·refine⟨some ⟨g,0,none⟩,Aa,hv,hl,(fun e=>by cases e),fun b e j u hj=>?_⟩;cases e
  subst hv;have Ac:j<xs.length:=(zW.1 hj).1;have:=h.cellAt j (by omega);rw[ap2,qj,this,hj]
abbrev bV(b:UInt8):Value:=.int .u8 (b.toNat:Int)
def lenOf':Value->Nat
 |.slice _ n _=>n
 |_=>0
theorem ra8(v:Value)(l:List Nat)(w:World)(hv:SlOf w v (iO l))(hl:∀x∈l,x<=65535)(hll:l.length<=1000) :
  Calls Tryz.prog 49 #[v] w fun e w'=>e = .returned (.tuple #[.string (Tess.mk (Tess.pN2 l)),.int .i64 0])/\Below w.heap.size w w':=by
 obtain⟨i0,Bf,Ba,Bn,Bj⟩:=zF (P:=Tryz.prog) (e:=3) (z:=.int .i64 0) (size:=1) (bytes:=8) (by kernel_rfl);obtain⟨i8,Bv,By,B7,Cf⟩:=zF (P:=Tryz.prog) (e:=5) (z:=.int .u8 0) (size:=1) (bytes:=1) (by kernel_rfl);have Ci:=Hd (ra50 v l w hv hl hll);obtain⟨a,c,rfl,_,hc⟩:=so3 _ hv;have HC:=Hd hc;have Ao:=Tess.wNl l hl;have Ch:=Hd (Tess.wNl2 l);have Bl:=Hd (Tess.pb2 l (Tess.widN l) (Tess.wNl2 l))
 have At:=Hd (Tess.ff2 (Tess.widN l) l (Tess.wNl2 l)).2;have Ai:=Hd (show Tess.pN2 l=Tess.putL l.length++(UInt8.ofNat (Tess.widN l)::Tess.bytesBE (Tess.sP l.length (Tess.widN l)) (Tess.fV (Tess.widN l) l*2^(8*Tess.sP l.length (Tess.widN l)-l.length*Tess.widN l)))from rfl);rw[<-Bl.out]at Ai;have Bh:=Hd (fun x=>ra7 x (Tess.widN l) Ao);clear hc hv Bl Ch;generalize Tess.widN l=wd at *
 have Cc:l.length*wd<=16000:=qt (yh hll Ao) (by decide);obtain⟨D,hD⟩:=Xq (Tess.dN wd)
 have B6:=Hd (fun x=>Tess.dl2 wd x);have Bm:=Hd (fun x=>Tess.dl3 wd x);rw[<-hD]at Bh Ai At B6 Bm;clear hD;go_enter Tryz.func49,Tryz.ntmps49;go_wp2_with (fail);go_at_call 101;refine Ci.out.mono ?_;rintro e w1 ⟨rfl,Bb⟩;have B4:=Hd Bb;clear Bb;go_wp2_with (fail)
 go_loopw [6,7] (fun vo vi wr=>∃k:Nat,k<=l.length/\vi = .int .i64 k/\wr.ownsRow w.heap.size 3 1 vo (k*wd) (iO ((l.take k).flatMap D))/\Below w.heap.size w wr) (fun _ i _=>l.length-(intOf i).toNat)
 case atStart=>exact⟨0,qN _,rfl,by rw[qBl];exact qg _ _ _ _,B4.out⟩
 case round=>
  obtain⟨k,hk,rfl,Ad,hB⟩:=hrel;have HO:=Hd Ad;have HB:=Hd hB;clear Ad;by_cases hlt:k<l.length
  ·obtain⟨b,Ck,rfl,hb,Af⟩:=HC.out wr hB k hlt;have Bz:(k:Int)<(l.length:Int):=by omega
   have Cg:=Hd (Tess.fn3 D l k hlt)
   have Ct:k*wd+wd<=16000:=by have:(k+1)*wd<=l.length*wd:=jO _ hlt;rw[jd]at this;omega
   generalize l[k]=x at *;clear hB;go_wp2_with (fail);go_at_call 102;refine(Bh.out x wr).mono ?_;rintro e w2 ⟨⟨v2,rfl,Ag⟩,A8⟩;have A5:=Hd (Bt HB.out A8);have Bp:=Hd (ob2 HO.out A8);obtain⟨ad,c2,rfl,Aw,Ab,Aj⟩:=oo Ag;have Ap:=Hd Ab;have Az:=Hd Aj;clear A8 Ag Ab Aj
   go_wp2_with (at_builtin;refine wLa rfl _ _ 96 rfl w.heap.size 3 i0 (.int .i64 0) 8 Tryz.underlying96 Bf Ba Bn Bj rfl _ (k*wd) _ rfl Bp.out ad wd c2 (iO (D x)) rfl Aw Ap.out Az.out (fun u hu=>by obtain⟨y,_,rfl⟩:=qd.1 hu;rfl) (by unfold maxLen;omega) (by omega) A5.out.size ?_);intro v' w3 Aa A9;have A1:=Hd (A5.out.grown A9 A5.out.size (fun j e=>(Bp.out.lt j e).1));have Ar:=Hd Aa;clear Aa A9
   go_wp2_with (fail);go_roundw
   case rel=>exact⟨k+1,by omega,by go_num,by rw[Cg.out,jd,ya];have e:=Ar.out;unfold iO at *;rw[<-qs]at e;exact e,A1.out⟩
   case measure=>simp[intOf];omega
  ·have Bz:¬(k:Int)<(l.length:Int):=by omega
   obtain rfl:k=l.length:=by omega
   have ho:=HO.out;rw[qh (qC _)]at ho;have HO:=Hd ho;clear ho hB
   have A0:RowKit.Hid (∀x∈l.flatMap D,x<2):=Hd fun x hx=>by obtain⟨y,_,hy⟩:=List.mem_flatMap.1 hx;exact Bm.out y x hy
   obtain⟨L,hL⟩:=Xq (l.length*wd)
   obtain⟨m,hm⟩:=Xq (Tess.sP l.length wd)
   have A6:8*m=L+(8*m-L)/\8*m-L<8:=by rw[hm,hL];unfold Tess.sP;omega
   rw[<-hm,<-hL]at Ai;rw[<-hL]at HO At Cc;clear hL hm;obtain⟨Aq,Ak⟩:=Xq (8*m-L)
   rw[<-Ak]at Ai A6;clear Ak;generalize l.flatMap D=B at *;go_wp2_with (fail);go_loopw [6] (fun vo wr'=>∃j n:Nat,j<=Aq/\n=L+j/\wr'.ownsRow w.heap.size 3 1 vo n (iO (B++List.replicate j 0))/\Below w.heap.size w wr') (fun vo _=>8*m-lenOf' vo)
   case atStart=>exact⟨0,L,qN _,rfl,by simpa using HO.out,HB.out⟩
   case round=>
    obtain⟨j,n,hj,hn,Ad,hB⟩:=hrel;have HO:=Hd Ad;have HB:=Hd hB;clear Ad hB;obtain⟨ad,c2,rfl,Aw,Ab,Aj⟩:=oo HO.out;have Ap:=Hd Ab;have Az:=Hd Aj;have Cr:(n:Int).tmod 8=((n%8:Nat):Int):=rfl;clear Ab Aj Aw;by_cases h8:n%8=0
    ·have Bu:(((n%8:Nat):Int) !=0)=false:=by rw[h8];rfl
     obtain rfl:j=Aq:=by omega
     have Bd:n=8*m:=by omega
     have hq:(n:Int).tdiv 8=(m:Int):=by rw[show(n:Int).tdiv 8=((n/8:Nat):Int)from rfl];omega
     have Cp:m<=2001:=by omega
     have HN:=Hd Bd;have B8:=Hd A6;clear hn Bd A6 hj;go_wp2_with (at_make;refine wpList_make_row _ _ 86 rfl 5 i8 (.int .u8 0) Tryz.underlying86 Bv By B7 rfl .i64 .i64 m rfl rfl (by rw[Cf];omega) (by unfold maxLen;omega) ?_);intro w4 A2 Al Ah;obtain⟨A,hA⟩:=Xq (B++List.replicate j 0)
     have Be:=Hd (show A.length=n by rw[hA,qI,qBp,At.out];have:=B8.out;have:=HN.out;omega)
     have Bo:=Hd (show ∀x∈A,x<2 from fun x hx=>by
      rw[hA]at hx;rcases zk.1 hx with hx|hx
      ·exact A0.out x hx
      ·rw[List.eq_of_mem_replicate hx];decide)
     rw[<-hA]at HO Ai Az;clear hA;obtain⟨G,hG⟩:=Xq wr.heap.size
     rw[<-hG]at A2 Al Ah⊢;have HG:=Hd hG;have Cb:=Hd A2;have Ax:=Hd Ah;clear A2 Al Ah hG;obtain⟨wa,B3⟩:=Xq wr
     subst B3;go_wp2_with (fail);go_loopw [9] (fun vi wq=>∃i:Nat,i<=n/\vi = .int .i64 i/\wq.heap[G]?=some (.cells ((Tess.bN m (A.take i)).map bV).toArray 5 (0,0))/\Below G wa wq) (fun vi _=>n-(intOf vi).toNat)
     case atStart=>
      refine⟨0,qN _,rfl,?_,Cb.out⟩;rw[Ax.out,qY,Tess.bNn];simp
     case round=>
      obtain⟨i,hi,rfl,Br,Bc⟩:=hrel;have Ae:=Hd Br;have As:=Hd Bc;clear Br Bc;by_cases hlt:i<n
      ·have Ay:(i:Int)<(n:Int):=by omega
       obtain⟨g,Cl,e,_,hg,_,Af⟩:=oc2 HO.out (by omega);simp only[yQ,qAq]at e;obtain⟨rfl,rfl⟩:=e;have Am:i<A.length:=by rw[Be.out];exact hlt
       have hc:=(Af i hlt).1;rw[qj,qp,qD Am]at hc;have Bq:i/8<m:=by have:=HN.out;omega
       have Bk:=Hd (Tess.cl4 (A.take (i+1)) (i/8) fun x hx=>Bo.out x (jp hx));rw[Tess.cm2 A i Am,qR rfl]at Bk;have B9:=Hd (Tess.bNm m A i Am);have Bs:i/8<(Tess.bN m (A.take i)).length:=by rw[Tess.bNl];exact Bq
       have h0:=qT _ G (i/8) _ _ _ Ae.out;rw[js,qp,qD Bs,Tess.bNa]at h0;simp only[ji]at h0 hc;have Ca:=zY wr G (i/8) _ _ Ae.out;generalize Tess.cN3 (A.take i) (i/8)=y at *;have B0:A[i]<2:=Bo.out _ (qP Am);generalize A[i]=bt at *;have hy:=Bk.out;have e8:(UInt8.ofNat y).toNat=y:=by rw[zP];omega
       rw[show bV (UInt8.ofNat y) = .int .u8 (y:Int) by unfold bV;rw[e8]]at h0;have Bi:=(As.out.cell (p:=⟨g,i,none⟩) (by rw[HG.out];exact hg)).trans hc;have Cu:(i:Int).tdiv 8=((i/8:Nat):Int):=rfl;have Cw:(i:Int)/8=((i/8:Nat):Int):=by omega
       have u1:IntKind.u8.wrap (2*(y:Int))=2*(y:Int):=by unfold IntKind.wrap;simp[IntKind.bits,IntKind.signed];omega
       have u2:IntKind.u8.wrap (bt:Int)=(bt:Int):=by unfold IntKind.wrap;simp[IntKind.bits,IntKind.signed];omega
       have u3:IntKind.u8.wrap (2*(y:Int)+(bt:Int))=2*(y:Int)+(bt:Int):=by unfold IntKind.wrap;simp[IntKind.bits,IntKind.signed];omega
       have e9:(UInt8.ofNat (2*y+bt)).toNat=2*y+bt:=by rw[zP];omega
       have A3:=Hd (show(((Tess.bN m (A.take i)).map bV).toArray.setIfInBounds (i/8) (.int .u8 (2*(y:Int)+(bt:Int))))=((Tess.bN m (A.take (i+1))).map bV).toArray by
        rw[B9.out,List.map_set,List.setIfInBounds_toArray];congr 2;unfold bV
        rw[e9];simp)
       have Cv:IntKind.i64.wrap ((i/8:Nat):Int)=((i/8:Nat):Int):=by rw[zU];omega
       have Cs:IntKind.i64.wrap (i:Int)=(i:Int):=by rw[zU];omega
       have Cm:0<=((i/8:Nat):Int):=by omega
       have Cq:((i/8:Nat):Int)<(m:Int):=by omega
       have An:G<wr.heap.size:=(qA.1 Ae.out).1;have Cn:g<wr.heap.size:=qK _ _ Bi;clear hc Bs B0 hy e8 e9 Bq Am;generalize i/8=q at *;go_wp2_with (fail);refine Flow.wrf 15 (Flow.sp3 [.inl ?_,.inl ?_,.inl ?_,.inl ?_,.inl ?_,.inl ?_,.inl ?_,.inl ?_,.inl ?_,.inl ?_,.inl ?_,.inl ?_,.inl ?_,.inl ?_,.inl ?_]) (by kernel_rfl) (by kernel_rfl) ?_ ?_;rotate_left 15
       ·refine Flow.sm2 ?_
        repeat(first|exact Flow.ln2|refine Flow.li2 ?_)
       all_goals try simp only[qL,qY,qM,qV]
       iterate 15 (refine Flow.tvK rfl (fun K hK=>⟨fun w hw hG=>?_,?_⟩);(have Aj:=Flow.bc4 hw;clear hG hw;unfold Flow.Runs Flow.yields;go_simp;try rfl);go_simp;refine hK _ ?_;clear hK K)
       refine Flow.tn2 fun w5 hw5 hG=>?_;have k5:=(hw5.block _ An).trans Ae.out;have Cj:=Hd (As.out.trans (hw5.mono (yV An)));have Ca:=zY w5 G q _ _ k5;have A7:=Hd (qO w5 G q _ _ (.int .u8 (2*(y:Int)+(bt:Int))) k5);have Bw:=Hd (Cj.out.setCell (p:=⟨G,q,none⟩) (qC _) (.int .u8 (2*(y:Int)+(bt:Int))));have h5:=(hw5.cell (p:=⟨G,q,none⟩) An).trans h0;clear hG hw5 h0 Bi k5;go_simp;go_wp2_with (fail)
       go_roundw
       case rel=>exact⟨i+1,by omega,by go_num,by have e:=A7.out;rw[A3.out]at e;exact e,Bw.out⟩
       case measure=>simp[intOf];omega
      ·have Ay:¬(i:Int)<(n:Int):=by omega
       have hq:=Ae.out;rw[qh (by rw[Be.out];omega)]at hq;have Ae:=Hd hq;obtain⟨X,hX⟩:=Xq (Tess.bN m A)
       have A4:=Hd (show X.length=m by rw[hX,Tess.bNl]);rw[<-hX]at Ae Ai;have B5:=Hd (Bt HB.out (HG.out▸As.out));have An:G<wr.heap.size:=(qA.1 Ae.out).1;clear hq hX;have Ce:=Hd (fun W=>rm2 l.length W (by omega));have z1:(Tess.mk (Tess.putL l.length)).size<=10:=Tess.pWs _ (by omega);have a1:=Tess.ma2 (Tess.putL l.length) [UInt8.ofNat wd];have a2:=Tess.ma2 (Tess.putL l.length++[UInt8.ofNat wd]) X
       have s1:¬9223372036854775807<(Tess.mk (Tess.putL l.length)).size+(Tess.mk [UInt8.ofNat wd]).size:=by rw[Tess.ms2 [_]];simp;omega
       have s2:¬9223372036854775807<(Tess.mk (Tess.putL l.length++[UInt8.ofNat wd])).size+(Tess.mk X).size:=by rw[Tess.ms2]at *;rw[Tess.ms2,qI,zX,A4.out];omega
       have ul:IntKind.u64.wrap (l.length:Int)=(l.length:Int):=by rw[zy];omega
       have uw:IntKind.u8.wrap (wd:Int)=(wd:Int):=by unfold IntKind.wrap;simp[IntKind.bits,IntKind.signed];omega
       have Av:wd<256:=by omega
       have Au:=Hd (show Tess.putL l.length++[UInt8.ofNat wd]++X=Tess.pN2 l by rw[Ai.out];simp);have Bx:RowKit.Hid ((⟨#[UInt8.ofNat wd]⟩:ByteArray)=Tess.mk [UInt8.ofNat wd]):=Hd rfl;clear z1;generalize Tess.putL l.length++[UInt8.ofNat wd]++X=S2 at *;generalize Tess.putL l.length++[UInt8.ofNat wd]=S1 at *;generalize Tess.putL l.length=S0 at *;go_wp2_with (fail)
       refine Flow.wrf 12 (Flow.sp3 [.inl ?_,.inl ?_,.inl ?_,.inl ?_,.inl ?_,.inl ?_,.inr (nO2 (.int .u8 wd)),.inl (.string (Tess.mk [UInt8.ofNat wd])),.inl ?_,.inl ?_,.inl (.string (Tess.mk X)),.inl ?_]) (by kernel_rfl) (by kernel_rfl) ?_ ?_;rotate_left 9
       ·refine Flow.sm2 ?_
        repeat(first|exact Flow.ln2|refine Flow.li2 ?_|refine Flow.li3 (nOm _) ?_)
       all_goals try simp only[qL,qY,qM,qV]
       iterate 3 (refine Flow.tvK rfl (fun K hK=>⟨fun w hw hG=>?_,?_⟩);(clear hG hw;unfold Flow.Runs Flow.yields;go_simp;try rfl);go_simp;refine hK _ ?_;clear hK K)
       (refine Flow.tvK rfl (fun K hK=>⟨fun w hw hG=>?_,?_⟩);(clear hG hw;unfold Flow.Runs Flow.yields;go_simp;refine(Ce.out _).mono ?_;rintro e w5 ⟨rfl,Bg⟩;first|exact⟨_,rfl,Bg,rfl⟩|(refine⟨?_,Bg⟩;rfl));go_simp;refine hK _ ?_;clear hK K)
       iterate 2 (refine Flow.tvK rfl (fun K hK=>⟨fun w hw hG=>?_,?_⟩);(clear hG hw;unfold Flow.Runs Flow.yields;go_simp;try rfl);go_simp;refine hK _ ?_;clear hK K)
       (refine Flow.tvK2 rfl (fun K hK=>⟨fun w hw hG=>?_,?_⟩);(clear hG hw;unfold Flow.Runs Flow.yields;go_simp;exact⟨(qJ _ _).alloc (qC _) _,nOm2 _ _ _⟩);intro vz;go_simp;refine hK _ _ ?_;clear hK K)
       (refine Flow.tvK rfl (fun K hK=>⟨fun w hw hG=>?_,?_⟩);(obtain⟨gz,h1,h2,h3⟩:=(show nO2 (.int .u8 wd) vz w by simpa[Flow.upd]using hG 6 (by simp[Flow.dep,Region.binds]));have B1:=oc3 wd gz w h3 Av;rw[Bx.out]at B1;subst h1;clear hG hw h2 h3;unfold Flow.Runs Flow.yields;go_simp);go_simp;refine hK _ ?_;clear hK K)
       iterate 2 (refine Flow.tvK rfl (fun K hK=>⟨fun w hw hG=>?_,?_⟩);(clear hG hw;unfold Flow.Runs Flow.yields;go_simp;try rfl);go_simp;refine hK _ ?_;clear hK K)
       refine Flow.tvK rfl (fun K hK=>⟨fun w' hw hG=>?_,?_⟩)
       ·refine Flow.fbs 86 9 5 _ rfl Tryz.underlying86 Tryz.underlying5 Tryz.underlying9 G 0 m m rfl (Tess.mk X) (by rw[Tess.ml2];exact A4.out) (fun i hi=>?_) (by simp[Region.wanted]);have Cd:i<X.length:=by rw[A4.out];exact hi
        have:=(hw.cell (p:=⟨G,0+i,none⟩) An).trans (qT wr G (0+i) _ _ _ Ae.out);rw[this,Tess.ml2,qj];simp[Cd]
       go_simp;refine hK _ ?_;clear hK K
       iterate 1 (refine Flow.tvK rfl (fun K hK=>⟨fun w hw hG=>?_,?_⟩);(clear hG hw;unfold Flow.Runs Flow.yields;go_simp;try rfl);go_simp;refine hK _ ?_;clear hK K)
       refine Flow.tn2 fun w6 hw6 hG=>?_;clear hG;have B2:=Hd (Bt B5.out hw6);clear hw6;go_simp;go_wp2_with (fail);go_ret2;exact⟨by rw[Au.out];rfl,B2.out⟩
    ·have Bu:(((n%8:Nat):Int) !=0)=true:=by rw[zj];omega
     have HN:=Hd hn;clear hn;go_wp2_with (at_builtin;refine qq _ rfl _ _ 96 rfl w.heap.size 3 i0 (.int .i64 0) 1 8 Tryz.underlying96 Bf Ba Bn Bj rfl (by decide) _ _ _ rfl (HO.out.alloc _) ⟨wr.heap.size,0,none⟩ 1 1 [.int .i64 0] rfl rfl (zh _ _ _) (by simp[Value.oneCell']) (by unfold maxLen;have:=HN.out;omega) (by have:=HN.out;omega) (by have:=HB.out.size;simp;omega) ?_);intro v' w3 Aa Ac _
     have A1:=Hd ((HB.out.alloc HB.out.size _).grown Ac (by have:=HB.out.size;simp;omega) (fun j e=>(HO.out.lt j e).1));have Ar:=Hd Aa;obtain⟨Co,c3,e3,_⟩:=oo Aa;clear Aa Ac;go_wp2_with (fail);go_roundw
     case rel=>exact⟨j+1,n+1,by have:=HN.out;omega,by have:=HN.out;omega,by have e:=Ar.out;rw[List.replicate_succ',<-zN];unfold iO at *;rw[qs (l₁:=B++_)];simpa using e,A1.out⟩
     case measure=>subst e3;have:=HN.out;simp[lenOf'];omega
end Go.Proofs.Q9
namespace Tess
open Go
theorem gWc2{s:ByteArray}(h:(getW s).2.2=0):s.data.toList=putL (getW s).1++(getW s).2.1.data.toList:=by
 have hl:s.data.toList.length=s.size:=ju;have hg:getW s=if stop s.data.toList<min s.size 10 then(if gV s.data.toList (stop s.data.toList)then(dec (s.data.toList.take (stop s.data.toList+1)),s.extract (stop s.data.toList+1) s.size,0)else(0,s,20))else(0,s,if s.size<10 then 21 else 20):=rfl
 rw[hg]at h⊢;by_cases h1:stop s.data.toList<min s.size 10
 ·rw[qR h1]at h⊢;by_cases h2:gV s.data.toList (stop s.data.toList)=true
  ·rw[qR h2];obtain⟨k,hk⟩:=Xq (stop s.data.toList)
   rw[<-hk]at h1 h2⊢;have Aa:k<(s.data.toList.take 10).length:=by rw[qy];omega
   have Ae:k<s.data.toList.length:=by omega
   have Ad:=hk;unfold stop at Ad;obtain⟨Ab,Af⟩:=(List.findIdx_eq Aa).1 Ad.symm
   have Ac:=again s.data.toList k Ae (by omega) (fun j hj hjk=>by
    have:=Af j hjk;rw[yP]at this
    simpa using this) (by rw[yP]at Ab;simpa using Ab)
   have h3:=Ac.1.2 h2;have h4:=Ac.2 h2;rw[jf h4]at h3;show s.data.toList=putL (dec (s.data.toList.take (k+1)))++(s.extract (k+1) s.size).data.toList;rw[h3]
   have e:(s.extract (k+1) s.size).data.toList=s.data.toList.drop (k+1):=by have:=md2 s.data.toList (k+1);rw[mo]at this;rw[this];rfl
   rw[e,jm]
  ·rw[qH h2]at h;simp at h
 ·rw[qH h1]at h;split at h<;>simp at h
theorem fm4(bits:List Nat)(h:∀x∈bits,x<2)(a m:Nat)(h2:a+m<=bits.length):fV 1 ((bits.drop a).take m)=fV 1 bits/2^(bits.length-(a+m))%2^m:=by
 obtain⟨M,hM⟩:=Xq ((bits.drop a).take m)
 obtain⟨Z,hZ⟩:=Xq ((bits.drop a).drop m)
 obtain⟨A,hA⟩:=Xq (bits.take a)
 have e:bits=A++(M++Z):=by rw[hA,hM,hZ,jm,jm]
 have lM:M.length=m:=by rw[hM,qy,zn];omega
 have lZ:Z.length=bits.length-(a+m):=by rw[hZ,zn,zn];omega
 have hz:=fbl Z fun x hx=>h x (by rw[e];simp[hx]);have hm:=fbl M fun x hx=>h x (by rw[e];simp[hx])
 have hf:fV 1 bits=(fV 1 A*2^m+fV 1 M)*2^Z.length+fV 1 Z:=by rw[e,fVa,fVa,qI,lM,yY,yY,yZ,jd,xC,jq]
 rw[<-hM,<-lZ,hf,yO,Nat.add_mul_div_right _ _ (jh _),xu hz,qj,yO,Nat.add_mul_mod_self_right,jf (by rw[lM]at hm;exact hm)]
theorem fVb(T:List UInt8):fV 8 (T.map (·.toNat))=valB T:=by unfold fV valB;rw[List.foldl_map]
def bitsOf(T:List UInt8):List Nat:=T.flatMap fun b=>dN 8 b.toNat
theorem bv2(T:List UInt8):fV 1 (bitsOf T)=valB T/\(bitsOf T).length=8*T.length/\∀x∈bitsOf T,x<2:=by
 have e:bitsOf T=(T.map (·.toNat)).flatMap (dN 8):=by unfold bitsOf;rw[List.flatMap_map]
 obtain⟨h1,h2⟩:=ff2 8 (T.map (·.toNat)) (fun x hx=>by
  obtain⟨b,_,rfl⟩:=qd.1 hx;have:=b.toNat_lt;show b.toNat<256
  omega)
 refine⟨by rw[e,h1,fVb],by rw[e,h2,qX];omega,fun x hx=>?_⟩;obtain⟨b,_,hb⟩:=List.mem_flatMap.1 hx;exact dl3 8 _ x hb
theorem nKb(T:List UInt8)(w i:Nat)(h:(i+1)*w<=8*T.length):fV 1 (((bitsOf T).drop (i*w)).take w)=numK w T i:=by
 obtain⟨h1,h2,h3⟩:=bv2 T;have e:i*w+w=(i+1)*w:=by rw[jd,ya]
 rw[fm4 _ h3 _ _ (by rw[h2,e];exact h),h1,h2,e];rfl
theorem fn4(T:List UInt8)(w:Nat):∀n,n*w<=8*T.length->fV w ((List.range n).map (numK w T))=valB T/2^(8*T.length-n*w)
 |0,_=>by have:=vBl T;rw[p22]at this;rw[qBl,Nat.sub_zero,xu this];rfl
 |n+1,h=>by
   have e:(n+1)*w=n*w+w:=by rw[jd,ya]
   rw[xX,qs,List.map_singleton,fVs,fn4 T w n (by omega)];unfold numK;rw[e];have hp:8*T.length-n*w=(8*T.length-(n*w+w))+w:=by omega
   rw[hp,yZ,<-qBm];exact Nat.div_add_mod' _ _
theorem pa6(n w:Nat)(b:UInt8)(T:List UInt8)(hw:b.toNat=w)(hw16:w<=16)(hT:T.length=sP n w):(putL n++(b::T)=pN2 ((List.range n).map (numK w T)))↔(valB T%2^(8*T.length-n*w)=0/\widN ((List.range n).map (numK w T))=w):=by
 obtain⟨l,hl⟩:=Xq ((List.range n).map (numK w T))
 have Ac:l.length=n:=by rw[hl,qX,xK]
 have Ad:widN l<=16:=wNl l fun x hx=>by
  rw[hl]at hx;obtain⟨k,_,rfl⟩:=qd.1 hx;have h1:numK w T k<2^w:=yX _ (jh _);have h2:2^w<=2^16:=zf (by decide) hw16;have h3:(2:Nat)^16=65536:=by decide
  omega
 have hb:UInt8.ofNat (widN l)=b↔widN l=w:=by
  constructor
  ·intro h;rw[<-hw,<-h,zP];omega
  ·intro h;rw[h,<-hw];exact UInt8.ofNat_toNat
 have hf:=fn4 T w n (by have:=sg2 n w;omega);rw[<-hl]at hf⊢;unfold pN2;rw[Ac];rw[List.append_cancel_left_eq,qAf];constructor
 ·rintro⟨h1,h2⟩;have Aa:=hb.1 h1.symm;refine⟨?_,Aa⟩;rw[Aa]at h2;rw[<-hT,hf]at h2;have hv:=zM valB h2
  rw[vb2 _ _ (by
   rw[p22];have Ab:=vBl T;rw[p22]at Ab
   exact Nat.lt_of_le_of_lt (Nat.div_mul_le_self _ _) Ab)]at hv
  have:=Nat.div_add_mod' (valB T) (2^(8*T.length-n*w));omega
 ·rintro⟨h1,h2⟩;refine⟨(hb.2 h2).symm,?_⟩;rw[h2,<-hT,hf];have:=Nat.div_add_mod' (valB T) (2^(8*T.length-n*w));rw[h1,yD]at this;rw[this,bv]
