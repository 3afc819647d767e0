/- Joined. -/
import Derived.Test.YtjdccifdkjnknaaGreatDoorZC41
set_option maxRecDepth 100000
set_option maxHeartbeats 8000000
namespace Go.Proofs.Q9
open Go.RowKit Go.Sort
structure Cols(N:Nat)(e:TypeId)(col:Nat->List Value)(k j:Nat)(Vs:List Value)(W:World):Prop where
 own:∀i (h:i<Vs.length),W.ownsRow N e 1 Vs[i] (if i<j then k+1 else k) ((col i).take (if i<j then k+1 else k))
 apart:∀i j (hi:i<Vs.length) (hj:j<Vs.length),i≠j->Vs[i].ownBlock=none∨Vs[i].ownBlock≠Vs[j].ownBlock
section
variable {N:Nat} {e:TypeId} {col:Nat->List Value} {k j:Nat} {Vs:List Value} {W W':World}
theorem Cols.new(N:Nat)(e:TypeId)(col:Nat->List Value)(m:Nat)(W:World):Cols N e col 0 0 (List.replicate m (.slice none 0 0)) W:=
 ⟨fun i h=>by simpa using qg W N e 1,fun i j hi hj _=>.inl (by simp[Value.ownBlock])⟩
theorem Cols.below(h:Cols N e col k j Vs W)(hb:Below W.heap.size W W'):Cols N e col k j Vs W':=⟨fun i hi=>ob2 (h.own i hi) hb,h.apart⟩
theorem Cols.next(h:Cols N e col k j Vs W)(hj:Vs.length<=j):Cols N e col (k+1) 0 Vs W:=
 ⟨fun i hi=>by
   have:=h.own i hi;rw[qR (show i<j by omega)]at this;rw[qH (zH _)]
   exact this,h.apart⟩
theorem Cols.push(h:Cols N e col k j Vs W)(hj:j<Vs.length){v':Value}(hk:k<(col j).length)(hown:W'.ownsRow N e 1 v' (k+1) ((col j).take k++[(col j)[k]]))(hg:W.grownBy W' Vs[j].ownBlock)(hb:v'.ownBlock=Vs[j].ownBlock∨v'.ownBlock=some W.heap.size):Cols N e col k (j+1) (Vs.set j v') W':=by
 have Ac:∀i (hi:i<Vs.length),i≠j->Vs[i].ownBlock=none∨Vs[i].ownBlock≠v'.ownBlock:=fun i hi hne=>by
  rcases hb with e|e
  ·rw[e];exact h.apart i j hi hj hne
  ·cases hv:Vs[i].ownBlock with
   |none=>exact .inl rfl
   |some g=>
     refine .inr fun e2=>?_;rw[e]at e2;have:=((h.own i hi).lt g hv).2;have:=zr e2;omega
 have Ab:∀i (hi:i<Vs.length),i≠j->v'.ownBlock=none∨v'.ownBlock≠Vs[i].ownBlock:=fun i hi hne=>by
  rcases Ac i hi hne with e|e
  ·rw[e];cases v'.ownBlock with
   |none=>exact .inl rfl
   |some g=>exact .inr (by simp)
  ·exact .inr fun e2=>e e2.symm
 refine⟨fun i hi=>?_,fun i i' hi Aa hne=>?_⟩
 ·have hi:i<Vs.length:=by simpa using hi
  rw[qBs];by_cases hij:j=i
  ·subst hij;rw[qR rfl,qR (zQ _),qQ hk];exact hown
  ·rw[qH hij]
   have e1:(if i<j+1 then k+1 else k)=if i<j then k+1 else k:=by
    by_cases h2:i<j
    ·rw[qR h2,qR (by omega)]
    ·rw[qH h2,qH (by omega)]
   rw[e1];refine(h.own i hi).kept hg ?_;rcases h.apart i j hi hj (xR hij)with e|e
   ·exact .inl e
   ·exact .inr e
 ·have hi:i<Vs.length:=by simpa using hi
  have Aa:i'<Vs.length:=by simpa using Aa
  rw[qBs,qBs];by_cases h1:j=i
  ·rw[qR h1];rw[qH (show j≠i' by omega)];exact Ab i' Aa (by omega)
  ·rw[qH h1];by_cases h2:j=i'
   ·rw[qR h2];exact Ac i hi (by omega)
   ·rw[qH h2];exact h.apart i i' hi Aa hne
end
end Go.Proofs.Q9
namespace Tess
theorem pd2(s:Sch)(C:List (CK×Pay))(i:Nat)(h:i<s.dims.length):((pS2 s C).map mk).take (2+i+1)=((pS2 s C).map mk).take (2+i)++[mk (colD C i)]/\colD C i∈pS2 s C:=by
 have hl:2+i<((pS2 s C).map mk).length:=by simp[pS2];omega
 refine⟨?_,?_⟩
 ·rw[qQ hl];refine zM (fun x=>_++[x]) ?_;rw[zL];refine zM mk ?_;simp only[pS2,show 2+i=i+1+1 by omega,zR];rw[xE (by simpa using h)];simp
 ·unfold pS2;exact yk _ (yk _ (zk.2 (.inl (qd.2 ⟨i,zV.2 h,rfl⟩))))
theorem pm4(s:Sch)(C:List (CK×Pay))(i:Nat)(h:i<s.mets.length):((pS2 s C).map mk).take (2+s.dims.length+i+1)=((pS2 s C).map mk).take (2+s.dims.length+i)++[mk (colM C i)]/\colM C i∈pS2 s C:=by
 have hl:2+s.dims.length+i<((pS2 s C).map mk).length:=by simp[pS2];omega
 refine⟨?_,?_⟩
 ·rw[qQ hl];refine zM (fun x=>_++[x]) ?_;rw[zL];refine zM mk ?_;simp only[pS2,show 2+s.dims.length+i=s.dims.length+i+1+1 by omega,zR];rw[xV (by simp)];simp
 ·unfold pS2;exact yk _ (yk _ (zk.2 (.inr (qd.2 ⟨i,zV.2 h,rfl⟩))))
theorem pa10(s:Sch)(C:List (CK×Pay)):((pS2 s C).map mk).take (2+s.dims.length+s.mets.length)=(pS2 s C).map mk:=qh (by simp[pS2];omega)
end Tess
namespace Go.Proofs.Q9
open Go.RowKit Go.Sort
open Tess (CK Pay CO)
theorem co2{a b:List UInt8}(h:(a++b).length<=maxLen):¬9223372036854775807<(Tess.mk a).size+(Tess.mk b).size:=by rw[Tess.ms2,Tess.ms2];rw[qI]at h;unfold maxLen at h;omega
def colB(C:List (CK×Pay))(m i:Nat):List Value:=
 if i=0 then C.map fun x=>.int .i64 (wHi (x.2.sums.getD m 0))else if i=1 then C.map fun x=>.int .i64 (wrap64 (wLo (x.2.sums.getD m 0)))else if i=2 then C.map fun x=>.int .i64 (x.2.mins.getD m 0)else C.map fun x=>.int .i64 (x.2.maxs.getD m 0)
theorem cBl(C:List (CK×Pay))(m i:Nat):(colB C m i).length=C.length:=by unfold colB;split<;>(try split)<;>(try split)<;>simp
def colA(C:List (CK×Pay))(i:Nat):List Value:=if i=0 then C.map fun x=>.int .i64 x.1.1 else C.map fun x=>.int .i64 x.2.n
theorem sc3{N:Nat}{e:TypeId}{col:Nat->List Value}{k:Nat}{Vs:List Value}{W:World}(h:Cols N e col k 0 Vs W)(i:Nat)(hi:i<Vs.length)(hl:(col i).length<=k):SlOf W Vs[i] (col i):=by have:=SlOf.owned (h.own i hi);rwa [qH (zH _),qh hl]at this
theorem ro7(p:Nat->Prop)(vs vl:Value)(s:Tess.Sch)(C:List (CK×Pay))(w:World)(hs:SA p w vs s)(hv:CA2 p w vl C)(hcok:CO s C)
  (hr:∀W,Below w.heap.size w W->Calls Tryz.prog 44 #[vs,vl] W fun e w'=>e = .returned (.bool true)/\Below W.heap.size W w') :
  Calls Tryz.prog 19 #[vs,vl] w fun e w'=>e = .returned (.tuple #[.string (Tess.jP ((Tess.pS2 s C).map Tess.mk)).1,.int .i64 ((Tess.jP ((Tess.pS2 s C).map Tess.mk)).2:Nat)])/\Below w.heap.size w w':=by
 have Cp:=hcok.sch;have HH:=Hd (fun W (hB:Below w.heap.size w W)=>ra10 p vs s W (hs.ag (Ag.new p hB)));simp only[Cp,jH]at HH;have HR:=Hd hr;have HV:=Hd hv;obtain⟨Cv,A5⟩:=Tess.pm2 hcok;have Cz:=Hd Cv;obtain⟨F,hF⟩:=Xq ((Tess.pS2 s C).map Tess.mk)
 have C8:=Hd (fun i hi=>(Tess.pd2 s C i hi).1);have Dw:=Hd (fun i hi=>(Tess.pm4 s C i hi).1);have C2:=Hd (Tess.pa10 s C);have Di:=Hd Cv;rw[<-hF]at C8 Dw C2 Di A5⊢;have D2:=Hd hF;have D3:=Hd A5;clear hF A5;have Ab:=hcok.len;obtain⟨f1,f2,_⟩:=Tess.sf2 Cp;have Ar:=Hd hcok;obtain⟨i0,A7,A6,A9,A8⟩:=zF (P:=Tryz.prog) (e:=2) (z:=.int .i64 0) (size:=1) (bytes:=8) (by kernel_rfl)
 obtain⟨j0,hj,Dz,D8,Ei⟩:=zF (P:=Tryz.prog) (e:=3) (z:=.int .i64 0) (size:=1) (bytes:=8) (by kernel_rfl);obtain⟨s0,Dg,Dt,C7,Dn⟩:=zF iS2;obtain⟨a,Eu,rfl,hl,hc⟩:=hv.opened;have HC:=Hd hc;obtain⟨vd,vm,rfl,hd,hm,_,_⟩:=hs;obtain⟨ad,Bp,rfl,_⟩:=sl3 hd;obtain⟨am,Bh,rfl,_⟩:=sl3 hm;clear hr hv hc hd hm Cv hcok Cp
 obtain⟨W0,Dk⟩:=XQ (w.alloc (.cells #[.slice ad s.dims.length Bp,.slice am s.mets.length Bh,.int .i64 s.grain] 24))
 obtain⟨k0,kS,kB⟩:=la2 w (.cells #[.slice ad s.dims.length Bp,.slice am s.mets.length Bh,.int .i64 s.grain] 24);rw[Dk]at k0 kS kB;obtain⟨⟨x0,x1,x2⟩,_⟩:=can3 k0;have HK:=Hd k0;have HB:=Hd kB;clear k0 kS kB;go_enter Tryz.func19,Tryz.ntmps19;go_wp2_with (fail);go_at_call 21;refine(HH.out _ HB.out).mono ?_;rintro e w1 ⟨rfl,Cg⟩;have k1:=(Cg.block _ (qA.1 HK.out).1).trans HK.out;have Dx:=Hd k1
 have Db:=Hd (Bt HB.out Cg);clear Cg x0 x1 x2 Dk;obtain⟨⟨x0,x1,x2⟩,_⟩:=can3 k1;clear k1;go_wp2_with (fail);go_at_call 44;refine(HR.out _ Db.out).mono ?_;rintro e wa ⟨rfl,Bb⟩;have ka:=(Bb.block _ (qA.1 Dx.out).1).trans Dx.out;have Ci:=Hd ka;have Ct:=Hd (Bt Db.out Bb);clear Bb x0 x1 x2 ka HH HR;go_wp2_with (fail)
 go_loopw [8,9,10] (fun v8 v9 vi wr=>∃k,k<=C.length/\vi = .int .i64 (k:Nat)/\Cols wa.heap.size 2 (colA C) k 0 [v8,v9] wr/\Below wa.heap.size wa wr) (fun _ _ i _=>C.length-(intOf i).toNat)
 case atStart=>exact⟨0,qN _,rfl,Cols.new _ _ _ 2 _,qJ _ _⟩
 case round=>
  obtain⟨k,hk,rfl,Ak,hB⟩:=hrel;have B2:=Hd Ak;have Al:=Hd hB;by_cases hlt:k<C.length
  ·obtain⟨b,Av,C9,Dh,a3,c3,a4,c4,a5,c5,rfl,hb,⟨q0,q1,q2,q3,q4,q5⟩,_,_⟩:=HC.out w (qJ _ _) k hlt;have Bd:(k:Int)<(C.length:Int):=by omega
   have Dq:=Hd (show k<(colA C 0).length/\∀h,(colA C 0)[k]'h = .int .i64 C[k].1.1 by simp[colA,hlt]);have Dm:=Hd (show k<(colA C 1).length/\∀h,(colA C 1)[k]'h = .int .i64 C[k].2.n by simp[colA,hlt]);generalize C[k]=x at *;have Aa:=Ak.own 0 (by simp);simp only[jC,qBi,zo]at Aa;have HO:=Hd Aa;have HQ:=Hd q2;have q0:=((Bt Ct.out Al.out).cell (p:=⟨b,Av+k*6,none⟩) hb).trans q0;clear Ak hB Aa q1 q2 q3 q4 q5
   go_wp2_with (at_builtin;refine jT _ rfl _ _ 49 rfl wa.heap.size 2 i0 (.int .i64 0) 1 8 Tryz.underlying49 A7 A6 A9 A8 rfl (by decide) _ _ _ rfl (HO.out.alloc _) ⟨wr.heap.size,0,none⟩ 1 1 [.int .i64 x.1.1] rfl rfl (zh _ _ _) (by simp[Value.oneCell']) (by unfold maxLen;omega) (by omega) (by have:=Al.out.size;simp;omega) ?_);intro v' w3 A0 Cc _ Bo
   have Cq:=Cols.push (B2.out.below ((qJ _ _).alloc (qC _) (.cells #[.int .i64 x.1.1] 2))) (j:=0) (by simp) Dq.out.1 (by rw[Dq.out.2];exact A0) Cc (by simpa using Bo);have Bk:=Hd ((Al.out.alloc Al.out.size (.cells #[.int .i64 x.1.1] 2)).grown Cc (by have:=Al.out.size;simp;omega) (fun j e=>(HO.out.lt j e).1));have Aa:=Cq.own 1 (by simp);simp only[qBc,zR,zo,jC,qBi,qj]at Aa;have C6:=Hd Aa
   have D0:=Hd Cq;have q2:=((Bt Ct.out Bk.out).cell (p:=⟨b,Av+k*6+2,none⟩) hb).trans HQ.out;clear A0 Cc Bo Cq Aa q0
   go_wp2_with (at_builtin;refine jT _ rfl _ _ 49 rfl wa.heap.size 2 i0 (.int .i64 0) 1 8 Tryz.underlying49 A7 A6 A9 A8 rfl (by decide) _ _ _ rfl (C6.out.alloc _) ⟨w3.heap.size,0,none⟩ 1 1 [.int .i64 x.2.n] rfl rfl (zh _ _ _) (by simp[Value.oneCell']) (by unfold maxLen;omega) (by omega) (by have:=Bk.out.size;simp;omega) ?_);intro v2 w4 Az Cu _ Bg
   have C3:=Cols.push (D0.out.below ((qJ _ _).alloc (qC _) (.cells #[.int .i64 x.2.n] 2))) (j:=1) (by simp) Dm.out.1 (by rw[Dm.out.2];exact Az) Cu (by simpa using Bg);have D4:=Hd (C3.next (by simp));have Ec:=Hd ((Bk.out.alloc Bk.out.size (.cells #[.int .i64 x.2.n] 2)).grown Cu (by have:=Bk.out.size;simp;omega) (fun j e=>(C6.out.lt j e).1));clear Az Cu Bg C3 q2;go_wp2_with (fail);go_roundw
   case rel=>exact⟨k+1,by omega,by go_num,D4.out,Ec.out⟩
   case measure=>simp[intOf];omega
  ·have Bd:¬(k:Int)<(C.length:Int):=by omega
   obtain rfl:k=C.length:=by omega
   have h8:=sc3 Ak 0 (by simp) (by simp[colA]);have h9:=sc3 Ak 1 (by simp) (by simp[colA]);simp only[zR,zo]at h8 h9;rw[show colA C 0=(C.map fun x=>x.1.1).map (.int .i64) by simp[colA,xk]]at h8;rw[show colA C 1=(C.map fun x=>x.2.n).map (.int .i64) by simp[colA,xk]]at h9
   have B6:=Hd (ra3 u8 _ wr h8 (fun y hy=>by
    obtain⟨x,hx,rfl⟩:=qd.1 hy
    have:=(Ar.out.each x hx).time;omega) (by rw[qX];exact Ab))
   have B5:=Hd (fun W hb=>ra3 u9 _ W (h9.below hb) (fun y hy=>by
    obtain⟨x,hx,rfl⟩:=qd.1 hy
    have:=(Ar.out.each x hx).most;have:=(Ar.out.each x hx).pay.one;omega) (by rw[qX];exact Ab))
   have Af:=Tess.ma2 (Tess.pL2 (C.map fun x=>x.1.1)) (Tess.pL2 (C.map fun x=>x.2.n));rw[show Tess.pL2 (C.map fun x=>x.1.1)++Tess.pL2 (C.map fun x=>x.2.n)=Tess.colT C from rfl]at Af
   have Bn:=co2 (a:=Tess.pL2 (C.map fun x=>x.1.1)) (b:=Tess.pL2 (C.map fun x=>x.2.n)) (by
    have:=Cz.out (Tess.mk (Tess.colT C)) (qd.2 ⟨_,by simp[Tess.pS2],rfl⟩)
    rw[Tess.ms2]at this;exact this)
   generalize Tess.pL2 (C.map fun x=>x.1.1)=P1 at *;generalize Tess.pL2 (C.map fun x=>x.2.n)=P2 at *;have As:=Hd Af;have Aw:(Tess.mk P1).size+(Tess.mk P2).size<=9223372036854775807:=by omega
   clear Ak hB h8 h9 Af;go_wp2_with (fail);go_at_call 45;refine B6.out.mono ?_;rintro e w5 ⟨rfl,Bj⟩;have Cy:=Hd (Bt Al.out Bj);have B7:=Hd (B5.out w5 Bj);clear Bj;go_wp2_with (fail);go_at_call 45;refine B7.out.mono ?_;rintro e w6 ⟨rfl,Cl⟩;have Ap:=Hd (Bt Ct.out (Bt Cy.out Cl));have k6:=((Bt Cy.out Cl).block _ (qA.1 Ci.out).1).trans Ci.out;have B8:=Hd k6;clear Cl k6 B6 B5 B7 Cy Al Ci;have Af:=As.out
   go_wp2_with (fail);have Aa:=World.ownsRow_lit (base:=w6.heap.size) (e:=9) (size:=1) w6 #[.string (Tess.mk (Tess.hB14 s)),.string (Tess.mk (Tess.colT C))] 2 (qC _) (by decide) rfl
   have D9:=Hd (show(w6.alloc (.cells #[.string (Tess.mk (Tess.hB14 s)),.string (Tess.mk (Tess.colT C))] 9)).ownsRow w6.heap.size 9 1 (.slice (some ⟨w6.heap.size,0,none⟩) 2 2) 2 ((F.take 2).map .string) by rw[D2.out];exact Aa)
   clear Aa Af Bn Aw As;go_loopw [11,12] (fun v11 vi wr=>∃i,i<=s.dims.length/\vi = .int .i64 (i:Nat)/\wr.ownsRow w6.heap.size 9 1 v11 (2+i) ((F.take (2+i)).map .string)/\Below w6.heap.size w6 wr) (fun _ i _=>s.dims.length-(intOf i).toNat)
   case atStart=>exact⟨0,qN _,rfl,D9.out,(qJ _ _).alloc (qC _) _⟩
   case round=>
    obtain⟨i,hi,rfl,Aa,hB⟩:=hrel;have HO:=Hd Aa;have Al:=Hd hB;have ki:=(hB.block _ (qA.1 B8.out).1).trans B8.out;obtain⟨⟨x0,x1,x2⟩,_⟩:=can3 ki;clear Aa hB ki;by_cases hlt:i<s.dims.length
    ·have C0:(i:Int)<(s.dims.length:Int):=by omega
     have Cb:∀x∈C,i<x.1.2.length:=fun x hx=>by rw[(Ar.out.each x hx).dims.1];exact hlt
     have Ds:=Hd (ra47 p _ C i wr (HV.out.ag (Ag.new p (Bt Ap.out Al.out))) Cb Ab (Tess.wf3 Ar.out i));obtain⟨Cs,Bq⟩:=Tess.df C i Ab (Tess.wf3 Ar.out i);have Bw:=Hd Bq;have Eg:=Hd Cb;have Ba:=Hd (C8.out i hlt);have Af:Tess.mk (Tess.encL (Tess.dO2 C i))++Tess.mk (Tess.pN2 (Tess.iO2 C i (Tess.dO2 C i)))=Tess.mk (Tess.colD C i):=Tess.ma2 _ _
     have Bn:=co2 (a:=Tess.encL (Tess.dO2 C i)) (b:=Tess.pN2 (Tess.iO2 C i (Tess.dO2 C i))) (by
      have:=Cz.out (Tess.mk (Tess.colD C i)) (qd.2 ⟨_,(Tess.pd2 s C i hlt).2,rfl⟩)
      rw[Tess.ms2]at this;exact this)
     have Aw:(Tess.mk (Tess.encL (Tess.dO2 C i))).size+(Tess.mk (Tess.pN2 (Tess.iO2 C i (Tess.dO2 C i)))).size<=9223372036854775807:=by omega
     have As:=Hd Af;have Do:=Hd Aw;have Dv:=Hd (show Tess.encW (Tess.dO2 C i)=(Tess.mk (Tess.encL (Tess.dO2 C i)),0) by unfold Tess.encW;rw[qR Cs];rfl);have C5:=Hd Cs;have Cr:=Hd (show ∀y∈Tess.dO2 C i,y.size<=maxLen from fun y hy=>by have:=Tess.ds4 Ar.out i y hy;unfold maxLen;omega);clear Cb Cs Bq Af Bn Aw;go_wp2_with (fail);go_at_call 46;refine Ds.out.mono ?_;rintro e wc ⟨vw,rfl,Co,Ck⟩
     have Dp:=Hd (Bt Al.out Ck);have D5:=Hd (ob2 HO.out Ck);have Cn:=Hd Co;obtain⟨Et,Er,rfl,_⟩:=so2 Co;clear Co Ck Ds HO Al x0 x1 x2;have B0:=Hd (fun W hW dv=>ra64 _ (Tess.dO2 C i) dv W (Cn.out.below hW) C5.out Cr.out);go_wp2_with (fail)
     go_loopw [14,15] (fun v14 vk wq=>∃k,k<=C.length/\vk = .int .i64 (k:Nat)/\wq.ownsRow wc.heap.size 3 1 v14 k (iO (Tess.iO2 (C.take k) i (Tess.dO2 C i)))/\Below wc.heap.size wc wq) (fun _ k _=>C.length-(intOf k).toNat)
     case atStart=>exact⟨0,qN _,rfl,qg _ _ _ _,qJ _ _⟩
     case round=>
      obtain⟨k,hk,rfl,Aa,hB⟩:=hrel;have HO:=Hd Aa;have Aj:=Hd hB;clear Aa hB;by_cases hlk:k<C.length
      ·obtain⟨b,Av,C9,Dh,a3,c3,a4,c4,a5,c5,rfl,hb,⟨_,q1,_,_,_,_⟩,Cf,_⟩:=HC.out w (qJ _ _) k hlk;have Bd:(k:Int)<(C.length:Int):=by omega
       have B3:=Eg.out _ (qP hlk);have HW:=Hd (Tess.iOt C i (Tess.dO2 C i) k hlk);have B9:=Bt Ap.out (Bt Dp.out Aj.out);generalize C[k]=x at *;obtain⟨⟨t,l⟩,P⟩:=x;dsimp only at q1 Cf B3 HW;obtain⟨b2,Bu,rfl,Bb,e0,e1⟩:=Cf i (by simpa using B3);rw[zL]at e0 e1;have Da:l.getD i none=l[i]:=by rw[qE,qD B3];rfl
       rw[Da]at HW;have D1:(i:Int)<(l.length:Int):=by omega
       generalize l[i]=dv at *;have q1:=(B9.cell (p:=⟨b,Av+k*6+1,none⟩) hb).trans q1;have e0:=(B9.cell (p:=⟨b2,Bu+i*2,none⟩) Bb).trans e0;have e1:=(B9.cell (p:=⟨b2,Bu+i*2+1,none⟩) Bb).trans e1;have C1:=Hd (B0.out wr Aj.out dv);obtain⟨pl,A5⟩:=Xq (Tess.idOf (Tess.dO2 C i) dv)
       rw[<-A5]at C1 HW;clear Cf B3 Da A5 B9;generalize (Tess.valOf dv).s=z1 at *;generalize (Tess.valOf dv).null=z2 at *;go_wp2_with (fail);go_at_call 47;refine C1.out.mono ?_;rintro e w7 ⟨rfl,A4⟩;have A2:=Hd (Bt Aj.out A4);have Dd:=Hd (ob2 HO.out A4);clear A4 q1 e0 e1
       go_wp2_with (at_builtin;refine qq _ rfl _ _ 96 rfl wc.heap.size 3 j0 (.int .i64 0) 1 8 Tryz.underlying96 hj Dz D8 Ei rfl (by decide) _ _ _ rfl (Dd.out.alloc _) ⟨w7.heap.size,0,none⟩ 1 1 [.int .i64 pl] rfl rfl (zh _ _ _) (by simp[Value.oneCell']) (by unfold maxLen;omega) (by omega) (by have:=A2.out.size;simp;omega) ?_);intro v' w8 Ay Aq _
       have At:=Hd ((A2.out.alloc A2.out.size (.cells #[.int .i64 pl] 3)).grown Aq (by have:=A2.out.size;simp;omega) (fun m e=>(Dd.out.lt m e).1));have A1:=Hd Ay;clear Ay Aq;go_wp2_with (fail);go_roundw
       case rel=>exact⟨k+1,by omega,by go_num,by rw[HW.out];unfold iO;rw[qs];exact A1.out,At.out⟩
       case measure=>simp[intOf];omega
      ·have Bd:¬(k:Int)<(C.length:Int):=by omega
       obtain rfl:k=C.length:=by omega
       have ho:=HO.out;rw[jy]at ho;have Dr:=Hd (fun W hW=>ra8 _ _ W ((SlOf.owned ho).below hW) Bw.out (by rw[Tess.iOl];exact Ab));have B4:=Hd (ra9 _ _ wr (Cn.out.below Aj.out) Cr.out);clear ho;unfold EP at B4;rw[Dv.out]at B4;go_wp2_with (fail);go_at_call 48;refine B4.out.mono ?_;rintro e w7 ⟨rfl,A4⟩;have A2:=Hd (Bt Aj.out A4);have C4:=Hd (Dr.out w7 A4);clear A4;go_wp2_with (fail);go_at_call 49
       refine C4.out.mono ?_;rintro e w8 ⟨rfl,Cd⟩;have At:=Hd (Bt Dp.out (Bt A2.out Cd));have A1:=Hd (ob2 D5.out (Bt A2.out Cd));clear Cd;have Bn:=Do.out;have Af:=As.out;have Ba:=Ba;clear As Do Dv B4 Dr C4 Bw B0 Cn C5 Cr;generalize Tess.mk (Tess.pN2 (Tess.iO2 C i (Tess.dO2 C i)))=Y2 at *;generalize Tess.mk (Tess.encL (Tess.dO2 C i))=Y1 at *;generalize Tess.mk (Tess.colD C i)=Y at *
       go_wp2_with (at_builtin;refine qq _ rfl _ _ 22 rfl w6.heap.size 9 s0 (.string ByteArray.empty) 1 16 Tryz.underlying22 Dg Dt C7 Dn rfl (by decide) _ _ _ rfl (A1.out.alloc _) ⟨w8.heap.size,0,none⟩ 1 1 [.string Y] rfl rfl (zh _ _ _) (by simp[Value.oneCell']) (by unfold maxLen;omega) (by omega) (by have:=At.out.size;simp;omega) ?_);intro v' w9 Ah Ad _
       have Be:=Hd ((At.out.alloc At.out.size (.cells #[.string Y] 9)).grown Ad (by have:=At.out.size;simp;omega) (fun m e=>(A1.out.lt m e).1));have Cj:=Hd Ah;clear Ah Ad Af Bn;go_wp2_with (fail);go_roundw
       case rel=>exact⟨i+1,by omega,by go_num,by show World.ownsRow _ _ _ _ _ (2+i+1) ((F.take (2+i+1)).map .string);rw[Ba.out,qs,qAj];exact Cj.out,Be.out⟩
       case measure=>simp[intOf];omega
    ·have C0:¬(i:Int)<(s.dims.length:Int):=by omega
     obtain rfl:i=s.dims.length:=by omega
     go_wp2_with (fail);go_loopw [11,20] (fun v11 vi wr=>∃m,m<=s.mets.length/\vi = .int .i64 (m:Nat)/\wr.ownsRow w6.heap.size 9 1 v11 (2+s.dims.length+m) ((F.take (2+s.dims.length+m)).map .string)/\Below w6.heap.size w6 wr) (fun _ i _=>s.mets.length-(intOf i).toNat)
     case atStart=>exact⟨0,qN _,rfl,HO.out,Al.out⟩
     case round=>
      clear HO Al x0 x1 x2;obtain⟨m,hm,rfl,Aa,hB⟩:=hrel;have HO:=Hd Aa;have Au:=Hd hB;have ki:=(hB.block _ (qA.1 B8.out).1).trans B8.out;obtain⟨⟨x0,x1,x2⟩,_⟩:=can3 ki;clear Aa hB ki;by_cases hlm:m<s.mets.length
      ·have Ea:(m:Int)<(s.mets.length:Int):=by omega
       have Ba:=Hd (Dw.out m hlm);obtain⟨wd,Eb⟩:=Xq wr
       subst Eb;go_wp2_with (fail);clear x0 x1 x2;go_loopw [21,22,23,24,25] (fun v21 v22 v23 v24 vk wq=>∃k,k<=C.length/\vk = .int .i64 (k:Nat)/\Cols wd.heap.size 2 (colB C m) k 0 [v21,v22,v23,v24] wq/\Below wd.heap.size wd wq) (fun _ _ _ _ k _=>C.length-(intOf k).toNat)
       case atStart=>exact⟨0,qN _,rfl,Cols.new _ _ _ 4 _,qJ _ _⟩
       case round=>
        obtain⟨k,hk,rfl,Ak,hB⟩:=hrel;have B2:=Hd Ak;have Aj:=Hd hB;clear hB;by_cases hlk:k<C.length
        ·obtain⟨b,Av,C9,Dh,a3,c3,a4,c4,a5,c5,rfl,hb,⟨_,_,_,q3,q4,q5⟩,_,Ax⟩:=HC.out w (qJ _ _) k hlk;have Bd:(k:Int)<(C.length:Int):=by omega
         obtain⟨l1,l2,l3⟩:=(Ar.out.each _ (qP hlk)).pay.len;have m1:m<C[k].2.sums.length:=by omega
         have m2:m<C[k].2.mins.length:=by omega
         have m3:m<C[k].2.maxs.length:=by omega
         obtain⟨b3,Bl,rfl,Dj,e0,e1⟩:=Ax.sums.num2 m1;obtain⟨b4,Cx,rfl,Ed,f0⟩:=Ax.mins.num1 m2;obtain⟨b5,Ce,rfl,Bj,g0⟩:=Ax.maxs.num1 m3;have En:(m:Int)<(C[k].2.sums.length:Int):=by omega
         have Ev:(m:Int)<(C[k].2.mins.length:Int):=by omega
         have Ep:(m:Int)<(C[k].2.maxs.length:Int):=by omega
         have Ca:=Hd (show True/\(∀h,(colB C m 0)[k]'h = .int .i64 (wHi C[k].2.sums[m]))/\(∀h,(colB C m 1)[k]'h = .int .i64 (wrap64 (wLo C[k].2.sums[m])))/\(∀h,(colB C m 2)[k]'h = .int .i64 C[k].2.mins[m])/\(∀h,(colB C m 3)[k]'h = .int .i64 C[k].2.maxs[m]) by simp[colB,qD m1,qD m2,qD m3])
         clear Ax l1 l2 l3 Ak;generalize C[k].2.sums[m]=sx at *;generalize C[k].2.mins[m]=mx at *;generalize C[k].2.maxs[m]=xx at *;generalize C[k].2.sums.length=z1 at *;generalize C[k].2.mins.length=z2 at *;generalize C[k].2.maxs.length=z3 at *;have Du:=Hd q3;have Ee:=Hd q4;have Dy:=Hd q5;have D7:=Hd e0;have Ef:=Hd e1;have El:=Hd f0;have Em:=Hd g0;clear q3 q4 q5 e0 e1 f0 g0 m1 m2 m3
         have Aa:=B2.out.own 0 (by simp);simp only[zo,jC,qBi]at Aa;have Bx:=Hd Aa;have qf:=((Bt Ap.out (Bt Au.out Aj.out)).cell (p:=⟨b,Av+k*6+3,none⟩) hb).trans Du.out;have qe:=((Bt Ap.out (Bt Au.out Aj.out)).cell (p:=⟨b3,Bl+m*2,none⟩) Dj).trans D7.out;clear Aa
         go_wp2_with (at_builtin;refine jT _ rfl _ _ 49 rfl wd.heap.size 2 i0 (.int .i64 0) 1 8 Tryz.underlying49 A7 A6 A9 A8 rfl (by decide) _ _ _ rfl (Bx.out.alloc _) ⟨wr.heap.size,0,none⟩ 1 1 [.int .i64 (wHi sx)] rfl rfl (zh _ _ _) (by simp[Value.oneCell']) (by unfold maxLen;omega) (by omega) (by have:=Aj.out.size;simp;omega) ?_);intro Eo Ej Ac Ai _ Ae
         have Bc:=Hd (Cols.push (B2.out.below ((qJ _ _).alloc (qC _) (.cells #[.int .i64 (wHi sx)] 2))) (j:=0) (by simp) (by rw[cBl];exact hlk) (by rw[Ca.out.2.1];exact Ac) Ai (by simpa using Ae));have Am:=Hd ((Aj.out.alloc Aj.out.size (.cells #[.int .i64 (wHi sx)] 2)).grown Ai (by have:=Aj.out.size;simp;omega) (fun j e=>(Bx.out.lt j e).1));clear Ac Ai Ae qf qe;have Aa:=Bc.out.own 1 (by simp)
         simp only[qBc,zR,zo,jC,qBi,qj]at Aa;have B1:=Hd Aa;have qf:=((Bt Ap.out (Bt Au.out Am.out)).cell (p:=⟨b,Av+k*6+3,none⟩) hb).trans Du.out;have qe:=((Bt Ap.out (Bt Au.out Am.out)).cell (p:=⟨b3,Bl+m*2+1,none⟩) Dj).trans Ef.out;clear Aa
         go_wp2_with (at_builtin;refine jT _ rfl _ _ 49 rfl wd.heap.size 2 i0 (.int .i64 0) 1 8 Tryz.underlying49 A7 A6 A9 A8 rfl (by decide) _ _ _ rfl (B1.out.alloc _) ⟨Ej.heap.size,0,none⟩ 1 1 [.int .i64 (wrap64 (wLo sx))] rfl rfl (zh _ _ _) (by simp[Value.oneCell']) (by unfold maxLen;omega) (by omega) (by have:=Am.out.size;simp;omega) ?_);intro Ew Ek Ac Ai _ Ae
         have By:=Hd (Cols.push (Bc.out.below ((qJ _ _).alloc (qC _) (.cells #[.int .i64 (wrap64 (wLo sx))] 2))) (j:=1) (by simp) (by rw[cBl];exact hlk) (by rw[Ca.out.2.2.1];exact Ac) Ai (by simpa using Ae));have Ao:=Hd ((Am.out.alloc Am.out.size (.cells #[.int .i64 (wrap64 (wLo sx))] 2)).grown Ai (by have:=Am.out.size;simp;omega) (fun j e=>(B1.out.lt j e).1));clear Ac Ai Ae qf qe
         have Aa:=By.out.own 2 (by simp);simp only[qBc,List.set_cons_succ,zR,zo,jC,qBi,Nat.reduceAdd]at Aa;have Bz:=Hd Aa;have qf:=((Bt Ap.out (Bt Au.out Ao.out)).cell (p:=⟨b,Av+k*6+4,none⟩) hb).trans Ee.out;have qe:=((Bt Ap.out (Bt Au.out Ao.out)).cell (p:=⟨b4,Cx+m,none⟩) Ed).trans El.out;clear Aa
         go_wp2_with (at_builtin;refine jT _ rfl _ _ 49 rfl wd.heap.size 2 i0 (.int .i64 0) 1 8 Tryz.underlying49 A7 A6 A9 A8 rfl (by decide) _ _ _ rfl (Bz.out.alloc _) ⟨Ek.heap.size,0,none⟩ 1 1 [.int .i64 mx] rfl rfl (zh _ _ _) (by simp[Value.oneCell']) (by unfold maxLen;omega) (by omega) (by have:=Ao.out.size;simp;omega) ?_);intro Es D6 Ac Ai _ Ae
         have Br:=Hd (Cols.push (By.out.below ((qJ _ _).alloc (qC _) (.cells #[.int .i64 mx] 2))) (j:=2) (by simp) (by rw[cBl];exact hlk) (by rw[Ca.out.2.2.2.1];exact Ac) Ai (by simpa using Ae));have An:=Hd ((Ao.out.alloc Ao.out.size (.cells #[.int .i64 mx] 2)).grown Ai (by have:=Ao.out.size;simp;omega) (fun j e=>(Bz.out.lt j e).1));clear Ac Ai Ae qf qe;have Aa:=Br.out.own 3 (by simp)
         simp only[qBc,List.set_cons_succ,zR,zo,jC,qBi,Nat.reduceAdd]at Aa;have Bm:=Hd Aa;have qf:=((Bt Ap.out (Bt Au.out An.out)).cell (p:=⟨b,Av+k*6+5,none⟩) hb).trans Dy.out;have qe:=((Bt Ap.out (Bt Au.out An.out)).cell (p:=⟨b5,Ce+m,none⟩) Bj).trans Em.out;clear Aa
         go_wp2_with (at_builtin;refine jT _ rfl _ _ 49 rfl wd.heap.size 2 i0 (.int .i64 0) 1 8 Tryz.underlying49 A7 A6 A9 A8 rfl (by decide) _ _ _ rfl (Bm.out.alloc _) ⟨D6.heap.size,0,none⟩ 1 1 [.int .i64 xx] rfl rfl (zh _ _ _) (by simp[Value.oneCell']) (by unfold maxLen;omega) (by omega) (by have:=An.out.size;simp;omega) ?_);intro Eq Ex Ac Ai _ Ae
         have Cm:=Hd (Cols.push (Br.out.below ((qJ _ _).alloc (qC _) (.cells #[.int .i64 xx] 2))) (j:=3) (by simp) (by rw[cBl];exact hlk) (by rw[Ca.out.2.2.2.2];exact Ac) Ai (by simpa using Ae));have Ch:=Hd ((An.out.alloc An.out.size (.cells #[.int .i64 xx] 2)).grown Ai (by have:=An.out.size;simp;omega) (fun j e=>(Bm.out.lt j e).1));clear Ac Ai Ae qf qe;go_wp2_with (fail);go_roundw
         case rel=>exact⟨k+1,by omega,by go_num,Cm.out.next (by simp),Ch.out⟩
         case measure=>simp[intOf];omega
        ·have Bd:¬(k:Int)<(C.length:Int):=by omega
         obtain rfl:k=C.length:=by omega
         have h0:=sc3 Ak 0 (by simp) (by rw[cBl];exact qC _);simp only[zo]at h0;rw[show colB C m 0=(C.map (fun x=>wHi (x.2.sums.getD m 0))).map (.int .i64) by simp[colB,xk]]at h0
         have Eh:=Hd (fun W hb=>ra3 _ _ W (h0.below hb) (fun y hy=>by
          obtain⟨x,hx,rfl⟩:=qd.1 hy
          exact Tess.hr6 Ar.out m hlm x hx) (by rw[qX];exact Ab))
         clear h0;have h1:=sc3 Ak 1 (by simp) (by rw[cBl];exact qC _);simp only[zR,zo]at h1;rw[show colB C m 1=(C.map (fun x=>wrap64 (wLo (x.2.sums.getD m 0)))).map (.int .i64) by simp[colB,xk]]at h1
         have B6:=Hd (fun W hb=>ra3 _ _ W (h1.below hb) (fun y hy=>by
          obtain⟨x,hx,rfl⟩:=qd.1 hy
          exact Tess.wr5 _) (by rw[qX];exact Ab))
         clear h1;have h2:=sc3 Ak 2 (by simp) (by rw[cBl];exact qC _);simp only[zR,zo]at h2;rw[show colB C m 2=(C.map (fun x=>x.2.mins.getD m 0)).map (.int .i64) by simp[colB,xk]]at h2
         have B5:=Hd (fun W hb=>ra3 _ _ W (h2.below hb) (fun y hy=>by
          obtain⟨x,hx,rfl⟩:=qd.1 hy
          obtain⟨r1,r2,r3,r4⟩:=(Ar.out.each x hx).pay.rng m hlm;exact⟨r1,r2⟩) (by rw[qX];exact Ab))
         clear h2;have h3:=sc3 Ak 3 (by simp) (by rw[cBl];exact qC _);simp only[zR,zo]at h3;rw[show colB C m 3=(C.map (fun x=>x.2.maxs.getD m 0)).map (.int .i64) by simp[colB,xk]]at h3
         have B7:=Hd (fun W hb=>ra3 _ _ W (h3.below hb) (fun y hy=>by
          obtain⟨x,hx,rfl⟩:=qd.1 hy
          obtain⟨r1,r2,r3,r4⟩:=(Ar.out.each x hx).pay.rng m hlm;exact⟨r3,r4⟩) (by rw[qX];exact Ab))
         clear h3
         have Bv:(Tess.colM C m).length<=maxLen:=by have:=Cz.out (Tess.mk (Tess.colM C m)) (qd.2 ⟨_,(Tess.pm4 s C m hlm).2,rfl⟩);rw[Tess.ms2]at this;exact this
         have Df:=Hd (show Tess.pL2 (C.map (fun x=>wHi (x.2.sums.getD m 0)))++Tess.pL2 (C.map (fun x=>wrap64 (wLo (x.2.sums.getD m 0))))++Tess.pL2 (C.map (fun x=>x.2.mins.getD m 0))++Tess.pL2 (C.map (fun x=>x.2.maxs.getD m 0))=Tess.colM C m by simp[Tess.colM]);clear Ak;generalize Tess.pL2 (C.map (fun x=>wHi (x.2.sums.getD m 0)))=P0 at *
         generalize Tess.pL2 (C.map (fun x=>wrap64 (wLo (x.2.sums.getD m 0))))=P1 at *;generalize Tess.pL2 (C.map (fun x=>x.2.mins.getD m 0))=P2 at *;generalize Tess.pL2 (C.map (fun x=>x.2.maxs.getD m 0))=P3 at *;rw[<-Df.out]at Bv Ba;have a1:=Tess.ma2 P0 P1;have a2:=Tess.ma2 (P0++P1) P2;have a3:=Tess.ma2 (P0++P1++P2) P3;have s1:=co2 (a:=P0) (b:=P1) (by have h:=Bv;simp only[qI]at h⊢;omega)
         have s2:=co2 (a:=P0++P1) (b:=P2) (by have h:=Bv;simp only[qI]at h⊢;omega);have s3:=co2 (a:=P0++P1++P2) (b:=P3) Bv;have s1:(Tess.mk P0).size+(Tess.mk P1).size<=9223372036854775807:=by omega
         have s2:(Tess.mk (P0++P1)).size+(Tess.mk P2).size<=9223372036854775807:=by omega
         have s3:(Tess.mk (P0++P1++P2)).size+(Tess.mk P3).size<=9223372036854775807:=by omega
         clear Bv Df;generalize P0++P1++P2++P3=S3 at *;generalize P0++P1++P2=S2 at *;generalize P0++P1=S1 at *;go_wp2_with (fail);go_at_call 45;refine(Eh.out _ (qJ _ _)).mono ?_;rintro e y0 ⟨rfl,Bi⟩;have Dc:=Hd (Bi);clear Bi;go_wp2_with (fail);go_at_call 45;refine(B6.out _ Dc.out).mono ?_;rintro e y1 ⟨rfl,Bf⟩;have Dl:=Hd (Bt Dc.out Bf);clear Bf;go_wp2_with (fail);go_at_call 45
         refine(B5.out _ Dl.out).mono ?_;rintro e y2 ⟨rfl,Bs⟩;have Cw:=Hd (Bt Dl.out Bs);clear Bs;go_wp2_with (fail);go_at_call 45;refine(B7.out _ Cw.out).mono ?_;rintro e y3 ⟨rfl,A3⟩;have At:=Hd (Bt Au.out (Bt Aj.out (Bt Cw.out A3)));have A1:=Hd (ob2 HO.out (Bt Aj.out (Bt Cw.out A3)));clear A3
         go_wp2_with (at_builtin;refine qq _ rfl _ _ 22 rfl w6.heap.size 9 s0 (.string ByteArray.empty) 1 16 Tryz.underlying22 Dg Dt C7 Dn rfl (by decide) _ _ _ rfl (A1.out.alloc _) ⟨y3.heap.size,0,none⟩ 1 1 [.string (Tess.mk S3)] rfl rfl (zh _ _ _) (by simp[Value.oneCell']) (by unfold maxLen;omega) (by omega) (by have:=At.out.size;simp;omega) ?_);intro v' w9 Ah Ad _
         have Be:=Hd ((At.out.alloc At.out.size (.cells #[.string (Tess.mk S3)] 9)).grown Ad (by have:=At.out.size;simp;omega) (fun m e=>(A1.out.lt m e).1));have Cj:=Hd Ah;clear Ah Ad;go_wp2_with (fail);go_roundw
         case rel=>exact⟨m+1,by omega,by go_num,by show World.ownsRow _ _ _ _ _ (2+s.dims.length+m+1) ((F.take (2+s.dims.length+m+1)).map .string);rw[Ba.out,qs,qAj];exact Cj.out,Be.out⟩
         case measure=>simp[intOf];omega
      ·have Ea:¬(m:Int)<(s.mets.length:Int):=by omega
       obtain rfl:m=s.mets.length:=by omega
       have ho:=HO.out;rw[C2.out]at ho;have HJ:=Hd (ra11 _ F wr (SlOf.owned ho) Di.out D3.out);unfold JP at HJ;clear ho;go_wp2_with (fail);go_at_call 22;refine HJ.out.mono ?_;rintro e y9 ⟨rfl,De⟩;have Be:=Hd (Bt Ap.out (Bt Au.out De));clear De;go_wp2_with (fail);go_ret2;exact⟨rfl,Be.out⟩
end Go.Proofs.Q9
namespace Go.Proofs.Q9
open Go.RowKit Go.Sort
open Tess (CK Pay)
theorem bd2{B:Nat}{a w:World}(h:Below B a w)(n:Nat):Below B a (w.drewN n):=⟨h.os,h.tape,h.output,h.size,h.block⟩
theorem bAa(a b:ByteArray)(w:World)(ha:a.size<=maxLen) :
  Calls Tryz.prog 149 #[.string a,.string b] w fun e w'=>e = .returned (.bool (Tess.bl a b))/\Below w.heap.size w w':=by
 unfold maxLen at ha;go_enter Tryz.func149,Tryz.ntmps149;go_wp2;go_loopw [5] (fun i wr=>∃k:Nat,k<=a.size/\k<=b.size/\i = .int .i64 k/\a.data.toList.take k=b.data.toList.take k/\Below w.heap.size w wr) (fun i _=>a.size-(intOf i).toNat)
 case atStart=>exact⟨0,qN _,qN _,rfl,rfl,qJ _ _⟩
 case round=>
  obtain⟨k,Ab,Ac,rfl,Aa,hB⟩:=hrel;have HB:=Hd hB;clear hB;have HE:=Hd Aa;clear Aa;by_cases h1:k<a.size
  ·have Af:(k:Int)<(a.size:Int):=by omega
   by_cases h2:k<b.size
   ·have Ad:(k:Int)<(b.size:Int):=by omega
    by_cases he:a[k]=b[k]
    ·have Ae:((a[k].toNat:Int) !=(b[k].toNat:Int))=false:=by rw[he];simp
     have HX:=Hd he;clear he;go_wp2;go_quiet (fail);go_wp2;go_roundw
     case rel=>exact⟨k+1,by omega,by omega,by go_num,Tess.tm2 a b k h1 h2 HE.out HX.out,bd2 HB.out _⟩
     case measure=>simp[intOf];omega
    ·have Ag:a[k].toNat≠b[k].toNat:=fun e=>he (xW.1 e);have Ae:((a[k].toNat:Int) !=(b[k].toNat:Int))=true:=by rw[zj];omega
     have HX:=Hd (Tess.ba9 a b k h1 h2 HE.out he);clear he;go_wp2;go_quiet (fail);go_wp2;go_quiet (fail);go_wp2;go_ret;refine⟨rb2 ?_,bd2 (bd2 HB.out _) _⟩;rw[HX.out]
   ·have Ad:¬(k:Int)<(b.size:Int):=by omega
    have HX:=Hd (Tess.be2 a b k Ab Ac HE.out (.inr (by omega)));go_wp2;go_ret;refine⟨rb2 ?_,HB.out⟩;rw[HX.out]
  ·have Af:¬(k:Int)<(a.size:Int):=by omega
   have HX:=Hd (Tess.be2 a b k Ab Ac HE.out (.inl (by omega)));go_wp2;go_ret;refine⟨rb2 ?_,HB.out⟩;rw[HX.out]
theorem tu2{a b c d:Int}(h:a=c)(k:b=d):(#[.int .u64 a,.int .u64 b]:Array Value)=#[.int .u64 c,.int .u64 d]:=by rw[h,k]
theorem ha5(x y:Nat)(hx:x<18446744073709551616)(hy:y<18446744073709551616)(w:World) :
  Calls Tryz.prog 215 #[.int .u64 x,.int .u64 y] w fun e w'=>e = .returned (.tuple #[.int .u64 (((x+y)%18446744073709551616:Nat):Int),.int .u64 (((x+y)/18446744073709551616:Nat):Int)])/\Below w.heap.size w w':=by
 have HR:=Hd (show IntKind.u64.wrap (IntKind.u64.wrap ((IntKind.u64.wrap (IntKind.u64.wrap ((x:Int)/4294967296+(y:Int)/4294967296)+IntKind.u64.wrap ((x:Int)%4294967296+(y:Int)%4294967296)/4294967296))%4294967296*4294967296)+IntKind.u64.wrap ((x:Int)%4294967296+(y:Int)%4294967296)%4294967296)=(((x+y)%18446744073709551616:Nat):Int)/\IntKind.u64.wrap (IntKind.u64.wrap ((x:Int)/4294967296+(y:Int)/4294967296)+IntKind.u64.wrap ((x:Int)%4294967296+(y:Int)%4294967296)/4294967296)/4294967296=(((x+y)/18446744073709551616:Nat):Int) by simp only[zy];omega)
 go_enter Tryz.func215,Tryz.ntmps215;go_wp2_with (fail);go_ret2;refine⟨zM Ending.returned (zM Value.tuple (tu2 ?_ ?_)),qJ _ _⟩<;>omega
theorem rAa(n m:Int)(hs:WOk (n+m))(w:World):Calls Tryz.prog 191 #[.agg #[.int .i64 (wHi n),.int .u64 (wLo n)],.agg #[.int .i64 (wHi m),.int .u64 (wLo m)]] w fun e w'=>e = .returned (.agg #[.int .i64 (wHi (n+m)),.int .u64 (wLo (n+m))])/\Below w.heap.size w w':=by
 obtain⟨l,hl⟩:∃l:Nat,wLo n=l:=⟨(wLo n).toNat,by unfold wLo;omega⟩
 obtain⟨l',Ad⟩:∃l:Nat,wLo m=l:=⟨(wLo m).toNat,by unfold wLo;omega⟩
 obtain⟨u,hu⟩:∃u:Nat,IntKind.u64.wrap (wHi n)=u:=⟨(wHi n%18446744073709551616).toNat,by rw[wu];omega⟩
 obtain⟨u',Al⟩:∃u:Nat,IntKind.u64.wrap (wHi m)=u:=⟨(wHi m%18446744073709551616).toNat,by rw[wu];omega⟩
 have Ai:=hu;have Ab:=Al;rw[wu]at Ai Ab;obtain⟨c,hc⟩:=XQ ((l+l')/18446744073709551616)
 obtain⟨x,hx⟩:=XQ ((l+l')%18446744073709551616)
 obtain⟨y,hy⟩:=XQ ((u+u')%18446744073709551616)
 obtain⟨z,hz⟩:=XQ ((y+c)%18446744073709551616)
 have Aq:c<=1:=by unfold wLo at hl Ad;omega
 have A1:=Hd (fun W=>ha5 l l' (by unfold wLo at hl;omega) (by unfold wLo at Ad;omega) W);have A2:=Hd (fun W=>ha5 u u' (by omega) (by omega) W);have A3:=Hd (fun W=>ha5 y c (by omega) (by omega) W);rw[hc,hx]at A1;rw[hy]at A2;rw[hz]at A3
 have At:IntKind.i64.wrap (z:Int)=wHi (n+m):=by unfold wLo wHi WOk at *;rw[zU];omega
 have Ag:(x:Int)=wLo (n+m):=by unfold wLo at *;omega
 rw[hl,Ad,<-Ag];generalize wHi (n+m)=o at *;clear hl Ad Ai Ab hx hy hz hc Ag hs;generalize wHi n=h at *;generalize wHi m=h' at *;obtain⟨W0,Ap⟩:=XQ (((w.alloc (.cells #[.int .i64 h,.int .u64 l] 100)).alloc (.cells #[.int .i64 h',.int .u64 l'] 100)).alloc (.cells #[.int .i64 0,.int .u64 0] 100))
 obtain⟨k0,k1,k2,kS,kB⟩:=la5 w (.cells #[.int .i64 h,.int .u64 l] 100) (.cells #[.int .i64 h',.int .u64 l'] 100) (.cells #[.int .i64 0,.int .u64 0] 100);rw[Ap]at k0 k1 k2 kS kB;rw[show w.heap.size+2=w.heap.size+1+1 by omega]at k2;obtain⟨⟨x0,x1⟩,_⟩:=can2 k0;obtain⟨⟨y0,y1⟩,_⟩:=can2 k1;have K0:=Hd k0;have K1:=Hd k1;have K2:=Hd k2;have HB:=Hd kB;have HS:=Hd kS;clear k0 k1 k2 kB kS
 go_enter Tryz.func191,Tryz.ntmps191;go_wp2_with (fail);go_at_call 215;refine(A1.out _).mono ?_;rintro e w1 ⟨rfl,Ac⟩;have Aj:=Hd (Bt HB.out Ac);have An:=Hd ((Ac.block _ (qA.1 K0.out).1).trans K0.out);have Am:=Hd ((Ac.block _ (qA.1 K1.out).1).trans K1.out);have Ah:=Hd ((Ac.block _ (qA.1 K2.out).1).trans K2.out);clear x0 x1 y0 y1 Ac;obtain⟨⟨x0,x1⟩,_⟩:=can2 An.out;obtain⟨⟨y0,y1⟩,_⟩:=can2 Am.out
 go_wp2_with (fail);go_at_call 215;refine(A2.out _).mono ?_;rintro e w2 ⟨rfl,Af⟩;have Ak:=Hd (Bt Aj.out Af);have Aa:=Hd ((Af.block _ (qA.1 Ah.out).1).trans Ah.out);clear x0 x1 y0 y1 Af;go_wp2_with (fail);go_at_call 215;refine(A3.out _).mono ?_;rintro e w3 ⟨rfl,Ae⟩;have Ao:=Hd (Bt Ak.out Ae);have k2:=(Ae.block _ (qA.1 Aa.out).1).trans Aa.out;clear Ae;obtain⟨⟨z0,z1⟩,As,Ar⟩:=can2 k2;go_wp2_with (fail)
 have q1:=qO _ _ 1 _ _ (.int .u64 x) (qO _ _ 0 _ _ (.int .i64 o) k2);obtain⟨⟨e0,e1⟩,_⟩:=can2 q1;refine jW (v:=.agg #[.int .i64 o,.int .u64 x]) (by simp[results,Tryz.results191,go_sem,e0,e1]) rfl ⟨rfl,(Ao.out.setCell (by show _<=w.heap.size+1+1;omega) _).setCell (by show _<=w.heap.size+1+1;omega) _⟩
theorem rAa2(a b:Tess.Val)(w:World)(ha:a.s.size<=maxLen):Calls Tryz.prog 194 #[.agg #[.string a.s,.bool a.null],.agg #[.string b.s,.bool b.null]] w fun e w'=>e = .returned (.bool (Tess.vLt a.c b.c))/\Below w.heap.size w w':=by
 obtain⟨x,xb⟩:=a;obtain⟨y,yb⟩:=b;have HA:=Hd (fun W=>bAa x y W ha);obtain⟨W0,Ac⟩:=XQ ((w.alloc (.cells #[.string x,.bool xb] 47)).alloc (.cells #[.string y,.bool yb] 47))
 obtain⟨k0,k1,kS,kB⟩:=la3 w (.cells #[.string x,.bool xb] 47) (.cells #[.string y,.bool yb] 47);rw[Ac]at k0 k1 kS kB;obtain⟨⟨x0,x1⟩,_⟩:=can2 k0;obtain⟨⟨y0,y1⟩,_⟩:=can2 k1;have HB:=Hd kB;clear k0 k1 kB kS ha;cases xb<;>cases yb
 ·rw[show Tess.vLt (Tess.Val.c ⟨x,false⟩) (Tess.Val.c ⟨y,false⟩)=Tess.bl x y from rfl];go_enter Tryz.func194,Tryz.ntmps194;go_wp2_with (fail);go_at_call 149;refine(HA.out _).mono ?_;rintro e w1 ⟨rfl,Aa⟩;have Ab:=Hd (Bt HB.out Aa);clear Aa;go_wp2_with (fail);go_ret;exact⟨rfl,Ab.out⟩
 all_goals
  go_enter Tryz.func194,Tryz.ntmps194;go_wp2_with (fail);go_ret;exact⟨rfl,HB.out⟩
theorem lnr{α:Type}(lt:α->α->Bool)(l:List α):Tess.Kl.lex lt l []=false:=by cases l<;>rfl
theorem ra60(p q:Nat->Prop)(va vb:Value)(l m:List Tess.Val)(w:World)(ha:RW2 2 valF p w va l)(hb:RW2 2 valF q w vb m)(h1:∀v∈l,v.s.size<=maxLen)(h2:∀v∈m,v.s.size<=maxLen) :
  Calls Tryz.prog 146 #[va,vb] w fun e w'=>e = .returned (.bool (Tess.Kl.lex Tess.vLt (l.map Tess.Val.c) (m.map Tess.Val.c)))/\Below w.heap.size w w':=by
 obtain⟨xa,ca,rfl,At,Ar⟩:=ha;obtain⟨xb,cb,rfl,A0,As⟩:=hb;have A4:l.length<=9223372036854775807:=by unfold maxLen at At;omega
 have Bb:m.length<=9223372036854775807:=by unfold maxLen at A0;omega
 have A6:=Hd Ar;have A3:=Hd As;have Ba:=Hd h1;have A9:=Hd h2;clear Ar As At A0 h1 h2;obtain⟨R,hR⟩:=XQ (Tess.Kl.lex Tess.vLt (l.map Tess.Val.c) (m.map Tess.Val.c))
 rw[hR];have HR:=Hd hR;clear hR;go_enter Tryz.func146,Tryz.ntmps146;go_wp2;go_loopw [5] (fun i wr=>∃k:Nat,k<=l.length/\k<=m.length/\i = .int .i64 k/\R=Tess.Kl.lex Tess.vLt ((l.drop k).map Tess.Val.c) ((m.drop k).map Tess.Val.c)/\Below w.heap.size w wr) (fun i _=>l.length-(intOf i).toNat)
 case atStart=>exact⟨0,qN _,qN _,rfl,HR.out.symm,qJ _ _⟩
 case round=>
  obtain⟨k,Bd,Be,rfl,hr,Az⟩:=hrel;have Al:=Hd hr;have Ac:=Hd Az;clear hr Az;by_cases hlt1:k<l.length
  ·have A7:(k:Int)<(l.length:Int):=by omega
   by_cases hlt2:k<m.length
   ·have A5:(k:Int)<(m.length:Int):=by omega
    obtain⟨b,Ae,rfl,hb,_,g1⟩:=A6.out (by omega);obtain⟨b',Ab,rfl,Am,_,g2⟩:=A3.out (by omega);have Ah:b<wr.heap.size:=qF hb Ac.out.size;have Ad:b'<wr.heap.size:=qF Am Ac.out.size;have G1:=g1 k hlt1;have G2:=g2 k hlt2;have Av:=Ba.out _ (qP hlt1);have Ao:=A9.out _ (qP hlt2);have Ai:=Al.out;rw[zv hlt1,zv hlt2,jN,jN,Tess.Kl.lex]at Ai;have Af:=Hd Ai;clear g1 g2 Ai;generalize l[k]=u1 at *
    generalize m[k]=u2 at *;have Aq:=Hd (fun W=>rAa2 u1 u2 W Av);have Ay:=Hd (fun W=>rAa2 u2 u1 W Ao);obtain⟨r1,Aj⟩:=XQ (Tess.vLt u1.c u2.c)
    obtain⟨r2,An⟩:=XQ (Tess.vLt u2.c u1.c)
    rw[Aj]at Aq;rw[An]at Ay;rw[Aj,An]at Af;obtain⟨x0,x1⟩:=u1;obtain⟨y0,y1⟩:=u2;have r0:wr.cell? ⟨b,Ae+k*2,none⟩=some (.string x0):=(Ac.out.cell (p:=⟨b,Ae+k*2,none⟩) hb).trans (G1 0 (by omega));have t0:wr.cell? ⟨b',Ab+k*2,none⟩=some (.string y0):=(Ac.out.cell (p:=⟨b',Ab+k*2,none⟩) Am).trans (G2 0 (by omega))
    have q1:wr.cell? ⟨b,Ae+k*2+1,none⟩=some (.bool x1):=(Ac.out.cell (p:=⟨b,Ae+k*2+1,none⟩) hb).trans (G1 1 (by omega));have t1:wr.cell? ⟨b',Ab+k*2+1,none⟩=some (.bool y1):=(Ac.out.cell (p:=⟨b',Ab+k*2+1,none⟩) Am).trans (G2 1 (by omega));clear G1 G2 Aj An Av Ao;go_wp2_with (fail)
    refine Flow.wrf 8 (Flow.sp3 [.inl ?_,.inl ?_,.inl ?_,.inl ?_,.inl ?_,.inl ?_,.inl ?_,.inl ?_]) (by kernel_rfl) (by kernel_rfl) ?_ ?_;rotate_left 8
    ·refine Flow.sm2 ?_
     repeat(first|exact Flow.ln2|refine Flow.li2 ?_)
    all_goals try simp only[qL,qY,qM,qV]
    iterate 8 (refine Flow.tvK rfl (fun K hK=>⟨fun w hw hG=>?_,?_⟩);(have Bc:=Flow.bc4 hw;clear hG hw;unfold Flow.Runs Flow.yields;go_simp;try rfl);go_simp;refine hK _ ?_;clear hK K)
    refine Flow.tn2 fun w2 hw2 hG=>?_;clear hG;have A2:=Hd (Bt Ac.out hw2);have Ag:=Hd hw2;clear hw2;go_wp2_with (fail);go_at_call 194;refine(Aq.out _).mono ?_;rintro e w3 ⟨rfl,Ak⟩;have Ax:=Hd (Bt A2.out Ak);have Aa:=Bt Ag.out Ak;replace r0:=(Aa.cell (p:=⟨b,Ae+k*2,none⟩) Ah).trans r0;replace t0:=(Aa.cell (p:=⟨b',Ab+k*2,none⟩) Ad).trans t0;replace q1:=(Aa.cell (p:=⟨b,Ae+k*2+1,none⟩) Ah).trans q1
    replace t1:=(Aa.cell (p:=⟨b',Ab+k*2+1,none⟩) Ad).trans t1;have A8:b<w3.heap.size:=qF Ah Aa.size;have Ap:b'<w3.heap.size:=qF Ad Aa.size;clear Ak Aa;cases r1
    rotate_left
    ·go_wp2_with (fail);go_ret;exact⟨rb2 (by rw[Af.out,Bool.true_or]),Ax.out⟩
    go_wp2_with (fail);refine Flow.wrf 8 (Flow.sp3 [.inl ?_,.inl ?_,.inl ?_,.inl ?_,.inl ?_,.inl ?_,.inl ?_,.inl ?_]) (by kernel_rfl) (by kernel_rfl) ?_ ?_;rotate_left 8
    ·refine Flow.sm2 ?_
     repeat(first|exact Flow.ln2|refine Flow.li2 ?_)
    all_goals try simp only[qL,qY,qM,qV]
    iterate 8 (refine Flow.tvK rfl (fun K hK=>⟨fun w hw hG=>?_,?_⟩);(have Bc:=Flow.bc4 hw;clear hG hw;unfold Flow.Runs Flow.yields;go_simp;try rfl);go_simp;refine hK _ ?_;clear hK K)
    refine Flow.tn2 fun w4 hw4 hG=>?_;clear hG;have A1:=Hd (Bt Ax.out hw4);clear hw4;go_wp2_with (fail);go_at_call 194;refine(Ay.out _).mono ?_;rintro e w5 ⟨rfl,Aw⟩;have Au:=Hd (Bt A1.out Aw);clear Aw;cases r2
    rotate_left
    ·go_wp2_with (fail);go_ret;exact⟨rb2 (by rw[Af.out];rfl),Au.out⟩
    go_wp2_with (fail);go_roundw
    case rel=>exact⟨k+1,by omega,by omega,by go_num,Af.out,Au.out⟩
    case measure=>simp[intOf];omega
   ·have A5:¬(k:Int)<(m.length:Int):=by omega
    go_wp2_with (fail);go_ret;refine⟨rb2 ?_,Ac.out⟩;rw[Al.out,xO (show m.length<=k by omega),qAt,lnr];exact qG (by omega)
  ·have A7:¬(k:Int)<(l.length:Int):=by omega
   go_wp2_with (fail);go_ret;refine⟨rb2 ?_,Ac.out⟩;rw[Al.out,xO (show l.length<=k by omega),qAt];by_cases hlt2:k<m.length
   ·rw[zv hlt2];exact decide_eq_true (by omega)
   ·rw[xO (show m.length<=k by omega)];exact qG (by omega)
