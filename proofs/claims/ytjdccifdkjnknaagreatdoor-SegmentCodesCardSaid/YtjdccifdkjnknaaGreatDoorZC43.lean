/- Joined. -/
import Derived.Test.YtjdccifdkjnknaaGreatDoorZC42
set_option maxRecDepth 100000
set_option maxHeartbeats 4000000
namespace Go.Proofs.Q9
open Go.RowKit Go.Sort
theorem rOa(n:Int)(h:I64 n)(w:World):Calls Tryz.prog 190 #[.int .i64 n] w fun e w'=>e = .returned (.agg #[.int .i64 (wHi n),.int .u64 (wLo n)])/\Below w.heap.size w w':=by
 have hl:IntKind.u64.wrap n=wLo n:=wu n;by_cases h0:n<0
 ·have hh:wHi n = -1:=by unfold I64 at h;unfold wHi;omega
  rw[hh];generalize wLo n=z at *;go_enter Tryz.func190,Tryz.ntmps190;go_wp2;have hB:=(la2 w (.cells #[.int .i64 (-1),.int .u64 z] 100)).2.2;have hl:=(la2 w (.cells #[.int .i64 (-1),.int .u64 z] 100)).1;have e0:=qT _ w.heap.size 0 _ _ _ hl;have e1:=qT _ w.heap.size 1 _ _ _ hl;exact jW (v:=.agg #[.int .i64 (-1),.int .u64 z]) (by simp[results,Tryz.results190,go_sem]) rfl ⟨rfl,hB⟩
 ·have hh:wHi n=0:=by unfold I64 at h;unfold wHi;omega
  rw[hh];generalize wLo n=z at *;go_enter Tryz.func190,Tryz.ntmps190;go_wp2;have hB:=(la2 w (.cells #[.int .i64 0,.int .u64 z] 100)).2.2;have hl:=(la2 w (.cells #[.int .i64 0,.int .u64 z] 100)).1;have e0:=qT _ w.heap.size 0 _ _ _ hl;have e1:=qT _ w.heap.size 1 _ _ _ hl;exact jW (v:=.agg #[.int .i64 0,.int .u64 z]) (by simp[results,Tryz.results190,go_sem]) rfl ⟨rfl,hB⟩
theorem rNa(n:Int)(hn:WOk n)(hs:WOk (-n))(w:World):Calls Tryz.prog 217 #[.agg #[.int .i64 (wHi n),.int .u64 (wLo n)]] w fun e w'=>e = .returned (.agg #[.int .i64 (wHi (-n)),.int .u64 (wLo (-n))])/\Below w.heap.size w w':=by
 have hA:=rAa (-1-n) 1 (by rw[show -1-n+1 = -n by omega];exact hs);rw[show -1-n+1 = -n by omega]at hA;have hO:=rOa 1 (by unfold I64;omega);have e1:IntKind.i64.wrap (-1-wHi n)=wHi (-1-n):=by rw[zU];unfold WOk at hn;unfold wHi;omega
 have e2:IntKind.u64.wrap (18446744073709551615-wLo n)=wLo (-1-n):=by rw[zy];unfold wLo;omega
 have HA:=Hd hA;have HO:=Hd hO;clear hA hO hn hs;generalize wHi (-n)=z1 at *;generalize wLo (-n)=z2 at *;generalize wHi (-1-n)=y1 at *;generalize wLo (-1-n)=y2 at *;generalize wHi n=x1 at *;generalize wLo n=x2 at *;generalize wHi 1=o1 at *;generalize wLo 1=o2 at *;obtain⟨W0,Ag⟩:=XQ ((w.alloc (.cells #[.int .i64 x1,.int .u64 x2] 100)).alloc (.cells #[.int .i64 0,.int .u64 0] 100))
 obtain⟨k0,k1,kS,kB⟩:=la3 w (.cells #[.int .i64 x1,.int .u64 x2] 100) (.cells #[.int .i64 0,.int .u64 0] 100);rw[Ag]at k0 k1 kS kB;obtain⟨⟨x0,x1⟩,_⟩:=can2 k0;have HB:=Hd kB;have HK:=Hd k1;have Ah:w.heap.size<W0.heap.size:=by omega
 have Ad:w.heap.size+1<W0.heap.size:=by omega
 have Ac:=Hd Ad;clear kS kB k0 k1;go_enter Tryz.func217,Tryz.ntmps217;go_wp2_with (fail);refine Flow.wrf 8 (Flow.sp3 [.inl ?_,.inl ?_,.inl ?_,.inl ?_,.inl ?_,.inl ?_,.inl ?_,.inl ?_]) (by kernel_rfl) (by kernel_rfl) ?_ ?_;rotate_left 8
 ·refine Flow.sm2 ?_
  repeat(first|exact Flow.ln2|refine Flow.li2 ?_)
 all_goals try simp only[qL,qY,qM,qV]
 iterate 7 (refine Flow.tvK rfl (fun K hK=>⟨fun w hw hG=>?_,?_⟩);(have Ak:=Flow.bc4 hw;clear hG hw;unfold Flow.Runs Flow.yields;go_simp;try rfl);go_simp;refine hK _ ?_;clear hK K)
 (refine Flow.tvK rfl (fun K hK=>⟨fun w hw hG=>?_,?_⟩);(clear hG hw;unfold Flow.Runs Flow.yields;go_simp;refine(HO.out _).mono ?_;rintro e w5 ⟨rfl,Ab⟩;first|exact⟨_,rfl,Ab,rfl⟩|(refine⟨?_,Ab⟩;rfl));go_simp;refine hK _ ?_;clear hK K)
 refine Flow.tn2 fun w5 hw5 hG=>?_;clear hG x0 x1;have Af:=Hd (Bt HB.out hw5);have k1:=(hw5.block _ Ac.out).trans HK.out;have K1:=Hd k1;clear hw5 k1;go_simp;go_wp2_with (fail);go_at_call 191;refine(HA.out _).mono ?_;rintro e w6 ⟨rfl,Aa⟩;have Ae:=Hd (Bt Af.out Aa);have k2:=(Aa.block _ (qA.1 K1.out).1).trans K1.out;clear Aa;obtain⟨⟨q0,q1⟩,Ai,Aj⟩:=can2 k2;go_wp2_with (fail)
 have q1:=qO _ _ 1 _ _ (.int .u64 z2) (qO _ _ 0 _ _ (.int .i64 z1) k2);obtain⟨⟨e0,e1⟩,_⟩:=can2 q1;exact jW (v:=.agg #[.int .i64 z1,.int .u64 z2]) (by simp[results,Tryz.results217,go_sem,e0,e1]) rfl ⟨rfl,(Ae.out.setCell (by show _<=w.heap.size+1;omega) _).setCell (by show _<=w.heap.size+1;omega) _⟩
theorem rSa(m k:Nat)(hk:k<=127)(hm:m*2^k<170141183460469231731687303715884105728)(w:World):Calls Tryz.prog 216 #[.agg #[.int .i64 (wHi m),.int .u64 (wLo m)],.int .i64 k] w fun e w'=>e = .returned (.agg #[.int .i64 (wHi ((m*2^k:Nat):Int)),.int .u64 (wLo ((m*2^k:Nat):Int))])/\Below w.heap.size w w':=by
 have hA:∀j,j<k->∀W,Calls Tryz.prog 191 #[.agg #[.int .i64 (wHi ((m*2^j:Nat):Int)),.int .u64 (wLo ((m*2^j:Nat):Int))],.agg #[.int .i64 (wHi ((m*2^j:Nat):Int)),.int .u64 (wLo ((m*2^j:Nat):Int))]] W fun e w'=>e = .returned (.agg #[.int .i64 (wHi ((m*2^(j+1):Nat):Int)),.int .u64 (wLo ((m*2^(j+1):Nat):Int))])/\Below W.heap.size W w':=by
  intro j hj W;have h1:m*2^(j+1)<=m*2^k:=Nat.mul_le_mul_left _ (zf (by decide) hj);have h2:m*2^(j+1)=m*2^j+m*2^j:=by rw[yN,<-xC];omega
  have:=rAa ((m*2^j:Nat):Int) ((m*2^j:Nat):Int) (by unfold WOk;omega) W;rwa [show((m*2^j:Nat):Int)+((m*2^j:Nat):Int)=((m*2^(j+1):Nat):Int) by rw[h2];omega]at this
 have h0:m=m*2^0:=by simp
 obtain⟨f,hf⟩:∃f:Nat->Int,∀j,f j=wHi ((m*2^j:Nat):Int):=⟨_,fun _=>rfl⟩
 obtain⟨g,hg⟩:∃f:Nat->Int,∀j,f j=wLo ((m*2^j:Nat):Int):=⟨_,fun _=>rfl⟩
 have Ah:wHi (m:Int)=f 0:=by rw[hf 0,<-h0]
 have Af:wLo (m:Int)=g 0:=by rw[hg 0,<-h0]
 simp only[<-hf,<-hg]at hA;rw[Ah,Af,<-hf k,<-hg k];have HA:=Hd hA;clear hA hf hg Ah Af h0 hm;have b1:¬(k:Int)<0:=by omega
 have b2:¬(127:Int)<(k:Int):=by omega
 obtain⟨W0,Ao⟩:=XQ ((w.alloc (.cells #[.int .i64 (f 0),.int .u64 (g 0)] 100)).alloc (.cells #[.int .i64 0,.int .u64 0] 100))
 obtain⟨k0,k1,kS,kB⟩:=la3 w (.cells #[.int .i64 (f 0),.int .u64 (g 0)] 100) (.cells #[.int .i64 0,.int .u64 0] 100);rw[Ao]at k0 k1 kS kB;have K0:=Hd k0;have K1:=Hd k1;have HB:=Hd kB;clear kS kB k0 k1;go_enter Tryz.func216,Tryz.ntmps216;go_wp2_with (fail)
 go_loopw [5] (fun i wr=>∃j:Nat,j<=k/\i = .int .i64 j/\wr.heap[w.heap.size]?=some (.cells #[.int .i64 (f j),.int .u64 (g j)] 100 (0,0))/\wr.heap[w.heap.size+1]?=some (.cells #[.int .i64 0,.int .u64 0] 100 (0,0))/\Below w.heap.size w wr) (fun i _=>k-(intOf i).toNat)
 case atStart=>exact⟨0,qN _,rfl,K0.out,K1.out,HB.out⟩
 case round=>
  obtain⟨j,hj,rfl,h0,h1,hB⟩:=hrel;have Ag:=Hd hB;have Ab:=Hd h1;have Ai:=Hd h0;obtain⟨⟨x0,x1⟩,Ad,Ae⟩:=can2 h0;clear hB h1 h0;by_cases hlt:j<k
  ·have Ac:(j:Int)<(k:Int):=by omega
   go_wp2_with (fail);go_at_call 191;refine(HA.out j hlt _).mono ?_;rintro e w6 ⟨rfl,Aa⟩;have An:=Hd (Bt Ag.out Aa);have k2:=(Aa.block _ (qA.1 Ai.out).1).trans Ai.out;have Ak:=Hd ((Aa.block _ (qA.1 Ab.out).1).trans Ab.out);have Am:=Hd (qO _ _ 1 _ _ (.int .u64 (g (j+1))) (qO _ _ 0 _ _ (.int .i64 (f (j+1))) k2))
   have Aj:=Hd ((qW _ ⟨w.heap.size,1,none⟩ (w.heap.size+1) (.int .u64 (g (j+1))) (by show _≠w.heap.size;omega)).trans ((qW w6 ⟨w.heap.size,0,none⟩ (w.heap.size+1) (.int .i64 (f (j+1))) (by show _≠w.heap.size;omega)).trans Ak.out));have Al:=Hd ((An.out.setCell (p:=⟨w.heap.size,0,none⟩) (qC _) (.int .i64 (f (j+1)))).setCell (p:=⟨w.heap.size,1,none⟩) (qC _) (.int .u64 (g (j+1))));clear Aa x0 x1 Ad Ae
   obtain⟨⟨x0,x1⟩,Ad,Ae⟩:=can2 k2;clear k2;go_wp2_with (fail);go_roundw
   case rel=>exact⟨j+1,by omega,by go_num,Am.out,Aj.out,Al.out⟩
   case measure=>simp[intOf];omega
  ·obtain rfl:j=k:=by omega
   have Ac:¬(j:Int)<(j:Int):=by omega
   obtain⟨⟨y0,y1⟩,Ap,Aq⟩:=can2 Ab.out;go_wp2_with (fail);have q1:=qO _ _ 1 _ _ (.int .u64 (g j)) (qO _ _ 0 _ _ (.int .i64 (f j)) Ab.out);obtain⟨⟨e0,e1⟩,_⟩:=can2 q1;exact jW (v:=.agg #[.int .i64 (f j),.int .u64 (g j)]) (by simp[results,Tryz.results216,go_sem,e0,e1]) rfl ⟨rfl,(Ag.out.setCell (by show _<=w.heap.size+1;omega) _).setCell (by show _<=w.heap.size+1;omega) _⟩
theorem ms4(m u i:Nat):m*(u%2^(i+1))=m*(u%2^i)+m*2^i*(u/2^i%2):=by rw[Nat.mod_pow_succ,Nat.mul_add,xC]
theorem ml4(n:Int)(u m:Nat)(h:I64 n)(hu:(u:Int)=n%18446744073709551616):n*m=((m*(u%2^63):Nat):Int)-((m*2^63*(u/2^63%2):Nat):Int):=by
 have e:n=((u%2^63:Nat):Int)-((2^63*(u/2^63%2):Nat):Int):=by unfold I64 at h;omega
 rw[xC,xZ m (u%2^63),xZ m (2^63*_),<-Int.mul_sub,<-e,Int.mul_comm]
theorem rMa(n:Int)(m:Nat)(hn:I64 n)(hm:m<=1000000)(w:World):Calls Tryz.prog 192 #[.int .i64 n,.int .i64 m] w fun e w'=>e = .returned (.agg #[.int .i64 (wHi (n*m)),.int .u64 (wLo (n*m))])/\Below w.heap.size w w':=by
 obtain⟨u,hu⟩:∃u:Nat,IntKind.u64.wrap n=u:=⟨(n%18446744073709551616).toNat,by rw[wu];omega⟩
 have Bl:(u:Int)=n%18446744073709551616:=by rw[<-hu,wu]
 have hl:=ml4 n u m hn Bl
 have hp:∀i,i<=63->m*2^i<9223372036854775808000001:=fun i hi=>by have h1:2^i<=2^63:=zf (by decide) hi;have h2:=yh hm h1;omega
 have hq:∀i,m*(u%2^i)<=m*2^i:=fun i=>Nat.mul_le_mul_left _ (yV (yX _ (jh i)));obtain⟨F,hF⟩:∃F:Nat->Int,∀i,F i=if i<=63 then((m*(u%2^i):Nat):Int)else n*m:=⟨_,fun _=>rfl⟩
 have Ay:F 0=0:=by rw[hF,qR (by omega)];simp[Nat.mod_one]
 have Ag:F 64=n*m:=by rw[hF,qH (by omega)]
 have Bo:∀i,i<64->u/2^i%2=0->F (i+1)=F i:=fun i hi hb=>by
  rw[hF,hF,qR (show i<=63 by omega)];by_cases h:i=63
  ·subst h;rw[qH (by omega),hl,hb];simp
  ·rw[qR (by omega),ms4,hb];simp
 have Ah:∀i,i<63->u/2^i%2=1->F (i+1)=F i+((m*2^i:Nat):Int):=fun i hi hb=>by rw[hF,hF,qR (show i<=63 by omega),qR (by omega),ms4,hb,yY];omega
 have Ad:u/2^63%2=1->F 64=F 63 + -((m*2^63:Nat):Int):=fun hb=>by rw[Ag,hF,qR (by omega),hl,hb,yY];omega
 have hw:∀i,i<=63->WOk (F i):=fun i hi=>by rw[hF,qR hi];have:=hp i hi;have:=hq i;unfold WOk;omega
 have Ap:u/2^63%2=1->WOk (F 64):=fun hb=>by rw[Ad hb,hF,qR (by omega)];have:=hp 63 (by omega);have:=hq 63;unfold WOk;omega
 rw[<-Ag];have HO:=Hd (fun W=>rOa (m:Int) (by unfold I64;omega) W);have Br:=Hd (fun i (hi:i<=63) W=>rSa m i (by omega) (by have:=hp i hi;omega) W);have HN:=Hd (fun W=>rNa ((m*2^63:Nat):Int) (by have:=hp 63 (by omega);unfold WOk;omega) (by have:=hp 63 (by omega);unfold WOk;omega) W)
 have HA:=Hd (fun i (hi:i<63) (hb:u/2^i%2=1) W=>by
  have:=rAa (F i) ((m*2^i:Nat):Int) (by rw[<-Ah i hi hb];exact hw _ (by omega)) W
  rwa [<-Ah i hi hb]at this)
 have Ao:=Hd (fun(hb:u/2^63%2=1) W=>by
  have:=rAa (F 63) (-((m*2^63:Nat):Int)) (by rw[<-Ad hb];exact Ap hb) W
  rwa [<-Ad hb]at this)
 have Ax:=Hd Bo;clear Bo Ah Ad hw Ap hF Ag hl hp hq Bl hn hm;obtain⟨f,hf⟩:∃f:Nat->Int,∀j,f j=wHi (F j):=⟨_,fun _=>rfl⟩
 obtain⟨g,hg⟩:∃f:Nat->Int,∀j,f j=wLo (F j):=⟨_,fun _=>rfl⟩
 have Bx:f 0=0:=by rw[hf,Ay];rfl
 have B1:g 0=0:=by rw[hg,Ay];rfl
 have B0:=Hd (fun i (hi:i<64) (hb:u/2^i%2=0)=>show f (i+1)=f i/\g (i+1)=g i from⟨by rw[hf,hf,Ax.out i hi hb],by rw[hg,hg,Ax.out i hi hb]⟩);obtain⟨p,hp⟩:∃f:Nat->Int,∀j,f j=wHi ((m*2^j:Nat):Int):=⟨_,fun _=>rfl⟩
 obtain⟨q,hq⟩:∃f:Nat->Int,∀j,f j=wLo ((m*2^j:Nat):Int):=⟨_,fun _=>rfl⟩
 simp only[<-hf,<-hg,<-hp,<-hq]at HA Br HN Ao⊢;generalize wHi (-((m*2^63:Nat):Int))=y1 at *;generalize wLo (-((m*2^63:Nat):Int))=y2 at *;generalize wHi (m:Int)=z1 at *;generalize wLo (m:Int)=z2 at *;clear Ax hf hg hp hq Ay F;obtain⟨k0,k1,kS,kB⟩:=la3 w (.cells #[.int .i64 0,.int .u64 0] 100) (.cells #[.int .i64 0,.int .u64 0] 100);have K0:=Hd k0;have K1:=Hd k1;have HB:=Hd kB;clear kS kB k0 k1
 go_enter Tryz.func192,Tryz.ntmps192;go_wp2_with (fail);generalize (w.alloc (.cells #[.int .i64 0,.int .u64 0] 100)).alloc (.cells #[.int .i64 0,.int .u64 0] 100)=W0 at *
 go_loopw [6] (fun i wr=>∃j:Nat,j<=64/\i = .int .i64 j/\wr.heap[w.heap.size]?=some (.cells #[.int .i64 0,.int .u64 0] 100 (0,0))/\wr.heap[w.heap.size+1]?=some (.cells #[.int .i64 (f j),.int .u64 (g j)] 100 (0,0))/\Below w.heap.size w wr) (fun i _=>64-(intOf i).toNat)
 case atStart=>exact⟨0,qN _,rfl,K0.out,by rw[Bx,B1];exact K1.out,HB.out⟩
 case round=>
  obtain⟨j,hj,rfl,h0,h1,hB⟩:=hrel;have A3:=Hd hB;have Be:=Hd h1;have Au:=Hd h0;have A9:=Hd (qA.1 h1).1;clear hB h1 h0;by_cases hlt:j<64
  ·have A1:(j:Int)<64:=by omega
   rcases yR (u/2^j)with hb|hb
   ·have Az:(((u:Int)/2^j).tmod 2==1)=false:=by
     rw[show((u:Int)/2^j)=((u/2^j:Nat):Int) by simp,show((u/2^j:Nat):Int).tmod 2=((u/2^j%2:Nat):Int)from rfl,hb];rfl
    obtain⟨n1,n2⟩:=B0.out j hlt hb;have Bj:=Hd (And.intro n1 n2);clear n1 n2;go_wp2_with (fail);go_roundw
    case rel=>exact⟨j+1,by omega,by go_num,Au.out,by rw[Bj.out.1,Bj.out.2];exact Be.out,A3.out⟩
    case measure=>simp[intOf];omega
   ·have Az:(((u:Int)/2^j).tmod 2==1)=true:=by
     rw[show((u:Int)/2^j)=((u/2^j:Nat):Int) by simp,show((u/2^j:Nat):Int).tmod 2=((u/2^j%2:Nat):Int)from rfl,hb];rfl
    have Bi:=Hd hb;clear hb;go_wp2_with (fail);go_at_call 190;refine(HO.out _).mono ?_;rintro e w1 ⟨rfl,An⟩;have By:=Hd (Bt A3.out An);have Bf:=Hd ((An.block _ (qAv (zQ _) A9.out)).trans Au.out);have A2:=Hd ((An.block _ A9.out).trans Be.out);have Ai:=Hd (qF A9.out An.size);clear An;go_wp2_with (fail);go_at_call 216;refine(Br.out j (by omega) _).mono ?_;rintro e w2 ⟨rfl,As⟩
    have B2:=Hd (Bt By.out As);have A0:=Hd ((As.block _ (qAv (zQ _) Ai.out)).trans Bf.out);have A4:=Hd ((As.block _ Ai.out).trans A2.out);have Ac:=Hd (qF Ai.out As.size);clear As;obtain⟨W3,Bu⟩:=XQ (w2.alloc (.cells #[.int .i64 (p j),.int .u64 (q j)] 100))
    obtain⟨k3,Bb,Am⟩:=la2 w2 (.cells #[.int .i64 (p j),.int .u64 (q j)] 100);rw[Bu]at k3 Bb Am;have Bm:=Hd (Bt B2.out Am);have Ar:=Hd ((Am.block _ (qAv (zQ _) Ac.out)).trans A0.out);have Al:=Hd ((Am.block _ Ac.out).trans A4.out);have Aa:=Hd (qF Ac.out Am.size);have Bq:=Hd k3;have B4:=Hd Bb;clear Am Bb;by_cases h63:j=63
    ·subst h63;have Bc:(((63:Nat):Int)==63)=true:=by decide
     obtain⟨⟨x0,x1⟩,Ae,Af⟩:=can2 k3;clear k3;go_wp2_with (fail);go_at_call 217;refine(HN.out _).mono ?_;rintro e w4 ⟨rfl,Ab⟩;have A7:=Hd (Bt Bm.out Ab);have Ak:=Hd ((Ab.block _ (qAv (zQ _) Aa.out)).trans Ar.out);have Aw:=Hd ((Ab.block _ Aa.out).trans Al.out);have Bs:=Hd (qF Aa.out Ab.size);have k4:=(Ab.block _ (qA.1 Bq.out).1).trans Bq.out;clear x0 x1 Ae Af;obtain⟨⟨x0,x1⟩,Ae,Af⟩:=can2 k4
     have Bh:=Hd (qO _ _ 1 _ _ (.int .u64 y2) (qO _ _ 0 _ _ (.int .i64 y1) k4));have A8:=Hd (fun B (hb:B≠w2.heap.size)=>(qW (w4.setCell ⟨w2.heap.size,0,none⟩ (.int .i64 y1)) ⟨w2.heap.size,1,none⟩ B (.int .u64 y2) hb).trans (qW w4 ⟨w2.heap.size,0,none⟩ B (.int .i64 y1) hb));have Bv:=Ac.out
     have Bp:=Hd ((A7.out.setCell (p:=⟨w2.heap.size,0,none⟩) (by show _<=w2.heap.size;omega) (.int .i64 y1)).setCell (p:=⟨w2.heap.size,1,none⟩) (by show _<=w2.heap.size;omega) (.int .u64 y2));obtain⟨W5,Bg⟩:=XQ ((w4.setCell ⟨w2.heap.size,0,none⟩ (.int .i64 y1)).setCell ⟨w2.heap.size,1,none⟩ (.int .u64 y2))
     rw[Bg]at Bh A8 Bp;have Aj:=Hd ((A8.out (w.heap.size+1) (by omega)).trans Aw.out);have A5:=Hd ((A8.out w.heap.size (by omega)).trans Ak.out);clear Bv k4 Ab;obtain⟨⟨z3,z4⟩,_⟩:=can2 Bh.out;obtain⟨⟨z5,z6⟩,Bz,B3⟩:=can2 Aj.out;go_wp2_with (fail);go_at_call 191;refine(Ao.out Bi.out _).mono ?_;rintro e w6 ⟨rfl,At⟩;have Bw:=Hd (Bt Bp.out At);have Aq:=Hd (qA.1 Aj.out).1
     have A6:=Hd ((At.block _ (qAv (zQ _) Aq.out)).trans A5.out);have k2:=(At.block _ Aq.out).trans Aj.out;have Ba:=Hd (qO _ _ 1 _ _ (.int .u64 (g 64)) (qO _ _ 0 _ _ (.int .i64 (f 64)) k2))
     have Av:=Hd ((qW _ ⟨w.heap.size+1,1,none⟩ w.heap.size (.int .u64 (g 64)) (by show _≠w.heap.size+1;omega)).trans ((qW w6 ⟨w.heap.size+1,0,none⟩ w.heap.size (.int .i64 (f 64)) (by show _≠w.heap.size+1;omega)).trans A6.out))
     have Bd:=Hd ((Bw.out.setCell (p:=⟨w.heap.size+1,0,none⟩) (by show _<=w.heap.size+1;omega) (.int .i64 (f 64))).setCell (p:=⟨w.heap.size+1,1,none⟩) (by show _<=w.heap.size+1;omega) (.int .u64 (g 64)));clear At z3 z4 z5 z6 Bz B3 x0 x1 Ae Af Bg;obtain⟨⟨x0,x1⟩,Ae,Af⟩:=can2 k2;clear k2;go_wp2_with (fail);go_roundw
     case rel=>exact⟨64,by omega,by go_num,Av.out,Ba.out,Bd.out⟩
     case measure=>simp[intOf]
    ·have Bc:((j:Int)==63)=false:=by rw[qi];omega
     obtain⟨⟨x0,x1⟩,Ae,Af⟩:=can2 k3;obtain⟨⟨y0,y1⟩,Bk,Bn⟩:=can2 Al.out;clear k3;go_wp2_with (fail);go_at_call 191;refine(HA.out j (by omega) Bi.out _).mono ?_;rintro e w4 ⟨rfl,Ab⟩;have A7:=Hd (Bt Bm.out Ab);have Ak:=Hd ((Ab.block _ (qAv (zQ _) Aa.out)).trans Ar.out);have k2:=(Ab.block _ Aa.out).trans Al.out;have Ba:=Hd (qO _ _ 1 _ _ (.int .u64 (g (j+1))) (qO _ _ 0 _ _ (.int .i64 (f (j+1))) k2))
     have Av:=Hd ((qW _ ⟨w.heap.size+1,1,none⟩ w.heap.size (.int .u64 (g (j+1))) (by show _≠w.heap.size+1;omega)).trans ((qW w4 ⟨w.heap.size+1,0,none⟩ w.heap.size (.int .i64 (f (j+1))) (by show _≠w.heap.size+1;omega)).trans Ak.out))
     have Bd:=Hd ((A7.out.setCell (p:=⟨w.heap.size+1,0,none⟩) (by show _<=w.heap.size+1;omega) (.int .i64 (f (j+1)))).setCell (p:=⟨w.heap.size+1,1,none⟩) (by show _<=w.heap.size+1;omega) (.int .u64 (g (j+1))));clear Ab x0 x1 Ae Af y0 y1 Bk Bn;obtain⟨⟨x0,x1⟩,Ae,Af⟩:=can2 k2;clear k2;go_wp2_with (fail);go_roundw
     case rel=>exact⟨j+1,by omega,by go_num,Av.out,Ba.out,Bd.out⟩
     case measure=>simp[intOf];omega
  ·obtain rfl:j=64:=by omega
   have A1:¬((64:Nat):Int)<64:=by decide
   obtain⟨⟨x0,x1⟩,Ae,Af⟩:=can2 Au.out;obtain⟨⟨y0,y1⟩,Bk,Bn⟩:=can2 Be.out;go_wp2_with (fail);have q1:=qO _ _ 1 _ _ (.int .u64 (g 64)) (qO _ _ 0 _ _ (.int .i64 (f 64)) Au.out);obtain⟨⟨e0,e1⟩,_⟩:=can2 q1;exact jW (v:=.agg #[.int .i64 (f 64),.int .u64 (g 64)]) (by simp[results,Tryz.results192,go_sem,e0,e1]) rfl ⟨rfl,(A3.out.setCell (qC _) _).setCell (qC _) _⟩
theorem rCa(n m:Int)(w:World):Calls Tryz.prog 193 #[.agg #[.int .i64 (wHi n),.int .u64 (wLo n)],.agg #[.int .i64 (wHi m),.int .u64 (wLo m)]] w fun e w'=>e = .returned (.int .i64 (cmpI n m))/\Below w.heap.size w w':=by
 have hk:=cw2 n m;generalize cmpI n m=z at *;generalize wHi n=a1 at *;generalize wHi m=a2 at *;generalize wLo n=b1 at *;generalize wLo m=b2 at *
 have Aa:z=if a1=a2/\b1=b2 then 0 else if a1<a2∨a1=a2/\b1<b2 then -1 else 1:=by rw[<-hk];unfold cmpI;by_cases h1:a1=a2<;>by_cases h2:b1=b2<;>by_cases h3:a1<a2<;>by_cases h4:b1<b2<;>by_cases h5:a2<a1<;>by_cases h6:b2<b1<;>simp[*]<;>omega
 have HC:=Hd Aa;clear Aa hk;obtain⟨W0,Ab⟩:=XQ ((w.alloc (.cells #[.int .i64 a1,.int .u64 b1] 100)).alloc (.cells #[.int .i64 a2,.int .u64 b2] 100))
 obtain⟨k0,k1,kS,kB⟩:=la3 w (.cells #[.int .i64 a1,.int .u64 b1] 100) (.cells #[.int .i64 a2,.int .u64 b2] 100);rw[Ab]at k0 k1 kS kB;obtain⟨⟨x0,x1⟩,_⟩:=can2 k0;obtain⟨⟨y0,y1⟩,_⟩:=can2 k1;have HB:=Hd kB;clear kS kB k0 k1;go_enter Tryz.func193,Tryz.ntmps193;go_wp2_with (fail)
 all_goals
  go_ret;refine⟨?_,HB.out⟩;rw[HC.out]
  simp_all
def nW(N:Nat)(v:Value)(W:World):Prop:=∃b,v = .pointer (some ⟨b,0,none⟩)/\N<=b/\W.heap[b]?=some (.cells #[.int .i64 0,.int .u64 0] 100 (0,0))
theorem nWm(N:Nat):Flow.Spec.mono (.inr (nW N)):=fun _ _ _ h hb=>by obtain⟨b,e,h1,h2⟩:=h;exact⟨b,e,h1,(hb.block _ (qA.1 h2).1).trans h2⟩
theorem nWm2{N:Nat}(w:World)(h:N<=w.heap.size):nW N (.pointer (some ⟨w.heap.size,0,none⟩)) (w.alloc (.cells #[.int .i64 0,.int .u64 0] 100)):=⟨_,rfl,h,(la2 w _).1⟩
theorem iSg{s n l h:Int}(hlt:h<l):Tess.iSP s n l h=false:=by
 unfold Tess.iSP;split
 ·rw[qG (by omega)];rfl
 ·rw[qG (by omega)];rfl
theorem ra56(s n l h:Int)(hn:1<=n/\n<=1000000)(hl:I64 l)(hh:I64 h)(w:World) :
  Calls Tryz.prog 145 #[.agg #[.int .i64 (wHi s),.int .u64 (wLo s)],.int .i64 n,.int .i64 l,.int .i64 h] w fun e w'=>e = .returned (.bool (Tess.iSP s n l h))/\Below w.heap.size w w':=by
 by_cases As:h<l
 ·rw[iSg As];clear hn hl hh;generalize wHi s=s1;generalize wLo s=s2;obtain⟨k0,kS,kB⟩:=la2 w (.cells #[.int .i64 s1,.int .u64 s2] 100);have HB:=Hd kB;clear k0 kS kB;go_enter Tryz.func145,Tryz.ntmps145;go_wp2_with (fail);go_ret;exact⟨rfl,HB.out⟩
 have A4:=Hd (fun W=>rOa l hl W);by_cases h1:n=1
 ·subst h1;by_cases he:l=h
  ·subst he;obtain⟨r,hr⟩:=XQ (Tess.iSP s 1 l l)
   rw[hr]
   have HR:=Hd (show((wHi s==wHi l)&&(wLo s==wLo l))=r by
    rw[<-hr];unfold Tess.iSP;rw[qR rfl,decide_eq_true rfl,zl];by_cases e:s=l
    ·subst e;simp
    ·rw[qG e];rw[yv,qi,qi]
     unfold wHi wLo;omega)
   clear hn hl hh hr As;have As:¬l<l:=by omega
   generalize wHi s=s1 at *;generalize wLo s=s2 at *;generalize wHi l=l1 at *;generalize wLo l=l2 at *;obtain⟨W0,Aq⟩:=XQ (w.alloc (.cells #[.int .i64 s1,.int .u64 s2] 100))
   obtain⟨k0,kS,kB⟩:=la2 w (.cells #[.int .i64 s1,.int .u64 s2] 100);rw[Aq]at k0 kS kB;obtain⟨⟨x0,x1⟩,_⟩:=can2 k0;have B6:w.heap.size<W0.heap.size:=by omega
   have HB:=Hd kB;clear k0 kS kB;go_enter Tryz.func145,Tryz.ntmps145;go_wp2_with (fail);refine Flow.wrf 7 (Flow.sp3 [.inl ?_,.inl ?_,.inl ?_,.inl ?_,.inl ?_,.inl ?_,.inl ?_]) (by kernel_rfl) (by kernel_rfl) ?_ ?_;rotate_left 7
   ·refine Flow.sm2 ?_
    repeat(first|exact Flow.ln2|refine Flow.li2 ?_)
   all_goals try simp only[qL,qY,qM,qV]
   iterate 6 (refine Flow.tvK rfl (fun K hK=>⟨fun w hw hG=>?_,?_⟩);(have Ba:=Flow.bc4 hw;clear hG hw;unfold Flow.Runs Flow.yields;go_simp;try rfl);go_simp;refine hK _ ?_;clear hK K)
   (refine Flow.tvK rfl (fun K hK=>⟨fun w hw hG=>?_,?_⟩);(clear hG hw;unfold Flow.Runs Flow.yields;go_simp;refine(A4.out _).mono ?_;rintro e w5 ⟨rfl,Aa⟩;first|exact⟨_,rfl,Aa,rfl⟩|(refine⟨?_,Aa⟩;rfl));go_simp;refine hK _ ?_;clear hK K)
   refine Flow.tn2 fun w5 hw5 hG=>?_;clear hG x0 x1;have Az:=Hd (Bt HB.out hw5);clear hw5;go_simp;go_wp2_with (fail)
   all_goals
    go_ret;exact⟨rb2 (by rw[<-HR.out];simp_all),Az.out⟩
  ·have HR:=Hd (show Tess.iSP s 1 l h=false by unfold Tess.iSP;rw[qR rfl,qG he];rfl);have B8:(l==h)=false:=qi.2 he;clear hn hl hh he;generalize wHi s=s1 at *;generalize wLo s=s2 at *;obtain⟨k0,kS,kB⟩:=la2 w (.cells #[.int .i64 s1,.int .u64 s2] 100);have HB:=Hd kB;clear k0 kS kB;go_enter Tryz.func145,Tryz.ntmps145;go_wp2_with (fail);go_quiet (fail);go_wp2_with (fail);go_ret
   exact⟨rb2 HR.out.symm,bd2 HB.out _⟩
 obtain⟨m,hm⟩:∃m:Nat,n-2=m:=⟨(n-2).toNat,by omega⟩
 have Av:m<=1000000:=by omega
 have pl:=mb2 hl (show 0<=(m:Int)/\(m:Int)<=1000000 by omega);have ph:=mb2 hh (show 0<=(m:Int)/\(m:Int)<=1000000 by omega)
 have HR:RowKit.Hid (Tess.iSP s n l h=(decide (cmpI (l+h+l*m) s<=0)&&decide (cmpI s (l+h+h*m)<=0))):=Hd (by
  unfold Tess.iSP;rw[qH h1,hm,decide_eq_true (show l<=h by omega),zl]
  congr 1<;>exact yi.2 (cIl _ _).symm)
 have Bv:=Hd (fun W=>rOa h hh W);have Bo:=Hd (fun W=>rMa l m hl Av W);have Bl:=Hd (fun W=>rMa h m hh Av W);have Bs:=Hd (fun W=>rAa l h (by unfold I64 at hl hh;unfold WOk;omega) W);have Bq:=Hd (fun W=>rAa (l+h) (l*m) (by unfold I64 at hl hh;unfold WOk;omega) W);have Br:=Hd (fun W=>rAa (l+h) (h*m) (by unfold I64 at hl hh;unfold WOk;omega) W);have A2:=Hd (fun W=>rCa (l+h+l*m) s W)
 have Bk:=Hd (fun W=>rCa s (l+h+h*m) W);obtain⟨r,hr⟩:=XQ (Tess.iSP s n l h)
 rw[hr]at HR;rw[hr];have n1:(n==1)=false:=qi.2 h1;have n2:IntKind.i64.wrap (n-2)=(m:Int):=by rw[hm,zU];omega
 have n3:wrap64 (n-2)=(m:Int):=by rw[hm];unfold wrap64;omega
 clear pl ph hl hh hr h1 hn hm Av;generalize cmpI (l+h+l*m) s=z1 at *;generalize cmpI s (l+h+h*m)=z2 at *;generalize wHi s=s1 at *;generalize wLo s=s2 at *;generalize wHi (l+h+l*m)=c1 at *;generalize wLo (l+h+l*m)=c2 at *;generalize wHi (l+h+h*m)=d1 at *;generalize wLo (l+h+h*m)=d2 at *;generalize wHi (l+h)=b1 at *;generalize wLo (l+h)=b2 at *;generalize wHi (l*m)=p1 at *
 generalize wLo (l*m)=p2 at *;generalize wHi (h*m)=q1 at *;generalize wLo (h*m)=q2 at *;generalize wHi l=l1 at *;generalize wLo l=l2 at *;generalize wHi h=h1 at *;generalize wLo h=h2 at *;obtain⟨W0,Aq⟩:=XQ (w.alloc (.cells #[.int .i64 s1,.int .u64 s2] 100))
 obtain⟨k0,kS,kB⟩:=la2 w (.cells #[.int .i64 s1,.int .u64 s2] 100);rw[Aq]at k0 kS kB;have HB:=Hd kB;have HK:=Hd k0;clear k0 kS kB;go_enter Tryz.func145,Tryz.ntmps145;go_wp2_with (fail);go_at_call 190;refine(A4.out _).mono ?_;rintro e w1 ⟨rfl,Ak⟩;have Bj:=Hd (Bt HB.out Ak);have Bf:=Hd ((Ak.block _ (qA.1 HK.out).1).trans HK.out);clear Ak;go_wp2_with (fail);go_at_call 190;refine(Bv.out _).mono ?_
 rintro e w2 ⟨rfl,A1⟩;have Bx:=Hd (Bt Bj.out A1);have A6:=Hd ((A1.block _ (qA.1 Bf.out).1).trans Bf.out);clear A1;go_wp2_with (fail);go_at_call 191;refine(Bs.out _).mono ?_;rintro e w3 ⟨rfl,Ao⟩;have Bn:=Hd (Bt Bx.out Ao);have Be:=Hd ((Ao.block _ (qA.1 A6.out).1).trans A6.out);clear Ao;obtain⟨W4,By⟩:=XQ (w3.alloc (.cells #[.int .i64 b1,.int .u64 b2] 100))
 obtain⟨k4,Bb,Ae⟩:=la2 w3 (.cells #[.int .i64 b1,.int .u64 b2] 100);rw[By]at k4 Bb Ae;have Bp:=Hd (Bt Bn.out Ae);have Ai:=Hd ((Ae.block _ (qA.1 Be.out).1).trans Be.out);have A7:=Hd k4;have B5:w3.heap.size<W4.heap.size:=by omega
 obtain⟨⟨x0,x1⟩,_⟩:=can2 k4;clear k4 Bb Ae;go_wp2_with (fail);refine Flow.wrf 7 (Flow.sp3 [.inl ?_,.inl ?_,.inl ?_,.inl ?_,.inl ?_,.inl ?_,.inr (nW W4.heap.size)]) (by kernel_rfl) (by kernel_rfl) ?_ ?_;rotate_left 6
 ·refine Flow.sm2 ?_
  repeat(first|exact Flow.ln2|refine Flow.li2 ?_|refine Flow.li3 (nWm _) ?_)
 all_goals try simp only[qL,qY,qM,qV]
 iterate 4 (refine Flow.tvK rfl (fun K hK=>⟨fun w hw hG=>?_,?_⟩);(have Ba:=Flow.bc4 hw;clear hG hw;unfold Flow.Runs Flow.yields;go_simp;try rfl);go_simp;refine hK _ ?_;clear hK K)
 (refine Flow.tvK rfl (fun K hK=>⟨fun w hw hG=>?_,?_⟩);(clear hG hw;unfold Flow.Runs Flow.yields;go_simp;refine(Bo.out _).mono ?_;rintro e w5 ⟨rfl,Aa⟩;first|exact⟨_,rfl,Aa,rfl⟩|(refine⟨?_,Aa⟩;rfl));go_simp;refine hK _ ?_;clear hK K)
 (refine Flow.tvK rfl (fun K hK=>⟨fun w hw hG=>?_,?_⟩);(clear hG hw;unfold Flow.Runs Flow.yields;go_simp;refine(Bq.out _).mono ?_;rintro e w5 ⟨rfl,Aa⟩;first|exact⟨_,rfl,Aa,rfl⟩|(refine⟨?_,Aa⟩;rfl));go_simp;refine hK _ ?_;clear hK K)
 (refine Flow.tvK2 rfl (fun K hK=>⟨fun w hw hG=>?_,?_⟩);(have Ar:=hw.size;clear hG hw;unfold Flow.Runs Flow.yields;go_simp;exact⟨(qJ _ _).alloc (qC _) _,nWm2 _ Ar⟩);intro vz;go_simp;refine hK _ _ ?_;clear hK K)
 refine Flow.tn2 fun w5 hw5 hG=>?_;obtain⟨g,rfl,hg,Aw⟩:=(show nW W4.heap.size vz w5 by simpa[Flow.upd]using hG 6)
 have Az:=Hd (Bt Bp.out hw5);have Bu:=Hd ((hw5.block _ (qA.1 Ai.out).1).trans Ai.out);have Bm:=Hd ((hw5.block _ (qA.1 A7.out).1).trans A7.out);have A5:w.heap.size<g:=qF (qF (qA.1 Ai.out).1 (qC _)) hg;have Ax:w3.heap.size<g:=by omega
 have A0:=Hd (qO _ _ 1 _ _ (.int .u64 c2) (qO _ _ 0 _ _ (.int .i64 c1) Aw));have Ah:=Hd (fun B (hb:B≠g)=>(qW (w5.setCell ⟨g,0,none⟩ (.int .i64 c1)) ⟨g,1,none⟩ B (.int .u64 c2) hb).trans (qW w5 ⟨g,0,none⟩ B (.int .i64 c1) hb));have A3:=Hd ((Az.out.setCell (p:=⟨g,0,none⟩) (by show _<=g;omega) (.int .i64 c1)).setCell (p:=⟨g,1,none⟩) (by show _<=g;omega) (.int .u64 c2))
 obtain⟨W6,Bh⟩:=XQ ((w5.setCell ⟨g,0,none⟩ (.int .i64 c1)).setCell ⟨g,1,none⟩ (.int .u64 c2))
 rw[Bh]at A0 Ah A3;have A9:=Hd ((Ah.out _ (qAu A5)).trans Bu.out);have Bc:=Hd ((Ah.out _ (qAu Ax)).trans Bm.out);clear hG hw5 x0 x1 hg;obtain⟨⟨x0,x1⟩,Af,Ag⟩:=can2 Aw;obtain⟨⟨y0,y1⟩,_⟩:=can2 Bc.out;have B4:=(qA.1 Bc.out).1;clear Aw;go_simp;go_wp2_with (fail);clear x0 x1 Af Ag
 refine Flow.wrf 7 (Flow.sp3 [.inl ?_,.inl ?_,.inl ?_,.inl ?_,.inl ?_,.inl ?_,.inr (nW W6.heap.size)]) (by kernel_rfl) (by kernel_rfl) ?_ ?_;rotate_left 6
 ·refine Flow.sm2 ?_
  repeat(first|exact Flow.ln2|refine Flow.li2 ?_|refine Flow.li3 (nWm _) ?_)
 all_goals try simp only[qL,qY,qM,qV]
 iterate 4 (refine Flow.tvK rfl (fun K hK=>⟨fun w hw hG=>?_,?_⟩);(have Ba:=Flow.bc4 hw;clear hG hw;unfold Flow.Runs Flow.yields;go_simp;try rfl);go_simp;refine hK _ ?_;clear hK K)
 (refine Flow.tvK rfl (fun K hK=>⟨fun w hw hG=>?_,?_⟩);(clear hG hw;unfold Flow.Runs Flow.yields;go_simp;refine(Bl.out _).mono ?_;rintro e w5 ⟨rfl,Aa⟩;first|exact⟨_,rfl,Aa,rfl⟩|(refine⟨?_,Aa⟩;rfl));go_simp;refine hK _ ?_;clear hK K)
 (refine Flow.tvK rfl (fun K hK=>⟨fun w hw hG=>?_,?_⟩);(clear hG hw;unfold Flow.Runs Flow.yields;go_simp;refine(Br.out _).mono ?_;rintro e w5 ⟨rfl,Aa⟩;first|exact⟨_,rfl,Aa,rfl⟩|(refine⟨?_,Aa⟩;rfl));go_simp;refine hK _ ?_;clear hK K)
 (refine Flow.tvK2 rfl (fun K hK=>⟨fun w hw hG=>?_,?_⟩);(have Ar:=hw.size;clear hG hw;unfold Flow.Runs Flow.yields;go_simp;exact⟨(qJ _ _).alloc (qC _) _,nWm2 _ Ar⟩);intro vz;go_simp;refine hK _ _ ?_;clear hK K)
 refine Flow.tn2 fun w7 hw7 hG=>?_;obtain⟨g',rfl,Bd,Ac⟩:=(show nW W6.heap.size vz w7 by simpa[Flow.upd]using hG 6)
 have Bg:=Hd (Bt A3.out hw7);have B1:=Hd ((hw7.block _ (qA.1 A9.out).1).trans A9.out);have An:=(qA.1 A0.out).1;have Bw:=Hd ((hw7.block _ An).trans A0.out);have A8:g<g':=qF An Bd;have Ap:w.heap.size<g':=qAv A5 A8;have Ay:=Hd (qO _ _ 1 _ _ (.int .u64 d2) (qO _ _ 0 _ _ (.int .i64 d1) Ac))
 have Aj:=Hd (fun B (hb:B≠g')=>(qW (w7.setCell ⟨g',0,none⟩ (.int .i64 d1)) ⟨g',1,none⟩ B (.int .u64 d2) hb).trans (qW w7 ⟨g',0,none⟩ B (.int .i64 d1) hb));have Au:=Hd ((Bg.out.setCell (p:=⟨g',0,none⟩) (by show _<=g';omega) (.int .i64 d1)).setCell (p:=⟨g',1,none⟩) (by show _<=g';omega) (.int .u64 d2))
 obtain⟨W8,B2⟩:=XQ ((w7.setCell ⟨g',0,none⟩ (.int .i64 d1)).setCell ⟨g',1,none⟩ (.int .u64 d2))
 rw[B2]at Ay Aj Au;have At:=Hd ((Aj.out _ (qAu Ap)).trans B1.out);have B0:=Hd ((Aj.out _ (qAu A8)).trans Bw.out);clear hG hw7 y0 y1 Bd An;obtain⟨⟨x0,x1⟩,Af,Ag⟩:=can2 Ac;obtain⟨⟨y0,y1⟩,_⟩:=can2 B0.out;obtain⟨⟨y2,y3⟩,_⟩:=can2 At.out;clear Ac;go_simp;by_cases g1:z1<=0
 ·have hr:=HR.out;rw[decide_eq_true g1,zl]at hr;have B3:=Hd hr;clear hr HR;go_wp2_with (fail);go_at_call 193;refine(A2.out _).mono ?_;rintro e w9 ⟨rfl,Ab⟩;have Am:=Hd (Bt Au.out Ab);have Bi:=Hd ((Ab.block _ (qA.1 At.out).1).trans At.out);have Bz:=Hd ((Ab.block _ (qA.1 Ay.out).1).trans Ay.out);clear Ab x0 x1 Af Ag y0 y1 y2 y3;obtain⟨⟨x0,x1⟩,_⟩:=can2 Bz.out;obtain⟨⟨y2,y3⟩,_⟩:=can2 Bi.out
  go_wp2_with (fail);go_at_call 193;refine(Bk.out _).mono ?_;rintro e B7 ⟨rfl,Ad⟩;have Al:=Hd (Bt Am.out Ad);clear Ad;go_wp2_with (fail)
  all_goals
   go_ret;exact⟨rb2 (by rw[B3.out];try simp_all),Al.out⟩
 ·have hr:=HR.out;rw[qG g1,qo]at hr;subst hr;go_wp2_with (fail);go_at_call 193;refine(A2.out _).mono ?_;rintro e w9 ⟨rfl,Ab⟩;have Am:=Hd (Bt Au.out Ab);clear Ab;go_wp2_with (fail)
  all_goals
   go_ret;exact⟨rfl,Am.out⟩
theorem rVa(x:ByteArray)(b:Bool)(w:World)(_:x.size<=maxLen):Calls Tryz.prog 189 #[.agg #[.string x,.bool b]] w fun e w'=>e = .returned (.bool (Tess.vO ⟨x,b⟩))/\Below w.heap.size w w':=by
 obtain⟨W0,Ac⟩:=XQ (w.alloc (.cells #[.string x,.bool b] 47))
 obtain⟨h0,hS,hB⟩:=la2 w (.cells #[.string x,.bool b] 47);rw[Ac]at h0 hS hB;have c0:=qT W0 w.heap.size 0 _ _ _ h0;have c1:=qT W0 w.heap.size 1 _ _ _ h0;simp only[js,jV,jU]at c0 c1;have HB:=Hd hB;clear h0 hB hS;have hE:ByteArray.empty.toList=[]:=by rw[jn];rfl
 cases b
 ·by_cases hx:x.size<=100
  ·have Ab:(x.size:Int)<=100:=by omega
   have HR:=Hd (show Tess.vO ⟨x,false⟩=true by simp[Tess.vO,hx]);clear hE;go_enter Tryz.func189,Tryz.ntmps189;go_wp2;go_ret;exact⟨rb2 (by rw[HR.out];try simp_all),HB.out⟩
  ·have Ab:¬(x.size:Int)<=100:=by omega
   have HR:=Hd (show Tess.vO ⟨x,false⟩=false by simp[Tess.vO];omega);clear hE;go_enter Tryz.func189,Tryz.ntmps189;go_wp2;go_ret;exact⟨rb2 (by rw[HR.out];try simp_all),HB.out⟩
 ·by_cases hx:x.toList=[]
  ·have Aa:x=ByteArray.empty:=si (hx.trans hE.symm);have Ab:(x.size:Int)<=100:=by rw[Aa];decide
   have HR:=Hd (show Tess.vO ⟨x,true⟩=true by simp[Tess.vO,Aa]);have HX:=Hd Aa;clear Aa hE;go_enter Tryz.func189,Tryz.ntmps189;go_wp2;go_ret;exact⟨rb2 (by rw[HR.out];try simp_all),HB.out⟩
  ·have HR:=Hd (show Tess.vO ⟨x,true⟩=false by
    have:x≠ByteArray.empty:=fun e=>hx (by rw[e];exact hE)
    simp[Tess.vO,this])
   clear hE;go_enter Tryz.func189,Tryz.ntmps189;go_wp2
   all_goals
    go_ret;exact⟨rb2 (by rw[HR.out];try simp_all),HB.out⟩
theorem rIG(g:Int)(w:World):Calls Tryz.prog 188 #[.int .i64 g] w fun e w'=>e = .returned (.bool (Tess.Fil.gO2 g))/\w=w':=by
 unfold Tess.Fil.gO2;by_cases h1:1<=g
 ·have d1:decide (1<=g)=true:=decide_eq_true h1;rw[d1,zl];generalize hr:decide (g<=1000000000)=r;go_enter Tryz.func188,Tryz.ntmps188;go_wp2;go_ret;exact⟨rfl,rfl⟩
 ·have d1:decide (1<=g)=false:=qG h1;rw[d1,qo];go_enter Tryz.func188,Tryz.ntmps188;go_wp2;go_ret;exact⟨rfl,rfl⟩
theorem rTa(t:Int)(w:World):Calls Tryz.prog 187 #[.int .i64 t] w fun e w'=>e = .returned (.bool (decide (0<=t)&&decide (t<=1000000000000)))/\Below w.heap.size w w':=by
 by_cases h1:0<=t<;>by_cases h2:t<=1000000000000
 all_goals
  go_enter Tryz.func187,Tryz.ntmps187;go_wp2;go_ret;exact⟨rb2 (by simp[h1,h2]),qJ _ _⟩
theorem rCa4(t g:Int)(w:World)(ht:0<=t/\t<=1000000000000)(hg:1<=g/\g<=1000000000):Calls Tryz.prog 143 #[.int .i64 t,.int .i64 g] w fun e w'=>e = .returned (.tuple #[.int .i64 (t/g*g),.int .i64 0])/\Below w.heap.size w w':=by
 have HT:=Hd (fun W=>rTa t W);rw[decide_eq_true ht.1,decide_eq_true ht.2]at HT;have HG:=Hd (fun W=>rIG g W);rw[show Tess.Fil.gO2 g=true by unfold Tess.Fil.gO2;rw[decide_eq_true hg.1,decide_eq_true hg.2];rfl]at HG;obtain⟨Aa,Ag⟩:=ht;obtain⟨Af,Ae⟩:=hg;have Ai:¬g=0:=by omega
 have hq:t.tdiv g=t/g:=qAo Aa;have h0:0<=t/g:=Int.ediv_nonneg Aa (by omega);have h1:t/g<=t:=Int.ediv_le_self _ Aa;have h2:t/g*g<=t:=Int.ediv_mul_le _ (by omega);have h3:0<=t/g*g:=Int.mul_nonneg h0 (by omega);have Ah:wrap64 (t/g)=t/g:=by unfold wrap64;omega
 have Ad:wrap64 (t/g*g)=t/g*g:=by unfold wrap64;omega
 clear Aa Ag Af Ae h0 h1 h2 h3;go_enter Tryz.func143,Tryz.ntmps143;go_wp2_with (fail);go_at_call 187;refine(HT.out _).mono ?_;rintro e w1 ⟨rfl,Ab⟩;have Ac:=Hd Ab;clear Ab;go_wp2_with (fail);go_at_call 188;refine(HG.out _).mono ?_;rintro e w2 ⟨rfl,rfl⟩;go_wp2_with (fail);rw[Ad];go_ret2;exact⟨rfl,Ac.out⟩
theorem at6{α:Type}(f:α->Bool)(l:List α)(k:Nat)(h:k<l.length)(h1:(l.take k).all f=true)(h2:f l[k]=true):(l.take (k+1)).all f=true:=by rw[qQ h,List.all_append,h1];simp[h2]
theorem an2{α:Type}(f:α->Bool)(l:List α)(k:Nat)(h:k<l.length)(h2:f l[k]=false):l.all f=false:=by
 cases e:l.all f
 ·rfl
 ·rw[qx.1 e _ (qP h)]at h2;cases h2
theorem rFa(p:Nat->Prop)(vs vr:Value)(s:Tess.Sch)(t:Int)(l:List Tess.Val)(ns:List Int)(w:World)(hs:SA p w vs s)(hr:RA3 p w vr t l ns) :
  Calls Tryz.prog 144 #[vs,vr] w fun e w'=>e = .returned (.bool (Tess.rowFits s t l ns.length))/\Below w.heap.size w w':=by
 have HR:=Hd (fun W (hB:Below w.heap.size w W)=>rRa p vs s W (hs.ag (Ag.new p hB)));obtain⟨vd,vm,rfl,hd,hm,_,_⟩:=hs;obtain⟨ad,Ad,rfl,_⟩:=sl3 hd;obtain⟨am,Ae,rfl,_⟩:=sl3 hm;obtain⟨A1,na,nc,rfl,_,hv,_⟩:=hr;obtain⟨da,dc,rfl,An,Ao,_,Ar⟩:=hv;have An:l.length<=9223372036854775807:=by unfold maxLen at An;omega
 have As:=Hd Ao;have Au:=Hd Ar;clear hd hm Ao Ar;obtain⟨W0,Ay⟩:=XQ ((w.alloc (.cells #[.slice ad s.dims.length Ad,.slice am s.mets.length Ae,.int .i64 s.grain] 24)).alloc (.cells #[.int .i64 t,.slice da l.length dc,.slice na ns.length nc] 51))
 obtain⟨h0,h1,hS,hB⟩:=la3 w (.cells #[.slice ad s.dims.length Ad,.slice am s.mets.length Ae,.int .i64 s.grain] 24) (.cells #[.int .i64 t,.slice da l.length dc,.slice na ns.length nc] 51);rw[Ay]at h0 h1 hS hB;obtain⟨⟨x0,x1,x2⟩,_⟩:=can3 h0;have H0:=Hd h0;have H1:=Hd h1;have HB:=Hd hB;have HS:=Hd hS
 have Aa:∀W,Below W0.heap.size W0 W->W.heap[w.heap.size]?=_/\W.heap[w.heap.size+1]?=_:=fun W hW=>⟨(hW.block _ (by omega)).trans h0,(hW.block _ (by omega)).trans h1⟩
 have Ax:=Hd Aa;clear h0 h1 hS hB Aa;have HE:RowKit.Hid (Tess.rowFits s t l ns.length=(Tess.sO s&&decide (0<=t)&&decide (t<=1000000000000)&&decide (l.length=s.dims.length)&&decide (ns.length=s.mets.length)&&l.all Tess.vO)):=Hd rfl;cases hok:Tess.sO s
 ·rw[hok]at HR HE;go_enter Tryz.func144,Tryz.ntmps144;go_wp2_with (go_at_call 50;refine(HR.out _ HB.out).mono ?_;rintro e w2 ⟨rfl,Ac⟩;have Ab:=Hd (Bt HB.out Ac);clear Ac);go_ret;exact⟨by rw[HE.out];rfl,Ab.out⟩
 rw[hok,zl]at HE;rw[hok]at HR;go_enter Tryz.func144,Tryz.ntmps144;go_wp2_with (fail);go_at_call 50;refine(HR.out _ HB.out).mono ?_;rintro e w2 ⟨rfl,Ac⟩;obtain⟨q0,q1⟩:=Ax.out w2 Ac;have Ab:=Hd (Bt HB.out Ac);have HQ:=Hd q1;clear Ac x0 x1 x2 hok HR;obtain⟨⟨x0,x1,x2⟩,_⟩:=can3 q0;obtain⟨⟨y0,y1,y2⟩,_⟩:=can3 q1;clear q0 q1;by_cases h1:0<=t;rotate_left
 ·have h1:t<0:=by omega
  rw[qG (show ¬0<=t by omega)]at HE;go_wp2;go_ret;exact⟨rb2 (by rw[HE.out];simp),Ab.out⟩
 rw[decide_eq_true h1]at HE;have h1:¬t<0:=by omega
 by_cases h2:t<=1000000000000;rotate_left
 ·have h2:1000000000000<t:=by omega
  rw[qG (show ¬t<=1000000000000 by omega)]at HE;go_wp2;go_ret;exact⟨rb2 (by rw[HE.out];simp),Ab.out⟩
 rw[decide_eq_true h2]at HE;have h2:¬1000000000000<t:=by omega
 by_cases h3:l.length=s.dims.length;rotate_left
 ·have d3:((l.length:Int) !=(s.dims.length:Int))=true:=by rw[zj];omega
  rw[qG h3]at HE;clear h3;go_wp2;go_ret;exact⟨rb2 (by rw[HE.out];simp),Ab.out⟩
 have d3:((l.length:Int) !=(s.dims.length:Int))=false:=by rw[zg];omega
 rw[decide_eq_true h3]at HE;clear h3;by_cases h4:ns.length=s.mets.length;rotate_left
 ·have d4:((ns.length:Int) !=(s.mets.length:Int))=true:=by rw[zj];omega
  rw[qG h4]at HE;clear h4;go_wp2;go_ret;exact⟨rb2 (by rw[HE.out];simp),Ab.out⟩
 have d4:((ns.length:Int) !=(s.mets.length:Int))=false:=by rw[zg];omega
 rw[decide_eq_true h4]at HE;clear h4;go_wp2_with (fail);clear x0 x1 x2 y0 y1 y2 d3 d4;go_loopw [5] (fun i wr=>∃k:Nat,k<=l.length/\i = .int .i64 k/\(l.take k).all Tess.vO=true/\Below w2.heap.size w2 wr) (fun i _=>l.length-(intOf i).toNat)
 case atStart=>exact⟨0,qN _,rfl,rfl,qJ _ _⟩
 case round=>
  obtain⟨k,hk,rfl,Al,Ah⟩:=hrel;have Ak:=Hd Al;have Af:=Hd (Bt Ab.out Ah);have q1:=(Ah.block _ (qA.1 HQ.out).1).trans HQ.out;have A0:=Hd q1;have At:=Hd Ah;obtain⟨⟨y0,y1,y2⟩,_⟩:=can3 q1;clear q1 Al Ah;by_cases hlt:k<l.length
  ·have Ai:(k:Int)<(l.length:Int):=by omega
   obtain⟨b,Am,rfl,hb,_,hc⟩:=Au.out (by omega);obtain⟨c0,c1⟩:=hc k hlt;have c0:=(Af.out.cell (p:=⟨b,Am+k*2,none⟩) hb).trans c0;have c1:=(Af.out.cell (p:=⟨b,Am+k*2+1,none⟩) hb).trans c1;have Az:=qF hb Af.out.size;have Aq:=Hd (fun W=>rVa l[k].s l[k].null W (As.out _ (qP hlt)));have Av:=Hd (an2 Tess.vO l k hlt);have Aw:=Hd (at6 Tess.vO l k hlt Ak.out)
   rw[show(⟨l[k].s,l[k].null⟩:Tess.Val)=l[k]from rfl]at Aq;clear hc;generalize Tess.vO l[k]=r at *;generalize l[k].s=z1 at *;generalize l[k].null=z2 at *;go_wp2_with (fail);go_at_call 189;refine(Aq.out _).mono ?_;rintro e w3 ⟨rfl,Aj⟩;have Ap:=Hd (Bt At.out Aj);clear Aj c0 c1 y0 y1 y2;cases r
   ·go_wp2_with (fail);go_ret;exact⟨rb2 (by rw[HE.out,Av.out trivial];simp),Bt Ab.out Ap.out⟩
   ·go_wp2_with (fail);go_roundw
    case rel=>exact⟨k+1,by omega,by go_num,Aw.out trivial,Ap.out⟩
    case measure=>simp[intOf];omega
  ·have Ai:¬(k:Int)<(l.length:Int):=by omega
   go_wp2_with (fail);go_ret;refine⟨rb2 ?_,Af.out⟩;have:=Ak.out;rw[qh (by omega)]at this;rw[HE.out,this];rfl
theorem rCa3(t g:Int)(w:World):Calls Tryz.prog 143 #[.int .i64 t,.int .i64 g] w fun e w'=>(∃z c,e = .returned (.tuple #[.int .i64 z,.int .i64 c])/\(0<=t/\t<=1000000000000->1<=g/\g<=1000000000->z=t/g*g))/\Below w.heap.size w w':=by
 by_cases ht:0<=t/\t<=1000000000000
 ·by_cases hg:1<=g/\g<=1000000000
  ·refine(rCa4 t g w ht hg).mono ?_;rintro e w' ⟨rfl,hb⟩;exact⟨⟨_,_,rfl,fun _ _=>rfl⟩,hb⟩
  ·have HT:=Hd (fun W=>rTa t W);rw[decide_eq_true ht.1,decide_eq_true ht.2]at HT;have HG:=Hd (fun W=>rIG g W)
   rw[show Tess.Fil.gO2 g=false by
    unfold Tess.Fil.gO2
    rw[yv,jw,jw];omega]at HG
   have HX:=Hd hg;clear hg ht;go_enter Tryz.func143,Tryz.ntmps143;go_wp2_with (fail);go_at_call 187;refine(HT.out _).mono ?_;rintro e w1 ⟨rfl,Aa⟩;have Ab:=Hd Aa;clear Aa;go_wp2_with (fail);go_at_call 188;refine(HG.out _).mono ?_;rintro e w2 ⟨rfl,rfl⟩;go_wp2_with (fail);go_ret2;exact⟨⟨_,_,rfl,fun _ h=>absurd h HX.out⟩,Ab.out⟩
 ·have HT:=Hd (fun W=>rTa t W);rw[show(decide (0<=t)&&decide (t<=1000000000000))=false by rw[yv,jw,jw];omega]at HT;have HX:=Hd ht;clear ht;go_enter Tryz.func143,Tryz.ntmps143;go_wp2_with (fail);go_at_call 187;refine(HT.out _).mono ?_;rintro e w1 ⟨rfl,Aa⟩;have Ab:=Hd Aa;clear Aa;go_wp2_with (fail);go_ret2;exact⟨⟨_,_,rfl,fun h=>absurd h HX.out⟩,Ab.out⟩
