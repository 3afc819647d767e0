/- Joined. -/
import Derived.Test.YtjdccifdkjnknaaGreatDoorZC29
set_option maxRecDepth 100000
set_option maxHeartbeats 4000000
namespace Go.Proofs.Q9
open Go.RowKit Go.Sort
deriving instance DecidableEq for Tess.Val
theorem retB{a b:Bool}(h:a=b):Ending.returned (.bool a) = .returned (.bool b):=by rw[h]
theorem bytes_inj{a b:ByteArray}(h:a.toList=b.toList):a=b:=by rw[jn,jn]at h;exact yF (yG.1 h)
def valF(v:Tess.Val):List Value:=[.string v.s,.bool v.null]
def RW2{α:Type}(k:Nat)(f:α->List Value)(p:Nat->Prop)(w:World)(v:Value)(l:List α):Prop:=
 ∃a c,v = .slice a l.length c/\l.length<=maxLen/\(0<l.length->∃b off,a=some ⟨b,off,none⟩/\b<w.heap.size/\p b/\∀j (h:j<l.length) i,i<k->w.cell? ⟨b,off+j*k+i,none⟩=(f l[j])[i]?)
theorem RA.w{α:Type}{k:Nat}{f:α->List Value}{p:Nat->Prop}{w:World}{v:Value}{l:List α}(h:RA k f p w v l):RW2 k f p w v l:=let⟨a,c,hv,h1,_,_,h4⟩:=h;⟨a,c,hv,h1,h4⟩
theorem VA2.w{p:Nat->Prop}{w:World}{v:Value}{l:List Tess.Val}(h:VA2 p w v l):RW2 2 valF p w v l:=by
 obtain⟨a,c,hv,h1,h2,h3,h4⟩:=h;refine⟨a,c,hv,h1,fun hl=>?_⟩;obtain⟨b,Aa,ha,hb,hp,hc⟩:=h4 hl;refine⟨b,Aa,ha,hb,hp,fun j hj i hi=>?_⟩;obtain⟨c0,c1⟩:=hc j hj;rcases (show i=0∨i=1 by omega)with rfl|rfl
 ·exact c0
 ·exact c1
theorem wi2{n m:Int}:(wHi n=wHi m/\wLo n=wLo m)↔n=m:=by unfold wHi wLo;refine⟨fun h=>by omega,fun h=>by rw[h];exact⟨rfl,rfl⟩⟩
theorem nv2(x0 y0:ByteArray)(x1 y1:Bool)(W:World):(binOp .neq 47 (.agg #[.string x0,.bool x1]) (.agg #[.string y0,.bool y1])).run Tryz.prog W = .ok (.bool (!decide ((⟨x0,x1⟩:Tess.Val)=⟨y0,y1⟩))) W:=by rw[run_neq_struct,run_equalIn_agg (d:=9999) _ _ _ _ (by kernel_rfl) (by kernel_rfl)];simp[Program.fieldsOf,Op.eqFields,go_sem,Tryz.underlying47,Tryz.underlying9,Tryz.underlying4];have e:(x0.toList=y0.toList)=(x0=y0):=propext ⟨bytes_inj,fun h=>by rw[h]⟩;simp only[e];by_cases h0:x0=y0<;>by_cases h1:x1=y1<;>simp[h0,h1]
theorem nw2(n m:Int)(W:World):(binOp .neq 100 (.agg #[.int .i64 (wHi n),.int .u64 (wLo n)]) (.agg #[.int .i64 (wHi m),.int .u64 (wLo m)])).run Tryz.prog W = .ok (.bool (!decide (n=m))) W:=by
 rw[run_neq_struct,run_equalIn_agg (d:=9999) _ _ _ _ (by kernel_rfl) (by kernel_rfl)];simp[Program.fieldsOf,Op.eqFields,go_sem,Tryz.underlying100,Tryz.underlying2,Tryz.underlying92];by_cases h:n=m
 ·subst h;simp
 ·have hw:¬(wHi n=wHi m/\wLo n=wLo m):=fun e=>h (wi2.1 e);by_cases h0:wHi n=wHi m<;>by_cases h1:wLo n=wLo m<;>simp[h0,h1,h]<;>exact absurd ⟨h0,h1⟩ hw
end Go.Proofs.Q9
namespace Go.Proofs.Q9
open Go.RowKit Go.Sort Go.Shelf
theorem iSo(s l:Int)(hl:I64 l)(w:World):Calls Tryz.prog 89 #[.agg #[.int .i64 (wHi s),.int .u64 (wLo s)],.int .i64 1,.int .i64 l,.int .i64 l] w fun e w'=>e = .returned (.bool (decide (s=l)))/\Below w.heap.size w w':=by
 have Ae:=Hd (fun W=>wOe l hl W);have Aa:=wi2 (n:=s) (m:=l);generalize wHi l=a' at *;generalize wLo l=b' at *;generalize wHi s=a at *;generalize wLo s=b at *;obtain⟨r,hr⟩:=XQ (decide (s=l))
 rw[hr]
 have h3:(a=a'/\b=b'/\r=true)∨(a=a'/\¬b=b'/\r=false)∨(¬a=a'/\r=false):=by
  by_cases ha:a=a'
  ·by_cases hb:b=b'
   ·exact .inl ⟨ha,hb,by rw[<-hr];exact decide_eq_true (Aa.1 ⟨ha,hb⟩)⟩
   ·exact .inr (.inl ⟨ha,hb,by rw[<-hr];exact qG fun e=>hb (Aa.2 e).2⟩)
  ·exact .inr (.inr ⟨ha,by rw[<-hr];exact qG fun e=>ha (Aa.2 e).1⟩)
 clear Aa hr;obtain⟨W0,Af⟩:=XQ (w.alloc (.cells #[.int .i64 a,.int .u64 b] 100))
 obtain⟨k0,kS,kB⟩:=la2 w (.cells #[.int .i64 a,.int .u64 b] 100);rw[Af]at k0 kS kB;obtain⟨⟨x0,x1⟩,_⟩:=can2 k0;have Ah:w.heap.size<W0.heap.size:=by omega
 have HB:=Hd kB;clear k0 kS kB hl;rcases h3 with⟨rfl,rfl,rfl⟩|⟨rfl,Ag,rfl⟩|⟨Ai,rfl⟩
 ·go_enter Tryz.func89,Tryz.ntmps89;go_wp2_with (fail);refine Flow.wrf 8 (Flow.sp3 [.inl ?_,.inl ?_,.inl ?_,.inl ?_,.inl ?_,.inl ?_,.inl ?_,.inl ?_]) (by kernel_rfl) (by kernel_rfl) ?_ ?_;rotate_left 8
  ·refine Flow.sm2 ?_
   repeat(first|exact Flow.ln2|refine Flow.li2 ?_)
  all_goals try simp only[qL,qY,qM,qV]
  iterate 6 (refine Flow.tvK rfl (fun K hK=>⟨fun w hw hG=>?_,?_⟩);(have Ad:=Flow.bc4 hw;clear hG hw;unfold Flow.Runs Flow.yields;go_simp;try rfl);go_simp;refine hK _ ?_;clear hK K)
  (refine Flow.tvK rfl (fun K hK=>⟨fun w hw hG=>?_,?_⟩);(clear hG hw;unfold Flow.Runs Flow.yields;go_simp;refine(Ae.out _).mono ?_;rintro e w5 ⟨rfl,Ab⟩;first|exact⟨_,rfl,Ab,rfl⟩|(refine⟨?_,Ab⟩;rfl));go_simp;refine hK _ ?_;clear hK K)
  iterate 1 (refine Flow.tvK rfl (fun K hK=>⟨fun w hw hG=>?_,?_⟩);(have Ad:=Flow.bc4 hw;clear hG hw;unfold Flow.Runs Flow.yields;go_simp;try rfl);go_simp;refine hK _ ?_;clear hK K)
  refine Flow.tn2 fun w5 hw5 hG=>?_;clear hG x0 x1;have Ac:=Hd (Bt HB.out hw5);clear hw5;go_simp;go_wp2;go_ret;exact⟨rfl,Ac.out⟩
 ·go_enter Tryz.func89,Tryz.ntmps89;go_wp2_with (fail);refine Flow.wrf 8 (Flow.sp3 [.inl ?_,.inl ?_,.inl ?_,.inl ?_,.inl ?_,.inl ?_,.inl ?_,.inl ?_]) (by kernel_rfl) (by kernel_rfl) ?_ ?_;rotate_left 8
  ·refine Flow.sm2 ?_
   repeat(first|exact Flow.ln2|refine Flow.li2 ?_)
  all_goals try simp only[qL,qY,qM,qV]
  iterate 6 (refine Flow.tvK rfl (fun K hK=>⟨fun w hw hG=>?_,?_⟩);(have Ad:=Flow.bc4 hw;clear hG hw;unfold Flow.Runs Flow.yields;go_simp;try rfl);go_simp;refine hK _ ?_;clear hK K)
  (refine Flow.tvK rfl (fun K hK=>⟨fun w hw hG=>?_,?_⟩);(clear hG hw;unfold Flow.Runs Flow.yields;go_simp;refine(Ae.out _).mono ?_;rintro e w5 ⟨rfl,Ab⟩;first|exact⟨_,rfl,Ab,rfl⟩|(refine⟨?_,Ab⟩;rfl));go_simp;refine hK _ ?_;clear hK K)
  iterate 1 (refine Flow.tvK rfl (fun K hK=>⟨fun w hw hG=>?_,?_⟩);(have Ad:=Flow.bc4 hw;clear hG hw;unfold Flow.Runs Flow.yields;go_simp;try rfl);go_simp;refine hK _ ?_;clear hK K)
  refine Flow.tn2 fun w5 hw5 hG=>?_;clear hG x0 x1;have Ac:=Hd (Bt HB.out hw5);clear hw5;go_simp;go_wp2;go_ret;exact⟨rfl,Ac.out⟩
 ·go_enter Tryz.func89,Tryz.ntmps89;go_wp2_with (fail);refine Flow.wrf 8 (Flow.sp3 [.inl ?_,.inl ?_,.inl ?_,.inl ?_,.inl ?_,.inl ?_,.inl ?_,.inl ?_]) (by kernel_rfl) (by kernel_rfl) ?_ ?_;rotate_left 8
  ·refine Flow.sm2 ?_
   repeat(first|exact Flow.ln2|refine Flow.li2 ?_)
  all_goals try simp only[qL,qY,qM,qV]
  iterate 6 (refine Flow.tvK rfl (fun K hK=>⟨fun w hw hG=>?_,?_⟩);(have Ad:=Flow.bc4 hw;clear hG hw;unfold Flow.Runs Flow.yields;go_simp;try rfl);go_simp;refine hK _ ?_;clear hK K)
  (refine Flow.tvK rfl (fun K hK=>⟨fun w hw hG=>?_,?_⟩);(clear hG hw;unfold Flow.Runs Flow.yields;go_simp;refine(Ae.out _).mono ?_;rintro e w5 ⟨rfl,Ab⟩;first|exact⟨_,rfl,Ab,rfl⟩|(refine⟨?_,Ab⟩;rfl));go_simp;refine hK _ ?_;clear hK K)
  iterate 1 (refine Flow.tvK rfl (fun K hK=>⟨fun w hw hG=>?_,?_⟩);(have Ad:=Flow.bc4 hw;clear hG hw;unfold Flow.Runs Flow.yields;go_simp;try rfl);go_simp;refine hK _ ?_;clear hK K)
  refine Flow.tn2 fun w5 hw5 hG=>?_;clear hG x0 x1;have Ac:=Hd (Bt HB.out hw5);clear hw5;go_simp;go_wp2;go_ret;exact⟨rfl,Ac.out⟩
theorem iSm(s n l h:Int)(hn:2<=n/\n<=1000000)(hl:I64 l)(hh:I64 h)(w:World):Calls Tryz.prog 89 #[.agg #[.int .i64 (wHi s),.int .u64 (wLo s)],.int .i64 n,.int .i64 l,.int .i64 h] w fun e w'=>e = .returned (.bool (Tess.iSP s n l h))/\Below w.heap.size w w':=by
 obtain⟨m,hm⟩:∃m:Nat,n-2=m:=⟨(n-2).toNat,by omega⟩
 have Ak:m<=1000000:=by omega
 have Bw:IntKind.i64.wrap (n-2)=(m:Int):=by rw[zU];omega
 have Br:¬n=1:=by omega
 have b1:=mb2 hl (show(0:Int)<=(m:Int)/\(m:Int)<=1000000 by omega);have b2:=mb2 hh (show(0:Int)<=(m:Int)/\(m:Int)<=1000000 by omega)
 have Aa:=Hd (show Tess.iSP s n l h=((decide (l<=h)&&decide (cmpI (l+h+l*m) s<=0))&&decide (cmpI s (l+h+h*m)<=0)) by
  unfold Tess.iSP;rw[qH Br,hm];congr 1
  ·congr 1;exact yi.2 (cIl _ _).symm
  ·exact yi.2 (cIl _ _).symm)
 have Ae:=Hd (fun b W=>sa11 l h b W hl hh);have A5:=Hd (fun W=>wMa l m hl Ak W);have A2:=Hd (fun W=>wMa h m hh Ak W);have A6:=Hd (fun W=>wAa (l+h) (l*m) (by unfold WOk;unfold I64 at hl hh;omega) W);have A8:=Hd (fun W=>wAa (l+h) (h*m) (by unfold WOk;unfold I64 at hl hh;omega) W);have Be:=Hd (fun W=>wCa (l+h+l*m) s W);have Bj:=Hd (fun W=>wCa s (l+h+h*m) W);generalize cmpI (l+h+l*m) s=z1 at *
 generalize cmpI s (l+h+h*m)=z2 at *;generalize wHi (l+h+l*m)=u1 at *;generalize wLo (l+h+l*m)=v1 at *;generalize wHi (l+h+h*m)=u2 at *;generalize wLo (l+h+h*m)=v2 at *;generalize wHi (l*m)=p1 at *;generalize wLo (l*m)=q1 at *;generalize wHi (h*m)=p2 at *;generalize wLo (h*m)=q2 at *;generalize wHi (l+h)=p0 at *;generalize wLo (l+h)=q0 at *;generalize wHi s=a at *;generalize wLo s=b at *
 clear b1 b2 hm Ak hl hh hn;obtain⟨W0,A4⟩:=XQ ((w.alloc (.cells #[.int .i64 a,.int .u64 b] 100)).alloc (.cells #[.int .i64 l,.int .i64 h] 2))
 obtain⟨k0,k1,kS,kB⟩:=la3 w (.cells #[.int .i64 a,.int .u64 b] 100) (.cells #[.int .i64 l,.int .i64 h] 2);rw[A4]at k0 k1 kS kB;have Bd:=Hd (Ae.out _ _ k1);have K0:=Hd k0;have KB:=Hd kB;have KS:=Hd kS;clear k0 k1 kS kB Ae;go_enter Tryz.func89,Tryz.ntmps89;go_wp2_with (fail);go_at_call 135;refine Bd.out.mono ?_;rintro e w1 ⟨rfl,Al⟩;have Ag:=(Al.block w.heap.size (by have:=KS.out;omega)).trans K0.out
 have Bi:=Hd (Bt KB.out Al);obtain⟨W2,A3⟩:=XQ (w1.alloc (.cells #[.int .i64 p0,.int .u64 q0] 100))
 obtain⟨k2,Ay,Af⟩:=la2 w1 (.cells #[.int .i64 p0,.int .u64 q0] 100);rw[A3]at k2 Ay Af;have Av:=(Af.block _ (qA.1 Ag).1).trans Ag;obtain⟨⟨x0,x1⟩,_⟩:=can2 k2;have Bp:w1.heap.size<W2.heap.size:=by omega
 have Bl:=Hd Av;have Bs:=Hd (Bt Bi.out Af);have Ah:=Hd (show w.heap.size<w1.heap.size from(qA.1 Ag).1);have Bu:=Hd (show w.heap.size<W2.heap.size from(qA.1 Av).1);clear Ag Av Al k2 Af Ay A4;go_wp2_with (fail);clear A3
 refine FlX.wrf 14 (FlX.sp3 [some (.inl ?_),some (.inl ?_),some (.inl ?_),some (.inl ?_),some (.inl ?_),some (.inl ?_),some (.inl ?_),some (.inl ?_),some (.inl ?_),some (.inl ?_),some (.inl ?_),some (.inl ?_),some (.inr nBX),some (.inr nBX)]) (by kernel_rfl) (by kernel_rfl) ?_ ?_;rotate_left 12
 ·refine FlX.sm2 ?_
  repeat(first|exact FlX.ln2|refine FlX.li2 ?_|refine FlX.li3 nBX2 ?_)
 all_goals try simp only[qL,qY,qM,qV]
 iterate 4 (refine FlX.tvK rfl (fun K hK=>⟨fun w hw hG=>?_,?_⟩);(have Bn:=Flow.bc4 hw;clear hG hw;unfold FlX.RV Flow.yields;go_simp;try rfl);go_simp;refine hK _ ?_;clear hK K)
 (refine FlX.tvK rfl (fun K hK=>⟨fun w hw hG=>?_,?_⟩);(clear hG hw;unfold FlX.RV Flow.yields;go_simp;refine(A5.out _).mono ?_;rintro e w5 ⟨rfl,Ab⟩;first|exact⟨_,rfl,Ab,rfl⟩|(refine⟨?_,Ab⟩;rfl));go_simp;refine hK _ ?_;clear hK K)
 (refine FlX.tvK rfl (fun K hK=>⟨fun w hw hG=>?_,?_⟩);(clear hG hw;unfold FlX.RV Flow.yields;go_simp;refine(A6.out _).mono ?_;rintro e w5 ⟨rfl,Ab⟩;first|exact⟨_,rfl,Ab,rfl⟩|(refine⟨?_,Ab⟩;rfl));go_simp;refine hK _ ?_;clear hK K)
 iterate 4 (refine FlX.tvK rfl (fun K hK=>⟨fun w hw hG=>?_,?_⟩);(have Bn:=Flow.bc4 hw;clear hG hw;unfold FlX.RV Flow.yields;go_simp;try rfl);go_simp;refine hK _ ?_;clear hK K)
 (refine FlX.tvK rfl (fun K hK=>⟨fun w hw hG=>?_,?_⟩);(clear hG hw;unfold FlX.RV Flow.yields;go_simp;refine(A2.out _).mono ?_;rintro e w5 ⟨rfl,Ab⟩;first|exact⟨_,rfl,Ab,rfl⟩|(refine⟨?_,Ab⟩;rfl));go_simp;refine hK _ ?_;clear hK K)
 (refine FlX.tvK rfl (fun K hK=>⟨fun w hw hG=>?_,?_⟩);(clear hG hw;unfold FlX.RV Flow.yields;go_simp;refine(A8.out _).mono ?_;rintro e w5 ⟨rfl,Ab⟩;first|exact⟨_,rfl,Ab,rfl⟩|(refine⟨?_,Ab⟩;rfl));go_simp;refine hK _ ?_;clear hK K)
 ((refine FlX.tvK2 rfl (fun K hK=>⟨fun w hw hG=>?_,?_⟩);(have hl:=la2 w (.cells #[.int .i64 0,.int .u64 0] 100);clear hG hw;unfold FlX.RR2 Flow.yields;go_simp;exact⟨_,rfl,qC _,by omega,hl.1⟩));intro Bm;go_simp;refine hK _ _ ?_;clear hK K)
 ((refine FlX.tvK2 rfl (fun K hK=>⟨fun w hw hG=>?_,?_⟩);(have hl:=la2 w (.cells #[.int .i64 0,.int .u64 0] 100);clear hG hw;unfold FlX.RR2 Flow.yields;go_simp;exact⟨_,rfl,qC _,by omega,hl.1⟩));intro Bc;go_simp;refine hK _ _ ?_;clear hK K)
 refine FlX.tn2 fun w5 hw5 hG=>?_;obtain⟨I,hI⟩:=hG;obtain⟨Ap,rfl,Bq,Bh,At⟩:=(show nBX Bm _ _ w5 by simpa[FlX.upd]using hI.holds 12)
 obtain⟨Ao,rfl,An,Ar,Az⟩:=(show nBX Bc _ _ w5 by simpa[FlX.upd]using hI.holds 13)
 have Bv:=hI.apart 12 13 (by decide);have Au:=hI.le 12;have Aq:=hI.le 13;clear hI;generalize (I 12).1=s12 at *;generalize (I 12).2=e12 at *;generalize (I 13).1=s13 at *;generalize (I 13).2=e13 at *;clear I x0 x1 A5 A2 A6 A8;have Bo:Ap≠Ao:=by omega
 have HL:=Hd (show w1.heap.size<Ap/\w1.heap.size<Ao by omega);have A9:=Bt Bs.out hw5;have A1:=(hw5.block _ Bu.out).trans Bl.out;clear Bv Au Aq Bq Bh An Ar hw5 Bp;obtain⟨W6,Bf,a6,o6,_,B6⟩:=box2 (.int .i64 u1) (.int .u64 v1) At A9 (by have:=HL.out;have:=Ah.out;omega);have Ac:=(o6 Ao (by omega)).trans Az
 obtain⟨W7,Bb,a7,o7,_,B7⟩:=box2 (.int .i64 u2) (.int .u64 v2) Ac B6 (by have:=HL.out;have:=Ah.out;omega);have Aj:=(o7 Ap Bo).trans a6;have As:=(o7 w.heap.size (by have:=HL.out;have:=Ah.out;omega)).trans ((o6 w.heap.size (by have:=HL.out;have:=Ah.out;omega)).trans A1);obtain⟨_,f0,f1⟩:=can2 At;obtain⟨_,f2,f3⟩:=can2 Ac;obtain⟨⟨x0,x1⟩,_⟩:=can2 Aj;obtain⟨⟨y0,y1⟩,_⟩:=can2 As;have By:=Hd Aj;have Ba:=Hd As
 have Aw:=Hd a7;have Ax:=Hd B7;clear o6 o7 B6 B7 Aj As a7 a6 Ac Az At A9 A1;by_cases hle:l<=h;rotate_left
 ·have Bx:h<l:=by omega
  have hd:decide (l<=h)=false:=qG hle;rw[hd,qo,qo]at Aa;clear hle;go_simp;go_wp2_with (fail);go_ret;exact⟨by rw[Aa.out];rfl,Ax.out⟩
 have hd:decide (l<=h)=true:=decide_eq_true hle;rw[hd,zl]at Aa;go_simp;go_wp2_with (fail);go_at_call 137;refine(Be.out _).mono ?_;rintro e w8 ⟨rfl,Ad⟩;have h8:=(Ad.block _ (qA.1 Aw.out).1).trans Aw.out;have Am:=(Ad.block _ (qA.1 Ba.out).1).trans Ba.out;have A7:=Hd (Bt Ax.out Ad);clear x0 x1 y0 y1 f0 f1 f2 f3 Bf Bb;by_cases hz1:z1<=0;rotate_left
 ·have Ai:decide (z1<=0)=false:=qG hz1;have Bk:0<z1:=by omega
  rw[Ai,qo]at Aa;clear Ad h8 Am;go_wp2_with (fail);go_ret;exact⟨by rw[Aa.out];rfl,A7.out⟩
 have Ai:decide (z1<=0)=true:=decide_eq_true hz1;rw[Ai,zl]at Aa;obtain⟨⟨p8,q8⟩,_⟩:=can2 h8;obtain⟨⟨r8,s8⟩,_⟩:=can2 Am;clear Ad h8 Am;go_wp2_with (fail);go_at_call 137;refine(Bj.out _).mono ?_;rintro e w9 ⟨rfl,A0⟩;have Bg:=Hd (Bt A7.out A0);clear A0;go_wp2_with (fail);go_ret;exact⟨by rw[Aa.out];rfl,Bg.out⟩
theorem bd3{B:Nat}{a w:World}(h:Below B a w)(n:Nat):Below B a (w.drewN n):=⟨h.os,h.tape,h.output,h.size,h.block⟩
theorem iSe(a b l h:Int)(hne:¬l=h)(w:World):Calls Tryz.prog 89 #[.agg #[.int .i64 a,.int .u64 b],.int .i64 1,.int .i64 l,.int .i64 h] w fun e w'=>e = .returned (.bool false)/\Below w.heap.size w w':=by
 have e1:(l==h)=false:=by rw[qi];exact hne
 have HB:=Hd (la2 w (.cells #[.int .i64 a,.int .u64 b] 100)).2.2;clear hne;go_enter Tryz.func89,Tryz.ntmps89;go_wp2_with (fail);go_quiet (fail);go_wp2_with (fail);go_ret;exact⟨rfl,bd3 HB.out _⟩
theorem iSG(s n l h:Int)(hn:1<=n/\n<=1000000)(hl:I64 l)(hh:I64 h)(w:World):Calls Tryz.prog 89 #[.agg #[.int .i64 (wHi s),.int .u64 (wLo s)],.int .i64 n,.int .i64 l,.int .i64 h] w fun e w'=>e = .returned (.bool (Tess.iSP s n l h))/\Below w.heap.size w w':=by
 by_cases h1:n=1
 ·subst h1;by_cases h2:l=h
  ·subst h2;have e:Tess.iSP s 1 l l=decide (s=l):=by unfold Tess.iSP;simp
   rw[e];exact iSo s l hl w
  ·have e:Tess.iSP s 1 l h=false:=by unfold Tess.iSP;simp[h2]
   rw[e];exact iSe _ _ l h h2 w
 ·exact iSm s n l h ⟨by omega,hn.2⟩ hl hh w
theorem gCb(t g:Int)(w:World)(ht:¬(0<=t/\t<=1000000000000)):Calls Tryz.prog 58 #[.int .i64 t,.int .i64 g] w fun e w'=>e = .returned (.tuple #[.int .i64 0,.int .i64 110])/\Below w.heap.size w w':=by
 have HT:=Hd (iTa t w)
 rw[show(decide (0<=t)&&decide (t<1000000000001))=false by rw[yv,jw,jw];omega]at HT
 clear ht;go_enter Tryz.func58,Tryz.ntmps58;go_wp2_with (go_at_call 112;refine HT.out.mono ?_;rintro e w2 ⟨rfl,rfl⟩);go_ret2;exact⟨rfl,qJ _ _⟩
end Go.Proofs.Q9
namespace Tess
structure RCel where
 t:Int
 l:List Val
 n:Int
 sums:List Int
 mins:List Int
 maxs:List Int
def RCel.sA2(x:RCel)(j:Nat):Bool:=iSP (x.sums.getD j 0) x.n (x.mins.getD j 0) (x.maxs.getD j 0)
def RCel.sO2(x:RCel)(k:Nat):Bool:=(List.range k).all x.sA2
def RCel.ok(s:Sch)(x:RCel):Bool:=((decide (0<=x.t/\x.t<=1000000000000)&&decide (x.t%s.grain=0/\1<=x.n/\x.n<=1000000))&&(rowFits s x.t x.l x.mins.length&&decide (x.sums.length=x.mins.length/\x.maxs.length=x.mins.length)))&&x.sO2 x.sums.length
theorem RCel.ss2(x:RCel)(k:Nat):x.sO2 (k+1)=(x.sO2 k&&x.sA2 k):=by unfold RCel.sO2;rw[xX,List.all_append];simp
theorem RCel.sl6(x:RCel){k m:Nat}(h:x.sO2 m=true)(hk:k<m):x.sA2 k=true:=qx.1 h k (zV.2 hk)
end Tess
namespace Go.Proofs.Q9
open Go.RowKit Go.Sort Go.Shelf
open Tess (RCel)
def RA2(p:Nat->Prop)(w:World)(cs:List Value)(x:RCel):Prop:=∃vd vs vm vx,cs=[.int .i64 x.t,vd,.int .i64 x.n,vs,vm,vx]/\VA2 p w vd x.l/\RA 2 wF p w vs x.sums/\RA 1 intF p w vm x.mins/\RA 1 intF p w vx x.maxs
theorem RA2.ag{p:Nat->Prop}{w w':World}{cs:List Value}{x:RCel}(h:RA2 p w cs x)(hg:Ag p w w'):RA2 p w' cs x:=let⟨_,_,_,_,e,h1,h2,h3,h4⟩:=h;⟨_,_,_,_,e,h1.ag hg,h2.ag hg,h3.ag hg,h4.ag hg⟩
theorem RA2.row{p:Nat->Prop}{w:World}{t n:Int}{l:List Tess.Val}{vd v3 v4 v5:Value}{sl nl xl:List Int}(h:RA2 p w [.int .i64 t,vd,.int .i64 n,v3,v4,v5] ⟨t,l,n,sl,nl,xl⟩):RA3 p w (.agg #[.int .i64 t,vd,v4]) t l nl:=by obtain⟨Ad,Ab,Ac,Ae,e,hd,h2,hm,h4⟩:=h;simp only[qAf,and_true,qAq]at e;obtain⟨rfl,rfl,rfl,rfl⟩:=e;have Aa:=hm;obtain⟨a,c,e,h1,h2,_⟩:=hm;simp only at e;subst e;exact⟨_,a,c,rfl,h2,hd,sor Aa⟩
theorem cRG(p:Nat->Prop)(vs:Value)(cs:List Value)(s:Tess.Sch)(x:RCel)(w:World)(hs:SA p w vs s)(hc:RA2 p w cs x)(hsch:Tess.sO s=true)(hmn:∀z∈x.mins,I64 z)(hmx:∀z∈x.maxs,I64 z) :
  Calls Tryz.prog 38 #[.agg cs.toArray,vs] w fun e w'=>e = .returned (.bool (x.ok s))/\Below w.heap.size w w':=by
 obtain⟨t,ds,n,sl,nl,xl⟩:=x;obtain⟨vd,v3,v4,v5,rfl,hd,An,Aq,Ap⟩:=id hc;have Ah:=RA2.row hc;simp only at hd An Aq Ap hmn hmx Ah⊢
 have hg:1<=s.grain/\s.grain<=1000000000:=by simp only[Tess.sO,qb,qn]at hsch;exact⟨hsch.1.1.2,hsch.1.2⟩
 have Am:=Hd (fun W (hB:Below w.heap.size w W)=>sFa p vs _ s t ds nl W (hs.ag (Ag.new p hB)) (Ah.ag (Ag.new p hB)));obtain⟨Av,Ad⟩:=XQ (Tess.rowFits s t ds nl.length)
 rw[Ad]at Am;have A3:=Hd An;have Bb:=Hd Aq;have Bi:=Hd Ap;have Bh:=Hd hmn;have Bj:=Hd hmx;obtain⟨da,dc,rfl⟩:=hd.shape;obtain⟨a3,c3,rfl⟩:=An.shape;obtain⟨a4,c4,rfl⟩:=Aq.shape;obtain⟨a5,c5,rfl⟩:=Ap.shape;obtain⟨Bo,Bm,rfl,A2,Ax,_,_⟩:=hs;obtain⟨ad,Al,rfl,_⟩:=sl3 A2;obtain⟨am,Aj,rfl,_⟩:=sl3 Ax;obtain⟨ok,Au⟩:=XQ (RCel.ok s ⟨t,ds,n,sl,nl,xl⟩)
 have Ab:=Au;unfold RCel.ok at Ab;simp only[Ad]at Ab;rw[Au];have Aa:=Hd Ab;clear hd An Aq Ap hc Ah A2 Ax hsch hmn hmx Au Ab Ad;obtain⟨W0,A7⟩:=XQ ((w.alloc (.cells #[.int .i64 t,.slice da ds.length dc,.int .i64 n,.slice a3 sl.length c3,.slice a4 nl.length c4,.slice a5 xl.length c5] 80)).alloc (.cells #[.slice ad s.dims.length Al,.slice am s.mets.length Aj,.int .i64 s.grain] 24))
 obtain⟨h0,h1,hS,hB⟩:=la3 w (.cells #[.int .i64 t,.slice da ds.length dc,.int .i64 n,.slice a3 sl.length c3,.slice a4 nl.length c4,.slice a5 xl.length c5] 80) (.cells #[.slice ad s.dims.length Al,.slice am s.mets.length Aj,.int .i64 s.grain] 24);rw[A7]at h0 h1 hS hB;have H0:=Hd h0;have H1:=Hd h1;have HB:=Hd hB;obtain⟨⟨x0,x1,x2,x3,x4,x5⟩,_⟩:=can6 h0;obtain⟨⟨y0,y1,y2⟩,_⟩:=can3 h1;clear h0 h1 hS hB
 by_cases ht:0<=t/\t<=1000000000000;rotate_left
 ·have Ac:=Hd (fun W=>gCb t s.grain W ht);have ho:=Aa.out;rw[qG ht,qo,qo,qo]at ho;subst ho;clear ht;go_enter Tryz.func38,Tryz.ntmps38;go_wp2_with (fail);go_at_call 58;refine(Ac.out _).mono ?_;rintro e w1 ⟨rfl,Ae⟩;have Af:=Hd (Bt HB.out Ae);clear Ae x0 x1 x2 x3 x4 x5 y0 y1 y2;go_wp2_with (fail);go_ret;exact⟨rfl,Af.out⟩
 have Ac:=Hd (fun W=>gCa t s.grain W ht hg);rw[decide_eq_true ht,zl]at Aa;clear ht hg;go_enter Tryz.func38,Tryz.ntmps38;go_wp2_with (fail);go_at_call 58;refine(Ac.out _).mono ?_;rintro e w1 ⟨rfl,Ae⟩;have h0:=(Ae.block _ (qA.1 H0.out).1).trans H0.out;have h1:=(Ae.block _ (qA.1 H1.out).1).trans H1.out;have Af:=Hd (Bt HB.out Ae);have K0:=Hd h0;have K1:=Hd h1;clear x0 x1 x2 x3 x4 x5 y0 y1 y2 A7 Ae
 obtain⟨⟨x0,x1,x2,x3,x4,x5⟩,_⟩:=can6 h0;obtain⟨⟨y0,y1,y2⟩,_⟩:=can3 h1;clear h0 h1;by_cases hm:t%s.grain=0;rotate_left
 ·have e1:((t-t%s.grain) !=t)=true:=by rw[zj];omega
  have ho:=Aa.out;rw[qG (fun h=>hm h.1),qo,qo]at ho;subst ho;go_wp2_with (fail);go_ret;exact⟨rfl,Af.out⟩
 have e1:((t-t%s.grain) !=t)=false:=by rw[zg];omega
 by_cases hn1:n<1
 ·have ho:=Aa.out;rw[qG (fun h=>by omega),qo,qo]at ho;subst ho;go_wp2_with (fail);go_ret;exact⟨rfl,Af.out⟩
 by_cases hn2:1000000<n
 ·have ho:=Aa.out;rw[qG (fun h=>by omega),qo,qo]at ho;subst ho;go_wp2_with (fail);go_ret;exact⟨rfl,Af.out⟩
 rw[decide_eq_true ⟨hm,by omega,by omega⟩,zl]at Aa;have HN:=Hd (show 1<=n/\n<=1000000 by omega);go_wp2_with (fail);go_at_call 57;refine(Am.out _ Af.out).mono ?_;rintro e w2 ⟨rfl,Aw⟩;have h0:=(Aw.block _ (qA.1 K0.out).1).trans K0.out;have Ai:=Hd (Bt Af.out Aw);have J0:=Hd h0;clear x0 x1 x2 x3 x4 x5 y0 y1 y2 Aw e1;obtain⟨⟨x0,x1,x2,x3,x4,x5⟩,_⟩:=can6 h0;clear h0;cases Av
 ·have ho:=Aa.out;rw[qo,qo]at ho;subst ho;go_wp2_with (fail);go_ret;exact⟨rfl,Ai.out⟩
 rw[zl]at Aa;by_cases Ak:sl.length=nl.length;rotate_left
 ·have e1:((sl.length:Int) !=(nl.length:Int))=true:=by rw[zj];omega
  have ho:=Aa.out;rw[qG (fun h=>Ak h.1),qo]at ho;subst ho;go_wp2_with (fail);go_ret;exact⟨rfl,Ai.out⟩
 by_cases Ao:xl.length=nl.length;rotate_left
 ·have e1:((sl.length:Int) !=(nl.length:Int))=false:=by rw[zg];omega
  have e2:((xl.length:Int) !=(nl.length:Int))=true:=by rw[zj];omega
  have ho:=Aa.out;rw[qG (fun h=>Ao h.2),qo]at ho;subst ho;clear Ak;go_wp2_with (fail);go_ret;exact⟨rfl,Ai.out⟩
 rw[decide_eq_true ⟨Ak,Ao⟩,zl]at Aa;have HL:=Hd (And.intro Ak Ao);have e1:((sl.length:Int) !=(nl.length:Int))=false:=by rw[zg];omega
 have e2:((xl.length:Int) !=(nl.length:Int))=false:=by rw[zg];omega
 have hM:sl.length<=9223372036854775807:=by obtain⟨_,_,_,h,_⟩:=A3.out;unfold maxLen at h;omega
 clear Ak Ao hm hn1 hn2;go_wp2_with (fail);clear x0 x1 x2 x3 x4 x5 e1 e2;go_loopw [78] (fun i wr=>∃k:Nat,k<=sl.length/\i = .int .i64 k/\RCel.sO2 ⟨t,ds,n,sl,nl,xl⟩ k=true/\Below w2.heap.size w2 wr) (fun i _=>sl.length-(intOf i).toNat)
 case atStart=>exact⟨0,qN _,rfl,rfl,qJ _ _⟩
 case round=>
  obtain⟨k,hk,rfl,A8,hB⟩:=hrel;have Ba:=Hd A8;clear A8;by_cases hlt:k<sl.length
  ·have Bc:(k:Int)<(sl.length:Int):=by omega
   have hl:=HL.out;have Ar:=Bt Ai.out hB;have At:k<nl.length:=by omega
   have As:k<xl.length:=by omega
   obtain⟨b3,o3,rfl,Bf,e0,e1⟩:=(A3.out.ag (Ag.new p Ar)).num2 hlt;obtain⟨b4,o4,rfl,A9,e2⟩:=(Bb.out.ag (Ag.new p Ar)).num1 At;obtain⟨b5,o5,rfl,A6,e3⟩:=(Bi.out.ag (Ag.new p Ar)).num1 As;have Be:=Hd (iSG sl[k] n nl[k] xl[k] HN.out (Bh.out _ (qP At)) (Bj.out _ (qP As)))
   have A0:=Hd (show RCel.sA2 ⟨t,ds,n,sl,nl,xl⟩ k=Tess.iSP sl[k] n nl[k] xl[k] by
    unfold RCel.sA2
    simp only[qE,qD hlt,qD At,qD As,yz])
   have h0:=(hB.block _ (qA.1 J0.out).1).trans J0.out;have Bl:(k:Int)<(nl.length:Int):=by omega
   have Bu:(k:Int)<(xl.length:Int):=by omega
   generalize Tess.iSP sl[k] n nl[k] xl[k]=r at *;generalize sl[k]=z1 at *;generalize nl[k]=z2 at *;generalize xl[k]=z3 at *;obtain⟨W3,Az⟩:=XQ (wr.alloc (.cells #[.int .i64 (wHi z1),.int .u64 (wLo z1)] 100))
   obtain⟨q0,qS,qB⟩:=la2 wr (.cells #[.int .i64 (wHi z1),.int .u64 (wLo z1)] 100);rw[Az]at q0 qS qB;have A5:w.heap.size<wr.heap.size:=(qA.1 h0).1;obtain⟨⟨x0,x1,x2,x3,x4,x5⟩,_⟩:=can6 ((qB.block _ A5).trans h0);obtain⟨⟨y0,y1⟩,_⟩:=can2 q0;have f2:=(qB.cell (p:=⟨b4,o4+k,none⟩) A9).trans e2;have f3:=(qB.cell (p:=⟨b5,o5+k,none⟩) A6).trans e3;have Bq:w.heap.size<W3.heap.size:=by omega
   have Bs:wr.heap.size<W3.heap.size:=by omega
   have Br:b4<W3.heap.size:=by omega
   have Bn:b5<W3.heap.size:=by omega
   have Bg:=Hd (Bt hB qB);clear h0 q0 qS qB Ar hl hB A5;go_wp2_with (fail);clear Az e0 e1 e2 e3 Bf A9 A6;refine Flow.wrf 16 (Flow.sp3 [.inl ?_,.inl ?_,.inl ?_,.inl ?_,.inl ?_,.inl ?_,.inl ?_,.inl ?_,.inl ?_,.inl ?_,.inl ?_,.inl ?_,.inl ?_,.inl ?_,.inl ?_,.inl ?_]) (by kernel_rfl) (by kernel_rfl) ?_ ?_;rotate_left 16
   ·refine Flow.sm2 ?_
    repeat(first|exact Flow.ln2|refine Flow.li2 ?_)
   all_goals try simp only[qL,qY,qM,qV]
   iterate 16 (refine Flow.tvK rfl (fun K hK=>⟨fun w hw hG=>?_,?_⟩);(have Bp:=Flow.bc4 hw;clear hG hw;unfold Flow.Runs Flow.yields;go_simp;try rfl);go_simp;refine hK _ ?_;clear hK K)
   refine Flow.tn2 fun w5 hw5 hG=>?_;clear hG x0 x1 x2 x3 x4 x5 y0 y1 f2 f3;have Bk:=Hd (Bt Bg.out hw5);clear hw5;go_simp;go_wp2_with (fail);go_at_call 89;refine(Be.out _).mono ?_;rintro e w6 ⟨rfl,A4⟩;have A1:=Hd (Bt Bk.out A4);clear A4;cases r
   ·have ho:=Aa.out
    have hf:RCel.sO2 ⟨t,ds,n,sl,nl,xl⟩ sl.length=false:=by
     cases h:RCel.sO2 ⟨t,ds,n,sl,nl,xl⟩ sl.length
     ·rfl
     ·have:=RCel.sl6 _ h hlt;rw[A0.out]at this;cases this
    rw[hf]at ho;subst ho;go_wp2_with (fail);go_ret;exact⟨rfl,Bt Ai.out A1.out⟩
   ·have Ay:RCel.sO2 ⟨t,ds,n,sl,nl,xl⟩ (k+1)=true:=by rw[RCel.ss2,Ba.out,A0.out];rfl
    have Bd:=Hd Ay;clear Ay;go_wp2;go_roundw
    case rel=>exact⟨k+1,by omega,by go_num,Bd.out,A1.out⟩
    case measure=>simp[intOf];omega
  ·have Bc:¬(k:Int)<(sl.length:Int):=by omega
   obtain rfl:k=sl.length:=by omega
   have ho:=Aa.out;rw[Ba.out]at ho;subst ho;go_wp2;go_ret;exact⟨rfl,Bt Ai.out hB⟩
theorem RA2.shapes{p:Nat->Prop}{w:World}{cs:List Value}{x:RCel}(h:RA2 p w cs x):∃ad cd a3 c3 a4 c4 a5 c5,cs=[.int .i64 x.t,.slice ad x.l.length cd,.int .i64 x.n,.slice a3 x.sums.length c3,.slice a4 x.mins.length c4,.slice a5 x.maxs.length c5]:=by obtain⟨vd,vs,vm,vx,rfl,h1,h2,h3,h4⟩:=h;obtain⟨ad,cd,rfl⟩:=h1.shape;obtain⟨a3,c3,rfl⟩:=h2.shape;obtain⟨a4,c4,rfl⟩:=h3.shape;obtain⟨a5,c5,rfl⟩:=h4.shape;exact⟨_,_,_,_,_,_,_,_,rfl⟩
def rLR(cb:Nat)(q:RCel->Bool)(l:List RCel)(a:Option Addr)(w:World):Prop:=
 ∀k (hk:k<l.length),∃b off,a=some ⟨b,off,none⟩/\b<w.heap.size/\∃c0 c1 c2 c3 c4 c5,(w.cell? ⟨b,off+k*6,none⟩=some c0/\w.cell? ⟨b,off+k*6+1,none⟩=some c1/\w.cell? ⟨b,off+k*6+2,none⟩=some c2/\w.cell? ⟨b,off+k*6+3,none⟩=some c3/\w.cell? ⟨b,off+k*6+4,none⟩=some c4/\w.cell? ⟨b,off+k*6+5,none⟩=some c5) /\
   ∀W,Below w.heap.size w W->Calls Tryz.prog 37 #[.agg #[c0,c1,c2,c3,c4,c5],.pointer (some ⟨cb,0,none⟩)] W fun e w'=>e = .returned (.bool (q l[k]))/\Below W.heap.size W w'
theorem irR(cb:Nat)(q:RCel->Bool)(l:List RCel)(a:Option Addr)(cap:Nat)(w:World)(hlen:l.length<=maxLen)(hc:rLR cb q l a w) :
  Calls Tryz.prog 88 #[.slice a l.length cap,.func (.func 37) #[] #[.pointer (some ⟨cb,0,none⟩)]] w fun e w'=>∃i:Int,e = .returned (.int .i64 i)/\decide (0<=i)=l.any q/\Below w.heap.size w w':=by
 have HC:=Hd hc;have Ag:l.length<=9223372036854775807:=by unfold maxLen at hlen;omega
 clear hc hlen;go_enter Tryz.func88,Tryz.ntmps88;go_wp2;go_loopw [8] (fun i wr=>∃k:Nat,k<=l.length/\i = .int .i64 k/\(∀j (hj:j<l.length),j<k->q l[j]=false)/\Below w.heap.size w wr) (fun i _=>l.length-(intOf i).toNat)
 case atStart=>exact⟨0,qN _,rfl,fun j _ h=>absurd h (zH _),qJ _ _⟩
 case round=>
  obtain⟨k,hk,rfl,Ac,hB⟩:=hrel;have HA:=Hd Ac;have HB:=Hd hB;clear Ac hB;by_cases hlt:k<l.length
  ·obtain⟨b,Aa,rfl,hb,c0,c1,c2,c3,c4,c5,⟨g0,g1,g2,g3,g4,g5⟩,Ab⟩:=HC.out k hlt;have e0:wr.cell? ⟨b,Aa+k*6,none⟩=some c0:=(HB.out.cell (p:=⟨b,Aa+k*6,none⟩) hb).trans g0;have e1:wr.cell? ⟨b,Aa+k*6+1,none⟩=some c1:=(HB.out.cell (p:=⟨b,Aa+k*6+1,none⟩) hb).trans g1;have e2:wr.cell? ⟨b,Aa+k*6+2,none⟩=some c2:=(HB.out.cell (p:=⟨b,Aa+k*6+2,none⟩) hb).trans g2
   have e3:wr.cell? ⟨b,Aa+k*6+3,none⟩=some c3:=(HB.out.cell (p:=⟨b,Aa+k*6+3,none⟩) hb).trans g3;have e4:wr.cell? ⟨b,Aa+k*6+4,none⟩=some c4:=(HB.out.cell (p:=⟨b,Aa+k*6+4,none⟩) hb).trans g4;have e5:wr.cell? ⟨b,Aa+k*6+5,none⟩=some c5:=(HB.out.cell (p:=⟨b,Aa+k*6+5,none⟩) hb).trans g5;have HX:=Hd Ab;clear g0 g1 g2 g3 g4 g5 Ab;have Af:(k:Int)<(l.length:Int):=by omega
   cases hyx:q l[k]
   ·rw[hyx]at HX;have HY:=Hd hyx;clear hyx;go_wp2_with (go_at_call 37;refine(HX.out _ HB.out).mono ?_;rintro e w2 ⟨rfl,Ad⟩;have Ae:=Hd Ad;clear Ad);go_roundw
    case rel=>
     refine⟨k+1,by omega,by go_num,fun j hj hjk=>?_,Bt HB.out Ae.out⟩;by_cases hjk':j<k
     ·exact HA.out j hj hjk'
     ·obtain rfl:j=k:=by omega
      exact HY.out
    case measure=>simp[intOf];omega
   ·rw[hyx]at HX;have HY:=Hd hyx;clear hyx;go_wp2_with (go_at_call 37;refine(HX.out _ HB.out).mono ?_;rintro e w2 ⟨rfl,Ad⟩;have Ae:=Hd Ad;clear Ad);go_ret;refine⟨(k:Int),rfl,?_,Bt HB.out Ae.out⟩;rw[decide_eq_true (by omega),qBy,yj];exact⟨l[k],qP hlt,HY.out⟩
  ·have Af:¬(k:Int)<(l.length:Int):=by omega
   go_wp2;go_ret;refine⟨-1,rfl,?_,HB.out⟩;rw[qG (by omega),qBy,xI];intro y hy;obtain⟨j,hj,rfl⟩:=zq hy;rw[HA.out j hj (by omega)];simp
theorem crR(cb:Nat)(q:RCel->Bool)(l:List RCel)(a:Option Addr)(cap:Nat)(w:World)(hlen:l.length<=maxLen)(hc:rLR cb q l a w) :
  Calls Tryz.prog 36 #[.slice a l.length cap,.func (.func 37) #[] #[.pointer (some ⟨cb,0,none⟩)]] w fun e w'=>e = .returned (.bool (l.any q))/\Below w.heap.size w w':=by
 have HI:=Hd (irR cb q l a cap w hlen hc);clear hc;go_enter Tryz.func36,Tryz.ntmps36;go_wp2_with (go_at_call 88;refine HI.out.mono ?_;rintro e w2 ⟨i,rfl,hi,hB⟩;have HH:=Hd hi;have HB:=Hd hB;clear hi hB);go_ret;refine⟨?_,HB.out⟩;rw[<-HH.out];rfl
theorem rGa(cb:Nat)(p:Nat->Prop)(vs:List Value)(cs:List Value)(s:Tess.Sch)(x:RCel)(W:World)(hbx:W.heap[cb]?=some (.cells vs.toArray 24 (0,0)))(hs:SA p W (.agg vs.toArray) s)(hc:RA2 p W cs x)(hsch:Tess.sO s=true)(hmn:∀z∈x.mins,I64 z)(hmx:∀z∈x.maxs,I64 z) :
  Calls Tryz.prog 37 #[.agg cs.toArray,.pointer (some ⟨cb,0,none⟩)] W fun e w'=>e = .returned (.bool (!x.ok s))/\Below W.heap.size W w':=by
 have HR:=Hd (fun W' (hB:Below W.heap.size W W')=>cRG p _ cs s x W' (hs.ag (Ag.new p hB)) (hc.ag (Ag.new p hB)) hsch hmn hmx);obtain⟨vd,vm,hv,_,_,_,_⟩:=hs;obtain rfl:vs=[vd,vm,.int .i64 s.grain]:=by simpa using zM (fun v=>match v with | .agg a=>a.toList|_=>[]) hv
 obtain⟨ad,cd,a3,c3,a4,c4,a5,c5,rfl⟩:=hc.shapes;clear hc hv hmn hmx;generalize x.ok s=r at *;obtain⟨W0,Aa⟩:=XQ (W.alloc (.cells #[.int .i64 x.t,.slice ad x.l.length cd,.int .i64 x.n,.slice a3 x.sums.length c3,.slice a4 x.mins.length c4,.slice a5 x.maxs.length c5] 56))
 obtain⟨k0,kS,kB⟩:=la2 W (.cells #[.int .i64 x.t,.slice ad x.l.length cd,.int .i64 x.n,.slice a3 x.sums.length c3,.slice a4 x.mins.length c4,.slice a5 x.maxs.length c5] 56);rw[Aa]at k0 kS kB;obtain⟨⟨x0,x1,x2,x3,x4,x5⟩,_⟩:=can6 k0;obtain⟨⟨y0,y1,y2⟩,_⟩:=can3 ((kB.block _ (qA.1 hbx).1).trans hbx);have HB:=Hd kB;clear k0 kS kB hbx;go_enter Tryz.func37,Tryz.ntmps37;go_wp2_with (fail);go_at_call 38
 refine(HR.out _ HB.out).mono ?_;rintro e w2 ⟨rfl,Ab⟩;have Ac:=Hd (Bt HB.out Ab);clear Ab x0 x1 x2 x3 x4 x5 y0 y1 y2 Aa;go_wp2;go_ret;exact⟨rfl,Ac.out⟩
end Go.Proofs.Q9
namespace Go.Proofs.Q9
open Go.RowKit Go.Sort Go.Shelf
attribute [local go_sem] jK
theorem ps5(n:Nat)(hn:n<=1000000)(us:Nat->List Value)(a:Option Addr)(c bp:Nat)(q:Nat->Prop)(W0:World)(h0:W0.cell? ⟨bp,0,none⟩=some (.slice a n c))(hb:q bp)
  (hr:∀j,j<n->(us j).length=6/\∃b off,a=some ⟨b,off,none⟩/\b<W0.heap.size/\q b/\∀i,i<6->W0.cell? ⟨b,off+j*6+i,none⟩=(us j)[i]?)
  (m:Nat) (hm:m<n-1) (l:Nat) (fn0:FuncId) (T:Array Value->Array Value) (A B:Code) (Inv:Nat->World->Prop) (Post:World->Prop)
  (hIB:∀k W W',Inv k W->Below W.heap.size W W'->Inv k W') (hIA:∀k W,Inv k W->l<W.heap.size/\Ag q W0 W)
  (hy:∀k W,Inv k W->∀z:Array Value,z.size=2->(Instr.yield l z).run Tryz.prog W = .ok (.round l fn0 (T z) A B) W)
  (hrd:∀k W,k<m->Inv k W->RoundIn Fence.wide 5 Tryz.prog l fn0 (T #[.agg (us k).toArray,.agg (us (k+1)).toArray]) A B W (fun e W'=>e = .returned (.bool true)/\Inv (k+1) W'))
  (hsd:∀W,Inv m W->RoundIn Fence.wide 5 Tryz.prog l fn0 (T #[.agg (us m).toArray,.agg (us (m+1)).toArray]) A B W (fun e W'=>e = .returned (.bool false)/\Post W')) (W:World) (hI:Inv 0 W) :
  Calls Tryz.prog 90 (#[.func (.yield l) #[] #[]]++#[.pointer (some ⟨bp,0,none⟩)]) W fun e W'=>(∃v,e = .returned v)/\Post W':=by
 have HI:=Hd hI;have Ai:=Hd hIB;have Ao:=Hd hIA;have HY:=Hd hy;have HR:=Hd hrd;have Au:=Hd hsd;have HU:=Hd hr;have Am:=qK W0 _ h0;have HC:=Hd (fun k X (h:Inv k X)=>((Ao.out k X h).2.cell Am hb).trans h0);clear hI hIB hIA hy hrd hr hsd;refine(qZ (n:=5)).1 ?_;refine yg Tryz.func90 rfl trivial ?_ rfl;simp only[Tryz.ntmps90,qu,qU,zE,Nat.reduceAdd,Nat.reduceSub,qv,qw,zO,zC,qr,qk];gi_wp2
 gi_loopw [3] (fun i wr=>∃k:Nat,k<=m/\i = .int .i64 ((k:Int)+1)/\Inv k wr) (fun i _=>n-(intOf i).toNat)
 case atStart=>exact⟨0,qN _,rfl,HI.out⟩
 case round=>
  obtain⟨k,hk,rfl,hI⟩:=hrel;have HJ:=Hd hI;have c1:=HC.out k wr hI;clear hI;have Ax:k<n-1:=by omega
  ·have Aw:(k:Int)+1<(n:Int):=by omega
   obtain⟨e5,b,off,rfl,Ac,Ae,Ab⟩:=HU.out k (by omega);obtain⟨e6,b',Ar,e7,_,_,Aa⟩:=HU.out (k+1) (by omega);simp only[xf,Addr.mk.injEq,and_true]at e7;obtain⟨rfl,rfl⟩:=e7;have Ad:=(Ao.out k wr HJ.out).2;obtain⟨y0,y1,y2,y3,y4,y5,ey⟩:=six e5;obtain⟨z0,z1,z2,z3,z4,z5,ez⟩:=six e6;rw[ey]at Ab;rw[ez]at Aa;have hm:(k+1)*6=k*6+6:=by omega
   have g0:=(Ad.cell Ac Ae).trans (Ab 0 (by omega));have g1:=(Ad.cell Ac Ae).trans (Ab 1 (by omega));have g2:=(Ad.cell Ac Ae).trans (Ab 2 (by omega));have g3:=(Ad.cell Ac Ae).trans (Ab 3 (by omega));have g4:=(Ad.cell Ac Ae).trans (Ab 4 (by omega));have g5:=(Ad.cell Ac Ae).trans (Ab 5 (by omega));have q0:=(Ad.cell Ac Ae).trans (Aa 0 (by omega));have q1:=(Ad.cell Ac Ae).trans (Aa 1 (by omega))
   have q2:=(Ad.cell Ac Ae).trans (Aa 2 (by omega));have q3:=(Ad.cell Ac Ae).trans (Aa 3 (by omega));have q4:=(Ad.cell Ac Ae).trans (Aa 4 (by omega));have q5:=(Ad.cell Ac Ae).trans (Aa 5 (by omega));rw[hm]at q0 q1 q2 q3 q4 q5;simp only[yD,jU,jV]at g0 g1 g2 g3 g4 g5 q0 q1 q2 q3 q4 q5;by_cases hkm:k<m;rotate_left
   ·obtain rfl:k=m:=by omega
    have Ah:=Hd (fun X (hX:Below wr.heap.size wr X)=>Au.out X (Ai.out k wr X HJ.out hX));have An:=Hd (fun X (hX:Below wr.heap.size wr X)=>HY.out k X (Ai.out k wr X HJ.out hX));rw[ey,ez]at Ah;have As:b<wr.heap.size:=qF Ac Ad.1;have Ak:bp<wr.heap.size:=qK wr _ c1;have Ap:IntKind.i64.wrap (k:Int)=(k:Int):=by rw[zU];omega
    have Aq:(k:Int)<(n:Int):=by omega
    have At:(0:Int)<=(k:Int)+1:=by omega
    clear Ab Aa Ad ey ez e5 e6 Ae Ac;gi_wp2;refine Flow.wIr 11 (Flow.sp3 [.inl ?_,.inl ?_,.inl ?_,.inl ?_,.inl ?_,.inl ?_,.inl ?_,.inl ?_,.inl ?_,.inl ?_,.inl ?_]) (by kernel_rfl) (by kernel_rfl) ?_ ?_;rotate_left 11
    ·refine Flow.sm2 ?_
     repeat(first|exact Flow.ln2|refine Flow.li2 ?_)
    all_goals try simp only[qL,qY,qM,qV]
    iterate 11 (refine Flow.tvK rfl (fun K hK=>⟨fun w hw hG=>?_,?_⟩);(have Av:=Flow.bc4 hw;clear hG hw;unfold Flow.Runs Flow.yields;go_simp;try rfl);go_simp;refine hK _ ?_;clear hK K)
    refine Flow.tn2 fun w2 hw2 hG=>?_;clear hG;have Aj:=An.out w2 hw2 #[.agg #[y0,y1,y2,y3,y4,y5],.agg #[z0,z1,z2,z3,z4,z5]] rfl;have Al:=Hd (Ah.out w2 hw2);clear hw2 g0 g1 g2 g3 g4 g5 q0 q1 q2 q3 q4 q5 c1;go_simp;gi_wp2;refine rIa (Al.out.mono ?_);clear Aj;rintro e w3 ⟨rfl,Af⟩;have HP:=Hd Af;clear Af;gi_wp2;refine jW (qBj (by rfl) _ _ _) rfl ?_;exact⟨⟨_,rfl⟩,HP.out⟩
   have Ah:=Hd (fun X (hX:Below wr.heap.size wr X)=>HR.out k X hkm (Ai.out k wr X HJ.out hX));have An:=Hd (fun X (hX:Below wr.heap.size wr X)=>HY.out k X (Ai.out k wr X HJ.out hX));rw[ey,ez]at Ah;have As:b<wr.heap.size:=qF Ac Ad.1;have Ak:bp<wr.heap.size:=qK wr _ c1;have Ap:IntKind.i64.wrap (k:Int)=(k:Int):=by rw[zU];omega
   have Aq:(k:Int)<(n:Int):=by omega
   have At:(0:Int)<=(k:Int)+1:=by omega
   clear Ab Aa Ad ey ez e5 e6 Ae Ac;gi_wp2;refine Flow.wIr 11 (Flow.sp3 [.inl ?_,.inl ?_,.inl ?_,.inl ?_,.inl ?_,.inl ?_,.inl ?_,.inl ?_,.inl ?_,.inl ?_,.inl ?_]) (by kernel_rfl) (by kernel_rfl) ?_ ?_;rotate_left 11
   ·refine Flow.sm2 ?_
    repeat(first|exact Flow.ln2|refine Flow.li2 ?_)
   all_goals try simp only[qL,qY,qM,qV]
   iterate 11 (refine Flow.tvK rfl (fun K hK=>⟨fun w hw hG=>?_,?_⟩);(have Av:=Flow.bc4 hw;clear hG hw;unfold Flow.Runs Flow.yields;go_simp;try rfl);go_simp;refine hK _ ?_;clear hK K)
   refine Flow.tn2 fun w2 hw2 hG=>?_;clear hG;have Aj:=An.out w2 hw2 #[.agg #[y0,y1,y2,y3,y4,y5],.agg #[z0,z1,z2,z3,z4,z5]] rfl;have Al:=Hd (Ah.out w2 hw2);clear hw2 g0 g1 g2 g3 g4 g5 q0 q1 q2 q3 q4 q5 c1;go_simp;gi_wp2;refine rIa (Al.out.mono ?_);clear Aj;rintro e w3 ⟨rfl,hinv⟩;have HV:=Hd hinv;clear hinv;gi_wp2;go_roundw
   case rel=>exact⟨k+1,by omega,by go_num,HV.out⟩
   case measure=>simp[intOf];omega
