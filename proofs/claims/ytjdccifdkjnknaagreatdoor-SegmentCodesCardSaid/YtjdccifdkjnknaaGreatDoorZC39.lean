/- Joined. -/
import Derived.Test.YtjdccifdkjnknaaGreatDoorZC38
set_option maxRecDepth 100000
set_option maxHeartbeats 4000000
namespace Go.Proofs.Q9
open Go.RowKit Go.Sort
theorem ra57(n w:Nat)(W:World)(hn:n<=1000)(hw:w<=16):Calls Tryz.prog 198 #[.int .i64 n,.int .i64 w] W fun e w'=>e = .returned (.int .i64 (Tess.sP n w:Nat))/\W=w':=by
 have hm:n*w<=1000*16:=yh hn hw;have h1:(n:Int)*(w:Int)=((n*w:Nat):Int):=by simp
 by_cases hn0:n=0
 ·subst hn0;have h2:((0:Nat):Int)<=0:=by decide
  rw[show Tess.sP 0 w=0 by simp[Tess.sP]];go_enter Tryz.func198,Tryz.ntmps198;go_wp2;go_ret;exact⟨rfl,rfl⟩
 ·have h2:¬(n:Int)<=0:=by omega
  by_cases hw0:w=0
  ·subst hw0;have h3:((0:Nat):Int)<=0:=by decide
   rw[show Tess.sP n 0=0 by simp[Tess.sP]];clear hn0;go_enter Tryz.func198,Tryz.ntmps198;go_wp2;go_ret;exact⟨rfl,rfl⟩
  ·have h3:¬(w:Int)<=0:=by omega
   obtain⟨m,Aa⟩:=Xq (n*w)
   rw[<-Aa]at h1 hm;obtain⟨q,hq⟩:=Xq ((m+7)/8)
   rw[show Tess.sP n w=q by rw[hq,Aa];rfl];have e1:wrap64 ((n:Int)*(w:Int))=(m:Int):=by rw[h1];unfold wrap64;omega
   have e2:wrap64 ((m:Int)+7)=(m:Int)+7:=by unfold wrap64;omega
   have e3:((m:Int)+7).tdiv 8=(q:Int):=by rw[qAo (by omega)];omega
   have e4:((m:Int)+7)/8=(q:Int):=by omega
   clear hn0 hw0 Aa hq;go_enter Tryz.func198,Tryz.ntmps198;go_wp2;go_ret
   first|exact⟨rfl,rfl⟩|(refine⟨?_,rfl⟩;show Ending.returned (.int .i64 _)=_;congr 2;rw[h1];omega)
theorem wb4(b:UInt8):wrap64 (b.toNat:Int)=(b.toNat:Int):=by have:=b.toNat_lt;unfold wrap64;omega
theorem dbd{B:Nat}{a w:World}(h:Below B a w)(n:Nat):Below B a (w.drewN n):=⟨h.os,h.tape,h.output,h.size,h.block⟩
def UnpP(s:ByteArray)(w:World)(e:Ending)(w':World):Prop:=(∃v,e = .returned (.tuple #[v,.string (Tess.uP s).2.1,.int .i64 ((Tess.uP s).2.2:Nat)])/\SlOf w' v (iO (Tess.uP s).1))/\Below w.heap.size w w'
theorem ra16(s:ByteArray)(w:World)(hs:s.size<=1000000):Calls Tryz.prog 152 #[.string s] w (UnpP s w):=by
 unfold UnpP;obtain⟨U,hU⟩:=Xq (Tess.uP s)
 rw[<-hU];have Ax:=ra5 s w (by unfold maxLen;omega);unfold GP2 at Ax;have Bz:=Tess.gWs s;have Ad:=Tess.gWc2 (s:=s);unfold Tess.uP at hU;obtain⟨⟨n,r0,c⟩,hg⟩:∃g,g=Tess.getW s:=⟨_,rfl⟩
 rw[<-hg]at Ax Bz Ad hU;simp only at Ax Bz Ad hU;have HG:=Hd Ax;have HU:=Hd hU;have Ak:=Hd Ad;clear Ax hg hU Ad;by_cases hc:c=0;rotate_left
 ·have C4:((c:Int) !=0)=true:=by rw[zj];omega
  have HE:=Hd (show U=([],s,c) by rw[HU.out,qR hc]);clear hc;go_enter Tryz.func152,Tryz.ntmps152;go_wp2_with (fail);go_at_call 195;refine HG.out.mono ?_;rintro e w1 ⟨rfl,Ac⟩;have Ae:=Hd Ac;clear Ac;go_wp2_with (fail);go_ret3;rw[HE.out];exact⟨⟨_,rfl,SlOf.nil _⟩,Ae.out⟩
 subst hc;have Ad:=Ak.out rfl;clear Ak;rw[qH (by simp)]at HU;have As:=Hd Ad;clear Ad;by_cases hn:1000<n
 ·have C3:(1000:Int)<(n:Int):=by omega
  have HE:=Hd (show U=([],s,40) by rw[HU.out,qR hn]);clear hn;go_enter Tryz.func152,Tryz.ntmps152;go_wp2_with (fail);go_at_call 195;refine HG.out.mono ?_;rintro e w1 ⟨rfl,Ac⟩;have Ae:=Hd Ac;clear Ac;go_wp2_with (fail);go_ret3;rw[HE.out];exact⟨⟨_,rfl,SlOf.nil _⟩,Ae.out⟩
 have C3:¬(1000:Int)<(n:Int):=by omega
 rw[qH hn]at HU;cases hr0:r0.data.toList with
 |nil=>
   obtain rfl:r0=ByteArray.empty:=by obtain⟨⟨d⟩⟩:=r0;have:d=[]:=hr0;subst this;rfl
   have HE:=Hd (show U=([],s,21) by rw[HU.out];rfl);clear hr0;go_enter Tryz.func152,Tryz.ntmps152;go_wp2_with (fail);go_at_call 195;refine HG.out.mono ?_;rintro e w1 ⟨rfl,Ac⟩;have Ae:=Hd Ac;clear Ac;go_wp2_with (fail);go_ret3;rw[HE.out];exact⟨⟨_,rfl,SlOf.nil _⟩,Ae.out⟩
 |cons b t=>
   have Cs:r0.size=t.length+1:=by have:r0.data.toList.length=r0.size:=ju;rw[hr0]at this;simpa using this.symm
   have Bh:∀k (h:k<r0.size) (h':k<(b::t).length),r0[k]=(b::t)[k]:=fun k h h'=>by have e:r0[k]=r0.data.toList[k]'(by rw[hr0];exact h'):=rfl;rw[e];simp only[hr0]
   have B8:=Hd Bh;have Ca:=Hd (Tess.me2 hr0);obtain⟨wd,Az⟩:=Xq b.toNat
   simp only[hr0]at HU;rw[<-Az]at HU;have Br:0<r0.size:=by omega
   have Co:((r0[0]).toNat:Int)=(wd:Int):=by rw[Bh 0 Br (by simp),Az];rfl
   have Ce:(0:Int)<(r0.size:Int):=by omega
   have Db:r0.toList.isEmpty=false:=by rw[jn,hr0];rfl
   have Bl:wd<256:=by have:=b.toNat_lt;omega
   rw[hr0]at As;have C0:=Hd Az;clear Bh hr0 Az;have A9:IntKind.i64.wrap (n:Int)=(n:Int):=by rw[zU];omega
   have Au:wrap64 (n:Int)=(n:Int):=by unfold wrap64;omega
   by_cases h16:16<wd
   ·have Bi:(16:Int)<(wd:Int):=by omega
    have HE:=Hd (show U=([],s,40) by rw[HU.out,qR h16]);clear h16;go_enter Tryz.func152,Tryz.ntmps152;go_wp2_with (fail);go_at_call 195;refine HG.out.mono ?_;rintro e w1 ⟨rfl,Ac⟩;have Ae:=Hd Ac;clear Ac;go_wp2_with (fail);go_ret3;rw[HE.out];exact⟨⟨_,rfl,SlOf.nil _⟩,Ae.out⟩
   have Bi:¬(16:Int)<(wd:Int):=by omega
   rw[qH h16]at HU;have B0:=Hd (fun W=>ra57 n wd W (by omega) (by omega))
   have Cv:Tess.sP n wd<=2001:=by have:n*wd<=1000*16:=yh (by omega) (by omega);unfold Tess.sP;omega
   have Bq:=Hd (Tess.sg2 n wd);have Bw:n*wd<=16000:=qt (yh (show n<=1000 by omega) (show wd<=16 by omega)) (by decide);have Cg:=Hd (fun(T:List UInt8) (hT:T.length=Tess.sP n wd)=>Tess.pa6 n wd b T C0.out.symm (by omega) hT);generalize Tess.sP n wd=sz at *;by_cases hts:t.length<sz
   ·have A4:((r0.size:Int)-1)<(sz:Int):=by omega
    have HE:=Hd (show U=([],s,21) by rw[HU.out,qR hts]);clear hts;go_enter Tryz.func152,Tryz.ntmps152;go_wp2_with (fail);go_at_call 195;refine HG.out.mono ?_;rintro e w1 ⟨rfl,Ac⟩;have Ae:=Hd Ac;clear Ac;go_wp2_with (fail);go_at_call 198;refine(B0.out _).mono ?_;rintro e w2 ⟨rfl,rfl⟩;go_wp2_with (fail);go_ret3;rw[HE.out];exact⟨⟨_,rfl,SlOf.nil _⟩,Ae.out⟩
   have A4:¬((r0.size:Int)-1)<(sz:Int):=by omega
   rw[qH hts]at HU;obtain⟨T,hT⟩:=Xq (t.take sz)
   have Aw:=Hd (show T.length=sz by rw[hT,qy];omega)
   have Bo:=Hd (show ∀k (h:k<sz) (h':k<T.length) (h2:k+1<r0.size),r0[k+1]=T[k]from fun k h h' h2=>by
    rw[B8.out (k+1) h2 (by simp;omega)]
    simp only[hT,zR,yP])
   rw[<-hT]at HU;have Cf:=Hd hT;clear hT;obtain⟨i0,Bs,Bm,B1,Bv⟩:=zF (P:=Tryz.prog) (e:=3) (z:=.int .i64 0) (size:=1) (bytes:=8) (by kernel_rfl);go_enter Tryz.func152,Tryz.ntmps152;go_wp2_with (fail);go_at_call 195;refine HG.out.mono ?_;rintro e w1 ⟨rfl,Ac⟩;have Ae:=Hd Ac;clear Ac;go_wp2_with (fail);go_at_call 198;refine(B0.out _).mono ?_;rintro e w2 ⟨rfl,rfl⟩;go_wp2_with (fail);clear Co A9 Au Br Ce
   go_loopw [11,12] (fun vo vi wr=>∃k:Nat,k<=sz/\vi = .int .i64 ((k:Int)+1)/\wr.ownsRow w.heap.size 3 1 vo (8*k) (iO (Tess.bitsOf (T.take k)))/\Below w.heap.size w wr) (fun _ i _=>sz+1-(intOf i).toNat)
   case atStart=>exact⟨0,qN _,rfl,qg _ _ _ _,Ae.out⟩
   case round=>
    obtain⟨k,hk,rfl,Ag,hB⟩:=hrel;have HO:=Hd Ag;have HB:=Hd hB;clear Ag hB;by_cases hlt:k<sz
    ·have B4:(k:Int)+1<=(sz:Int):=by omega
     have C9:(k:Int)+1<(r0.size:Int):=by omega
     have B5:0<=(k:Int)+1:=by omega
     have A5:k<T.length:=by rw[Aw.out];exact hlt
     have B7:∀h,(r0[((k:Int)+1).toNat]'h)=T[k]:=fun h=>by
      have e:((k:Int)+1).toNat=k+1:=by omega
      simp only[e];exact Bo.out k hlt A5 (by omega)
     have A7:∀h,(r0[k+1]'h)=T[k]:=fun h=>Bo.out k hlt A5 h;have Bg:=Hd (show Tess.bitsOf (T.take (k+1))=Tess.bitsOf (T.take k)++Tess.dN 8 T[k].toNat from Tess.fn3 _ T k A5);have Cp:=Hd (ra7 T[k].toNat 8 (by decide) wr);go_wp2_with (fail);rw[wb4];go_at_call 102;refine Cp.out.mono ?_;rintro e w3 ⟨⟨v3,rfl,Aj⟩,Ba⟩;have Bb:=Hd (Bt HB.out Ba);have Bj:=Hd (ob2 HO.out Ba);obtain⟨ad,c2,rfl,Cd,Aq,Bu⟩:=oo Aj
     have Bd:=Hd Aq;have Ch:=Hd Bu;clear Ba Aj Aq Bu;go_wp2_with (at_builtin;refine wLa rfl _ _ 96 rfl w.heap.size 3 i0 (.int .i64 0) 8 Tryz.underlying96 Bs Bm B1 Bv rfl _ (8*k) _ rfl Bj.out ad 8 c2 (iO (Tess.dN 8 T[k].toNat)) rfl Cd Bd.out Ch.out (fun u hu=>by obtain⟨y,_,rfl⟩:=qd.1 hu;rfl) (by unfold maxLen;omega) (by omega) Bb.out.size ?_);intro v' w4 Ai B2
     have Cr:=Hd (Bb.out.grown B2 Bb.out.size (fun j e=>(Bj.out.lt j e).1));have Cn:=Hd Ai;clear Ai B2 B7 A7;go_wp2_with (fail);go_roundw
     case rel=>exact⟨k+1,by omega,by go_num,by rw[Bg.out];have e:=Cn.out;unfold iO at *;rw[<-qs]at e;exact e,Cr.out⟩
     case measure=>simp[intOf];omega
    ·have B4:¬((k:Int)+1<=(sz:Int)):=by omega
     obtain rfl:k=sz:=by omega
     have ho:=HO.out;rw[qh (by rw[Aw.out];exact qC _)]at ho;have HO:=Hd ho;clear ho;obtain⟨Aa,Ab⟩:=Xq (Tess.bitsOf T)
     have Cz:=Hd (show Aa.length=8*k by rw[Ab,(Tess.bv2 T).2.1,Aw.out]);have Cx:=Hd (show ∀x∈Aa,x<2 by rw[Ab];exact(Tess.bv2 T).2.2);have Cu:=Hd (show ∀i,(i+1)*wd<=8*T.length->Tess.fV 1 ((Aa.drop (i*wd)).take wd)=Tess.numK wd T i by rw[Ab];exact Tess.nKb T wd);rw[<-Ab]at HO;clear Ab;obtain⟨wa,Cc⟩:=Xq wr
     subst Cc;go_wp2_with (fail);go_loopw [13,14] (fun vo vi wr=>∃i:Nat,i<=n/\vi = .int .i64 (i:Nat)/\wr.ownsRow wa.heap.size 3 1 vo i (iO ((List.range i).map (Tess.numK wd T)))/\Below wa.heap.size wa wr) (fun _ i _=>n-(intOf i).toNat)
     case atStart=>exact⟨0,qN _,rfl,qg _ _ _ _,qJ _ _⟩
     case round=>
      obtain⟨i,C5,rfl,Ag,hB⟩:=hrel;have HQ:=Hd Ag;have Ap:=Hd hB;clear Ag hB;by_cases hli:i<n
      ·have Bf:(i:Int)<(n:Int):=by omega
       have Cw:(i+1)*wd<=n*wd:=jO _ hli;have e1:i*wd+wd=(i+1)*wd:=by rw[jd,ya]
       have HV:=Hd (Cu.out i (by have:=Bq.out;rw[Aw.out];omega));have Am:(i:Int)*(wd:Int)=((i*wd:Nat):Int):=by simp
       have Ar:wrap64 ((i:Int)*(wd:Int))=((i*wd:Nat):Int):=by rw[Am];unfold wrap64;omega
       obtain⟨iw,Ay⟩:=Xq (i*wd)
       rw[<-Ay]at HV Ar Am e1;have Ao:iw+wd<=8*k:=by have:=Bq.out;omega
       have B9:=Hd Ar;have C6:=Hd Bw;clear Cw Ay e1 Ar Am Bw;obtain⟨wb,Ck⟩:=Xq wr
       subst Ck;go_wp2_with (fail);go_loopw [15,16] (fun vv vj wr=>∃(j v:Nat),j<=wd/\vj = .int .i64 (j:Nat)/\vv = .int .i64 (v:Nat)/\v=Tess.fV 1 ((Aa.drop iw).take j)/\v<2^j/\wr=wb) (fun _ j _=>wd-(intOf j).toNat)
       case atStart=>exact⟨0,0,qN _,rfl,rfl,rfl,by decide,rfl⟩
       case round=>
        obtain⟨j,v,hj,rfl,rfl,hv,Bk,rfl⟩:=hrel;by_cases hlj:j<wd
        ·have A6:(j:Int)<(wd:Int):=by omega
         have Av:iw+j<8*k:=qF (Nat.add_lt_add_left hlj _) Ao;obtain⟨g,cp,e2,_,Cm,_,Ah⟩:=oc2 HO.out (Nat.lt_of_le_of_lt (qN _) Av);have A3:iw+j<Aa.length:=Cz.out▸Av;have A1:=(Ah (iw+j) Av).1;rw[qp,qD A3,qj]at A1;simp only[ji]at A1;have Bx:=(Ap.out.cell (p:=⟨g,iw+j,none⟩) Cm).trans A1;have C2:=Cx.out _ (qP A3)
         have Cq:=Hd (show 2*v+Aa[iw+j]=Tess.fV 1 ((Aa.drop iw).take (j+1)) by
          have hd:j<(Aa.drop iw).length:=by rw[zn];omega
          rw[qQ hd,Tess.fVs,<-hv,List.getElem_drop]
          omega)
         have Bc:v<65536:=by
          have h3:2^j<=2^16:=zf (by decide) (by omega);have e:(2:Nat)^16=65536:=by decide
          omega
         have Cb:=Hd (show 2*v+Aa[iw+j]<2^(j+1) by rw[yN];omega);generalize Aa[iw+j]=bt at *;obtain⟨ij,At⟩:=Xq (iw+j)
         rw[<-At]at Bx Av;have M1:=Hd (show wrap64 (2*(v:Int))=2*(v:Int) by unfold wrap64;omega);have M2:=Hd (show wrap64 ((iw:Int)+(j:Int))=(ij:Int) by unfold wrap64;omega);have M3:=Hd (show wrap64 (2*(v:Int)+(bt:Int))=2*(v:Int)+(bt:Int) by unfold wrap64;omega);have M4:=Hd (show(ij:Int)<((8*k:Nat):Int) by omega);rw[e2];have Da:=qK _ _ Bx;clear A1 Ah hv Bk At Av A3 Ao Bc C2;have m1:=M1.out
         have m2:=M2.out;have m3:=M3.out;have m4:=M4.out;have Ar:=B9.out;generalize 8*k=k8 at *;go_wp2_with (fail);clear m1 m2 m3 m4 Ar;go_roundw
         case rel=>exact⟨j+1,2*v+bt,by omega,by go_num,zM (Value.int .i64) (by rw[M3.out];omega),Cq.out,Cb.out,trivial⟩
         case measure=>simp[intOf];omega
        ·have A6:¬(j:Int)<(wd:Int):=by omega
         obtain rfl:j=wd:=by omega
         rw[HV.out]at hv;have C8:=Hd hv;have Dc:=Hd hli
         have Bg:=Hd (show iO ((List.range (i+1)).map (Tess.numK j T))=iO ((List.range i).map (Tess.numK j T))++[.int .i64 (v:Nat)] by
          unfold iO
          rw[xX,qs,qs,hv];rfl)
         clear hv Bk Ao;go_wp2_with (at_builtin;refine qq _ rfl _ _ 96 rfl wa.heap.size 3 i0 (.int .i64 0) 1 8 Tryz.underlying96 Bs Bm B1 Bv rfl (by decide) _ _ _ rfl (HQ.out.alloc _) ⟨wr.heap.size,0,none⟩ 1 1 [.int .i64 (v:Nat)] rfl rfl (zh _ _ _) (by simp[Value.oneCell']) (by unfold maxLen;omega) (by omega) (by have:=Ap.out.size;simp;omega) ?_);intro v' w5 Al Af _
         have C1:=Hd ((Ap.out.alloc Ap.out.size (.cells #[.int .i64 (v:Nat)] 3)).grown Af (by have:=Ap.out.size;simp;omega) (fun m e=>(HQ.out.lt m e).1));have B6:=Hd Al;clear Al Af;go_wp2_with (fail);go_roundw
         case rel=>exact⟨i+1,by omega,by go_num,by rw[Bg.out];have e:=B6.out;simpa[iO]using e,C1.out⟩
         case measure=>simp[intOf];omega
      ·have Bf:¬(i:Int)<(n:Int):=by omega
       obtain rfl:i=n:=by omega
       obtain⟨l,hl⟩:=Xq ((List.range i).map (Tess.numK wd T))
       have A0:=Hd hl;have Ct:=Hd (show l.length=i by rw[hl,qX,xK])
       have Cy:=Hd (show ∀x∈l,x<=65535 by
        rw[hl];intro x hx;obtain⟨q,_,rfl⟩:=qd.1 hx;have h1:Tess.numK wd T q<2^wd:=yX _ (jh _);have h2:2^wd<=2^16:=zf (by decide) (by omega);have h3:(2:Nat)^16=65536:=by decide
        omega)
       rw[<-hl]at HQ;have HP:=Hd (ra8 _ l wr (SlOf.owned HQ.out) Cy.out (by rw[Ct.out];omega));clear hl;go_wp2_with (fail);go_at_call 49;refine HP.out.mono ?_;rintro e w6 ⟨rfl,A8⟩;have Bn:=Hd (Bt HB.out (Bt Ap.out A8));have Ci:=Hd (ob2 HQ.out A8);clear A8;have Be:=As.out;have A2:s.data.toList.length=s.size:=ju;rw[Be,qI,qU]at A2;obtain⟨Y,hY⟩:=XQ (s.extract 0 (s.size-(t.length+1)+1+k))
       obtain⟨R,hR⟩:=XQ (r0.extract (1+k) (t.length+1))
       have B3:Y=Tess.mk (Tess.putL i++b::T):=by rw[<-hY];have:=Tess.mt2 s.data.toList (s.size-(t.length+1)+1+k);rw[Tess.mo]at this;rw[this,Be,Cf.out];congr 1;rw[show s.size-(t.length+1)+1+k=(Tess.putL i).length+(k+1) by omega,List.take_length_add_append,qL]
       have Bp:R=Tess.mk (t.drop k):=by rw[<-hR,<-Cs];have e:=Tess.md2 (b::t) (1+k);rw[<-Ca.out,yO 1 k,qM]at e;rw[yO 1 k];exact e
       have An:Tess.mk (Tess.pN2 l)=Y↔(Tess.valB T%2^(8*T.length-i*wd)=0/\Tess.widN l=wd):=by rw[B3,A0.out,<-Cg.out T Aw.out];exact⟨fun h=>(Tess.mi2 h).symm,fun h=>by rw[h]⟩
       have By:=Hd (show U=if Tess.mk (Tess.pN2 l)=Y then(l,R,0)else([],s,40) by
        rw[HU.out];by_cases h:Tess.mk (Tess.pN2 l)=Y
        ·obtain⟨h1,h2⟩:=An.1 h;rw[qR h,qH (by rw[<-A0.out];rintro(h3|h3);exact h3 h1;exact h3 h2),Bp,A0.out]
        ·rw[qH h,qR (by
          rw[<-A0.out];by_cases h1:Tess.valB T%2^(8*T.length-i*wd)=0
          ·exact .inr fun h2=>h (An.2 ⟨h1,h2⟩)
          ·exact .inl h1)])
       generalize Tess.mk (Tess.pN2 l)=P at *;have Cl:=Hd (SlOf.owned Ci.out);have C7:t.length+1<=s.size:=by omega
       have Dd:=Hd A2;clear Be A2 B3 Bp An;by_cases hPY:P=Y
       ·have HE:=Hd (show U=(l,R,0) by rw[By.out,qR hPY]);have Cj:(P.toList==Y.toList)=true:=by rw[hPY];simp
        clear hPY;go_wp2_with (fail);go_quiet (fail);rw[hR];go_wp2_with (fail);go_ret3;rw[HE.out];exact⟨⟨_,rfl,Cl.out.below (dbd (qJ _ _) _)⟩,dbd Bn.out _⟩
       ·have HE:=Hd (show U=([],s,40) by rw[By.out,qH hPY]);have Cj:(P.toList==Y.toList)=false:=by rw[qi];intro h;exact hPY (Tess.toList_inj h)
        clear hPY;go_wp2_with (fail);go_ret3;rw[HE.out];exact⟨⟨_,rfl,SlOf.nil _⟩,Bn.out⟩
end Go.Proofs.Q9
namespace Tess
open Go Kl Go.RowKit Go.Proofs.Q9
theorem dWr(s:ByteArray)(h:(decW s).2.2=0):(decW s).2.1.size<=s.size:=by obtain⟨_,h2,_⟩:=df4 s h;have:=zM ByteArray.size h2;rw[yJ]at this;omega
theorem uPf(s:ByteArray):(uP s).1.length<=1000:=by
 unfold uP;split
 ·exact qN _
 split
 ·exact qN _
 split
 ·exact qN _
 dsimp only;split
 ·exact qN _
 split
 ·exact qN _
 split
 ·exact qN _
 simp;omega
theorem vs5(O:List DV)(k:Nat)(h:k<O.length):vC ((O.take k).map valOf)++[.string (valOf O[k]).s,.bool (valOf O[k]).null]=vC ((O.take (k+1)).map valOf):=by rw[qQ h,qs,vCa];rfl
end Tess
namespace Go.Proofs.Q9
open Go.RowKit Go.Sort
open Tess (DV)
def DA2(N:Nat)(v:Value)(o:Option (List DV))(W:World):Prop:=
 match o with
 |none=>v = .slice none 0 0
 |some l=>W.ownsRow N 47 2 v l.length (vC (l.map Tess.valOf))
theorem cell_two_new(w:World)(a b:Value)(t:TypeId)(j:Nat)(u:Value)(h:([a,b]:List Value)[j]?=some u):(w.alloc (.cells #[a,b] t)).cell? ((⟨w.heap.size,0,none⟩:Addr).add j)=some u:=by
 rcases j with _|_|j
 ·cases h;simp[Addr.add]
 ·cases h;simp[Addr.add]
 ·simp at h
theorem ra21(s:ByteArray)(n:Nat)(w:World)(hs:s.size<=1000000):Calls Tryz.prog 105 #[.string s,.int .i64 n] w fun e w'=>(∃v,e = .returned (.tuple #[v,.bool (Tess.dimR n s).isSome])/\DA2 w.heap.size v (Tess.dimR n s) w')/\Below w.heap.size w w':=by
 obtain⟨T,hT⟩:=Xq (Tess.dimR n s)
 rw[<-hT];have Ag:=ra23 s w hs;have Ab:=Tess.dWr s;unfold DP2 at Ag;unfold Tess.dimR at hT;obtain⟨⟨d,r,c⟩,hu⟩:∃u,u=Tess.decW s:=⟨_,rfl⟩
 rw[<-hu]at Ag Ab hT;dsimp only at Ag Ab hT;have HD:=Hd Ag;have HT:=Hd hT;clear Ag hu hT;by_cases hc:c=0;rotate_left
 ·have Bb:((c:Int) !=0)=true:=by rw[zj];omega
  have HN:=Hd (show T=none by rw[HT.out,qH hc]);clear hc Ab;go_enter Tryz.func105,Tryz.ntmps105;go_wp2_with (fail);go_at_call 151;refine HD.out.mono ?_;rintro e w1 ⟨v1,rfl,Ah,Ad⟩;have Ai:=Hd Ad;clear Ah Ad;go_wp2_with (fail);go_ret2;rw[HN.out];exact⟨⟨_,rfl,rfl⟩,Ai.out⟩
 subst hc;have Ab:=Ab rfl;rw[qR rfl]at HT;have As:=fun W=>ra16 r W (by omega);have Ax:=Tess.uPf r;unfold UnpP at As;obtain⟨⟨ls,r2,c2⟩,hu⟩:∃u,u=Tess.uP r:=⟨_,rfl⟩
 simp only[<-hu]at As Ax HT;have HU:=Hd As;clear As hu Ab;by_cases hc:c2=0;rotate_left
 ·have Bb:((c2:Int) !=0)=true:=by rw[zj];omega
  have HN:=Hd (show T=none by rw[HT.out,qH (fun h=>hc h.1)]);clear hc;go_enter Tryz.func105,Tryz.ntmps105;go_wp2_with (fail);go_at_call 151;refine HD.out.mono ?_;rintro e w1 ⟨v1,rfl,Ah,Ad⟩;have Ai:=Hd Ad;clear Ah Ad;go_wp2_with (fail);go_at_call 152;refine(HU.out w1).mono ?_;rintro e w2 ⟨⟨v2,rfl,Af⟩,Ae⟩;have Aj:=Hd (Bt Ai.out Ae);clear Af Ae;go_wp2_with (fail);go_ret2;rw[HN.out]
  exact⟨⟨_,rfl,rfl⟩,Aj.out⟩
 subst hc;by_cases hr2:r2.size=0;rotate_left
 ·have Bo:r2.toList.isEmpty=false:=by
   cases h:r2.toList with
   |nil=>
     refine absurd ?_ hr2;have:r2.data.toList=[]:=by simpa[jn]using h
     simpa using zM List.length this
   |cons a l=>rfl
  have HN:=Hd (show T=none by rw[HT.out,qH hr2];split<;>rfl);clear hr2;go_enter Tryz.func105,Tryz.ntmps105;go_wp2_with (fail);go_at_call 151;refine HD.out.mono ?_;rintro e w1 ⟨v1,rfl,Ah,Ad⟩;have Ai:=Hd Ad;clear Ah Ad;go_wp2_with (fail);go_at_call 152;refine(HU.out w1).mono ?_;rintro e w2 ⟨⟨v2,rfl,Af⟩,Ae⟩;have Aj:=Hd (Bt Ai.out Ae);clear Af Ae;go_wp2_with (fail);go_ret2;rw[HN.out]
  exact⟨⟨_,rfl,rfl⟩,Aj.out⟩
 obtain rfl:r2=ByteArray.empty:=by obtain⟨⟨l⟩⟩:=r2;have:l=[]:=yl.1 hr2;subst this;rfl
 clear hr2;by_cases hl:ls.length=n;rotate_left
 ·have Br:((ls.length:Int) !=(n:Int))=true:=by rw[zj];omega
  have HN:=Hd (show T=none by rw[HT.out,qH (fun h=>hl h.2)]);clear hl;go_enter Tryz.func105,Tryz.ntmps105;go_wp2_with (fail);go_at_call 151;refine HD.out.mono ?_;rintro e w1 ⟨v1,rfl,Ah,Ad⟩;have Ai:=Hd Ad;clear Ah Ad;go_wp2_with (fail);go_at_call 152;refine(HU.out w1).mono ?_;rintro e w2 ⟨⟨v2,rfl,Af⟩,Ae⟩;unfold iO at Af;obtain⟨a2,Aw,rfl,_,_⟩:=so3 _ Af;have Aj:=Hd (Bt Ai.out Ae);clear Af Ae
  go_wp2_with (fail);go_ret2;rw[HN.out];exact⟨⟨_,rfl,rfl⟩,Aj.out⟩
 subst hl;rw[qR ⟨rfl,rfl⟩,qR (by rfl)]at HT;obtain⟨i0,hi,A0,A8,A6⟩:=zF iV;obtain⟨O,hO⟩:=Xq (ls.map fun x=>(Tess.vA2 d x).getD none:List DV)
 have HO:=Hd hO;have Ba:O.length=ls.length:=by rw[hO];simp
 have At:=Hd Ba;clear hO Ba;go_enter Tryz.func105,Tryz.ntmps105;go_wp2_with (fail);go_at_call 151;refine HD.out.mono ?_;rintro e w1 ⟨v1,rfl,Ah,Ad⟩;obtain⟨a1,Bi,rfl,Bm,Az⟩:=so3 _ Ah;have Bk:=Hd Az;have Ai:=Hd Ad;clear Ah Ad Az;go_wp2_with (fail);go_at_call 152;refine(HU.out w1).mono ?_;rintro e w2 ⟨⟨v2,rfl,Af⟩,Ae⟩;unfold iO at Af;obtain⟨a2,Aw,rfl,Bh,A1⟩:=so3 _ Af;have Bj:=Hd A1
 have Aj:=Hd (Bt Ai.out Ae);have Ao:=Hd Ae;clear Af Ae A1;go_wp2_with (fail);go_loopw [12,13] (fun vo vi wr=>∃k:Nat,k<=ls.length/\vi = .int .i64 (k:Nat)/\wr.ownsRow w2.heap.size 47 2 vo k (vC ((O.take k).map Tess.valOf))/\(∀j,j<k->Tess.vA2 d (ls.getD j 0)≠none)/\Below w2.heap.size w2 wr) (fun _ i _=>ls.length-(intOf i).toNat)
 case atStart=>exact⟨0,qN _,rfl,qg _ _ _ _,fun j hj=>absurd hj (zH j),qJ _ _⟩
 case round=>
  obtain⟨k,hk,rfl,Aq,An,hB⟩:=hrel;have Am:=Hd Aq;have A5:=Hd An;have HB:=Hd hB;clear Aq An hB;by_cases hlt:k<ls.length
  ·have Bc:(k:Int)<(ls.length:Int):=by omega
   obtain⟨lb,lo,rfl,Bn,Bf⟩:=Bj.out wr HB.out k hlt;obtain⟨x,hx⟩:=Xq (ls[k])
   rw[<-hx]at Bf;have A9:ls.getD k 0=x:=by rw[qE,qD hlt,hx];rfl
   have HX:=Hd hx;have Bd:=Hd A9;have A4:k<O.length:=by rw[At.out];exact hlt
   have A7:=Hd (Tess.vs5 O k A4);have Ay:=Hd (show O[k]=(Tess.vA2 d x).getD none by simp only[HO.out,zL,HX.out]);obtain⟨ok,An⟩:=Xq (O[k])
   rw[<-An]at A7 Ay;clear hx A9 An A4
   have Ar:RowKit.Hid (∀(v':Value) (w3:World) (s':ByteArray) (b':Bool),Tess.valOf ok=⟨s',b'⟩->Tess.vA2 d x≠none->w3.ownsRow w2.heap.size 47 2 v' (k+1) (vC ((O.take k).map Tess.valOf)++[.string s',.bool b'])->w3.ownsRow w2.heap.size 47 2 v' (k+1) (vC ((O.take (k+1)).map Tess.valOf))/\(∀j,j<k+1->Tess.vA2 d (ls.getD j 0)≠none)):=Hd fun v' w3 s' b' h1 h2 h3=>by
    rw[<-A7.out,h1];refine⟨h3,fun j hj=>?_⟩;by_cases e:j=k
    ·rw[e,Bd.out];exact h2
    ·exact A5.out j (by omega)
   rcases Nat.lt_trichotomy x d.length with Ak|Ak|Ak
   ·have A3:¬(d.length:Int)<(x:Int):=by omega
    have Bg:((x:Int)==(d.length:Int))=false:=by rw[qi];omega
    have Bq:(x:Int)<(d.length:Int):=by omega
    obtain⟨db,dO,rfl,Bp,Bl⟩:=Bk.out wr (Ao.out.trans (HB.out.mono Ao.out.size)) x Ak;obtain⟨sx,Av⟩:=Xq (d[x])
    rw[<-Av]at Bl;have Al:Tess.vA2 d x=some (some sx):=by unfold Tess.vA2;rw[qH (by omega),dif_pos Ak,Av]
    have HA:=Hd (fun v' w3=>Ar.out v' w3 sx false (by rw[Ay.out,Al];rfl) (by rw[Al];simp));clear Av Al Ak
    go_wp2_with (at_builtin;refine qq _ rfl _ _ 48 rfl w2.heap.size 47 i0 (.agg #[.string ByteArray.empty,.bool false]) 2 24 Tryz.underlying48 hi A0 A8 A6 rfl (by decide) _ _ _ rfl (ob2 Am.out ((qJ _ _).alloc (qC _) _)) ⟨wr.heap.size,0,none⟩ 1 1 [.string sx,.bool false] rfl rfl (cell_two_new _ _ _ _) (by simp[Value.oneCell']) (by unfold maxLen;omega) (by omega) (by have:=HB.out.size;simp;omega) ?_)
    intro v' w3 Ac Aa _;have Ap:=Hd (HA.out v' w3 (by rw[qAj];exact Ac));have Au:=Hd ((HB.out.alloc HB.out.size _).grown Aa (by have:=HB.out.size;simp;omega) (fun j e=>(Am.out.lt j e).1));clear Ac Aa;go_wp2_with (fail);go_roundw
    case rel=>exact⟨k+1,by omega,by go_num,Ap.out.1,Ap.out.2,Au.out⟩
    case measure=>simp[intOf];omega
   ·have A3:¬(d.length:Int)<(x:Int):=by omega
    have Bg:((x:Int)==(d.length:Int))=true:=by rw[xM];omega
    have Al:Tess.vA2 d x=some none:=by unfold Tess.vA2;rw[qH (by omega),dif_neg (by omega)]
    have HA:=Hd (fun v' w3=>Ar.out v' w3 ByteArray.empty true (by rw[Ay.out,Al];rfl) (by rw[Al];simp));clear Al Ak
    go_wp2_with (at_builtin;refine qq _ rfl _ _ 48 rfl w2.heap.size 47 i0 (.agg #[.string ByteArray.empty,.bool false]) 2 24 Tryz.underlying48 hi A0 A8 A6 rfl (by decide) _ _ _ rfl (ob2 Am.out ((qJ _ _).alloc (qC _) _)) ⟨wr.heap.size,0,none⟩ 1 1 [.string ByteArray.empty,.bool true] rfl rfl (cell_two_new _ _ _ _) (by simp[Value.oneCell']) (by unfold maxLen;omega) (by omega) (by have:=HB.out.size;simp;omega) ?_)
    intro v' w3 Ac Aa _;have Ap:=Hd (HA.out v' w3 (by rw[qAj];exact Ac));have Au:=Hd ((HB.out.alloc HB.out.size _).grown Aa (by have:=HB.out.size;simp;omega) (fun j e=>(Am.out.lt j e).1));clear Ac Aa;go_wp2_with (fail);go_roundw
    case rel=>exact⟨k+1,by omega,by go_num,Ap.out.1,Ap.out.2,Au.out⟩
    case measure=>simp[intOf];omega
   ·have A3:(d.length:Int)<(x:Int):=by omega
    have HN:=Hd (show T=none by rw[HT.out,Tess.mMn _ _ ⟨x,by rw[HX.out];exact qP hlt,by unfold Tess.vA2;rw[qR Ak]⟩]);clear Ak;go_wp2_with (fail);go_ret2;rw[HN.out];exact⟨⟨_,rfl,rfl⟩,Bt Aj.out HB.out⟩
  ·have Bc:¬(k:Int)<(ls.length:Int):=by omega
   obtain rfl:k=ls.length:=by omega
   have A2:T=some O:=by
    rw[HT.out,HO.out];refine Tess.mapM_some _ _ ls fun x hx=>?_;obtain⟨j,hj,rfl⟩:=qAp.1 hx;have h:=A5.out j hj;rw[qE,qD hj,yz]at h;cases hv:Tess.vA2 d ls[j]with
    |none=>exact absurd hv h
    |some y=>rfl
   have Be:=Hd A2;clear A2;go_wp2_with (fail);go_ret2;rw[Be.out];refine⟨⟨_,rfl,?_⟩,Bt Aj.out HB.out⟩;have:=Am.out;rw[qh (by rw[At.out];exact qC _)]at this;show World.ownsRow _ _ _ _ _ O.length _;rw[At.out];exact ol2 this Aj.out.size
end Go.Proofs.Q9
namespace Go.Proofs.Q9
open Go.RowKit Go.Sort
theorem ra62(k:Nat)(w:World)(h:k<18446744073709551616):Calls Tryz.prog 196 #[.int .u64 k] w fun e w'=>e = .returned (.int .i64 (Tess.bN2 k))/\w=w':=by
 obtain⟨q,hq⟩:=Xq (k/2)
 obtain⟨r,hr⟩:=Xq (k%2)
 have e0:(k:Int).tmod 2=(r:Int):=by rw[hr];rfl
 have e1:(k:Int).tdiv 2=(q:Int):=by rw[hq];rfl
 have u1:IntKind.u64.wrap (q:Int)=(q:Int):=by rw[zy];omega
 have u2:IntKind.i64.wrap (q:Int)=(q:Int):=by rw[zU];omega
 have u3:wrap64 (q:Int)=(q:Int):=by unfold wrap64;omega
 by_cases h1:r=1
 ·have c1:((r:Int)==1)=true:=by rw[h1];rfl
  have e2:Tess.bN2 k = -1-(q:Int):=by unfold Tess.bN2;rw[qH (by omega)];omega
  have u4:IntKind.i64.wrap (-1-(q:Int)) = -1-(q:Int):=by rw[zU];omega
  have u5:wrap64 (-1-(q:Int)) = -1-(q:Int):=by unfold wrap64;omega
  rw[e2];clear e2 h1 hq hr;go_enter Tryz.func196,Tryz.ntmps196;go_wp2;go_ret;exact⟨rfl,rfl⟩
 ·have c1:((r:Int)==1)=false:=by rw[qi];omega
  have e2:Tess.bN2 k=(q:Int):=by unfold Tess.bN2;rw[qR (by omega),hq]
  rw[e2];clear e2 h1 hq hr;go_enter Tryz.func196,Tryz.ntmps196;go_wp2;go_ret;exact⟨rfl,rfl⟩
theorem br2(k:Nat)(h:k<18446744073709551616): -9223372036854775808<=Tess.bN2 k/\Tess.bN2 k<=9223372036854775807:=by unfold Tess.bN2;split<;>omega
theorem ra36(s:ByteArray)(w:World)(hs:s.size<=1000000) :
  Calls Tryz.prog 150 #[.string s] w fun e w'=>∃v,e = .returned (.tuple #[v,.string (Tess.uW s).2.1,.int .i64 ((Tess.uW s).2.2:Nat)])/\w'.ownsRow w.heap.size 2 1 v (Tess.uW s).1.length ((Tess.uW s).1.map (.int .i64))/\Below w.heap.size w w':=by
 obtain⟨T,hT⟩:=Xq (if(Tess.getW s).2.2≠0 then([],s,(Tess.getW s).2.2)else if 1000<(Tess.getW s).1 then([],s,20)else Tess.takeN (Tess.getW s).1 0 (Tess.getW s).2.1:List Int×ByteArray×Nat)
 rw[Tess.uWo T hT];obtain⟨U,hU⟩:=Xq (if T.2.2=0 then T else([],s,T.2.2):List Int×ByteArray×Nat)
 rw[<-hU];have HU:=Hd hU;clear hU;have Ad:=ra5 s w (by unfold maxLen;omega);unfold GP2 at Ad;have Ao:=Tess.gWl s;have At:=Tess.gWs s;obtain⟨⟨n,r0,c⟩,hg⟩:∃g,g=Tess.getW s:=⟨_,rfl⟩
 rw[<-hg]at Ad hT Ao At;simp only at Ad hT Ao At;have HG:=Hd Ad;have HT:=Hd hT;obtain⟨i0,hi,Az,A5,Aw⟩:=zF (P:=Tryz.prog) (e:=2) (z:=.int .i64 0) (size:=1) (bytes:=8) (by kernel_rfl);clear Ad hT hg;by_cases hc:c=0;rotate_left
 ·have Av:((c:Int) !=0)=true:=by rw[zj];omega
  have A2:((c:Int)==0)=false:=by rw[qi];omega
  have Ah:=Hd (show T=([],s,c) by rw[HT.out,qR hc]);have HC:=Hd hc;clear hc HT;go_enter Tryz.func150,Tryz.ntmps150;go_wp2_with (fail);go_at_call 195;refine HG.out.mono ?_;rintro e w1 ⟨rfl,Ag⟩;have Ak:=Hd Ag;clear Ag;go_wp2_with (fail);go_ret3;rw[show U=([],s,c) by rw[HU.out,Ah.out,qH HC.out]];exact⟨_,rfl,qg _ _ _ _,Ak.out⟩
 subst hc;by_cases hn:1000<n
 ·have A6:(1000:Int)<(n:Int):=by omega
  have Ah:=Hd (show T=([],s,20) by rw[HT.out,qH (by simp),qR hn]);clear HT hn;go_enter Tryz.func150,Tryz.ntmps150;go_wp2_with (fail);go_at_call 195;refine HG.out.mono ?_;rintro e w1 ⟨rfl,Ag⟩;have Ak:=Hd Ag;clear Ag;go_wp2_with (fail);go_ret3;rw[show U=([],s,20) by rw[HU.out,Ah.out,qH (by simp)]];exact⟨_,rfl,qg _ _ _ _,Ak.out⟩
 have A6:¬(1000:Int)<(n:Int):=by omega
 have Ah:=Hd (show T=Tess.takeN n 0 r0 by rw[HT.out,qH (by simp),qH hn]);clear HT;go_enter Tryz.func150,Tryz.ntmps150;go_wp2_with (fail);go_at_call 195;refine HG.out.mono ?_;rintro e w1 ⟨rfl,Ag⟩;have Ak:=Hd Ag;clear Ag;go_wp2_with (fail)
 go_loopw [6,8,9,10] (fun vr vo vl vi wr=>∃(k:Nat) (o:List Int) (Aa:Int) (r:ByteArray),k<=n/\vi = .int .u64 (k:Nat)/\vl = .int .u64 (IntKind.u64.wrap Aa)/\vr = .string r/\o.length=k/\r.size<=1000000/\Tess.FinU T o (n-k) Aa r 0/\wr.ownsRow w.heap.size 2 1 vo k (o.map (.int .i64))/\Below w.heap.size w wr) (fun _ _ _ i _=>n-(intOf i).toNat)
 case atStart=>exact⟨0,[],0,r0,qN _,rfl,by simp[zy],rfl,rfl,by omega,.inl ⟨rfl,Ah.out⟩,qg _ _ _ _,Ak.out⟩
 case round=>
  obtain⟨k,o,Aa,r,hk,rfl,rfl,rfl,Au,A7,Ab,An,hB⟩:=hrel;have HO:=Hd An;have HB:=Hd hB;have As:=Hd Au;clear An hB Au;by_cases hlt:k<n
  ·have A0:(k:Int)<(n:Int):=by omega
   have Ad:=ra5 r wr (by unfold maxLen;omega);unfold GP2 at Ad;have Ae:=Tess.gWl r;have Am:=Tess.gWs r;rw[show n-k=(n-(k+1))+1 by omega]at Ab;obtain⟨Ap,Al⟩:=Ab.step;obtain⟨⟨m,r',f⟩,hg⟩:∃g,g=Tess.getW r:=⟨_,rfl⟩
   rw[<-hg]at Ad Ae Am Ap Al;simp only at Ad Ae Am Ap Al;have Ar:=Hd Ad;clear Ad hg Ab;by_cases hf:f=0
   ·subst hf;have A1:=Hd (Ap rfl);have A3:=Hd (fun W=>ra62 m W Ae);have Ba:=br2 m Ae;generalize Tess.bN2 m=bk at *;have A9:IntKind.u64.wrap (IntKind.u64.wrap Aa+IntKind.u64.wrap bk)=IntKind.u64.wrap (wrap64 (Aa+bk)):=by simp only[zy];unfold wrap64;omega
    have A8:wrap64 (IntKind.u64.wrap (wrap64 (Aa+bk)))=wrap64 (Aa+bk):=by simp only[zy];unfold wrap64;omega
    have Bb:IntKind.u64.wrap ((k:Int)+1)=(k:Int)+1:=by rw[zy];omega
    clear Ap Al;generalize wrap64 (Aa+bk)=nl at *;go_wp2_with (fail);go_at_call 195;refine Ar.out.mono ?_;rintro e w2 ⟨rfl,Aj⟩;have Ai:=Hd (Bt HB.out Aj);have Aq:=Hd (ob2 HO.out Aj);clear Aj;go_wp2_with (fail);go_at_call 196;refine(A3.out _).mono ?_;rintro e w3 ⟨rfl,rfl⟩
    go_wp2_with (at_builtin;refine qq _ rfl _ _ 49 rfl w.heap.size 2 i0 (.int .i64 0) 1 8 Tryz.underlying49 hi Az A5 Aw rfl (by decide) _ _ _ rfl (Aq.out.alloc _) ⟨w2.heap.size,0,none⟩ 1 1 [.int .i64 nl] rfl rfl (zh _ _ _) (by simp[Value.oneCell']) (by unfold maxLen;omega) (by omega) (by have:=Ai.out.size;simp;omega) ?_);intro v' w4 Af Ac _
    have Ay:=Hd ((Ai.out.alloc Ai.out.size (.cells #[.int .i64 nl] 2)).grown Ac (by have:=Ai.out.size;simp;omega) (fun j e=>(Aq.out.lt j e).1));have A4:=Hd Af;clear Af Ac;go_wp2_with (fail);go_roundw
    case rel=>exact⟨k+1,o++[nl],nl,r',by omega,by go_num,rfl,rfl,by rw[qI,As.out];rfl,by omega,A1.out,by rw[qs];exact A4.out,Ay.out⟩
    case measure=>simp[intOf];omega
   ·have Av:((f:Int) !=0)=true:=by rw[zj];omega
    have Ah:=Hd (show T.2.2=f by
     rcases Al hf with⟨h,_⟩|⟨_,h⟩
     ·exact absurd h hf
     ·exact h)
    have HF:=Hd hf;clear Ap Al hf;go_wp2_with (fail);go_at_call 195;refine Ar.out.mono ?_;rintro e w2 ⟨rfl,Aj⟩;have Ai:=Hd (Bt HB.out Aj);clear Aj;go_wp2_with (fail);go_ret3;rw[show U=([],s,f) by rw[HU.out,Ah.out,qH HF.out]];exact⟨_,rfl,qg _ _ _ _,Ai.out⟩
  ·have A0:¬(k:Int)<(n:Int):=by omega
   obtain rfl:k=n:=by omega
   rw[Nat.sub_self]at Ab
   have Ax:=Hd (show T=(o,r,0) by
    rcases Ab with⟨_,h⟩|⟨h,_⟩
    ·rw[h];simp[Tess.takeN]
    ·exact absurd rfl h)
   clear Ab;go_wp2_with (fail);go_ret3;rw[show U=(o,r,0) by rw[HU.out,Ax.out,qR rfl]];exact⟨_,rfl,by rw[As.out];exact HO.out,HB.out⟩
end Go.Proofs.Q9
namespace Tess
theorem tNs:∀(m:Nat) (last:Int) (r:ByteArray),(takeN m last r).2.1.size<=r.size
 |0,_,_=>qC _
 |m+1,last,r=>by
   unfold takeN;split
   ·exact qt (tNs m _ _) (gWs r)
   ·exact qC _
theorem uWs(s:ByteArray):(uW s).2.1.size<=s.size:=by
 unfold uW;split
 ·exact qC _
 ·split
  ·exact qC _
  ·dsimp only;split
   ·exact qt (tNs _ _ _) (gWs s)
   ·exact qC _
def lP2:Nat->List (List Int)->ByteArray->Option (List (List Int))
 |0,out,b=>if b.size=0 then some out else none
 |n+1,out,b=>if(uW b).2.2=0/\(out=[]∨(uW b).1.length=(out.headD []).length)then lP2 n (out++[(uW b).1]) (uW b).2.1 else none
end Tess
namespace Go.Proofs.Q9
open Go.RowKit Go.Sort
theorem oa2{W W':World}{N N':Nat}{e e':TypeId}{sz sz':Nat}{v v':Value}{n n':Nat}{xs xs':List Value}(h:W.ownsRow N e sz v n xs)(h':W.ownsRow N' e' sz' v' n' xs')(hne:e≠e')(hg:W.grownBy W' v'.ownBlock):W'.ownsRow N e sz v n xs:=by
 refine h.kept hg ?_;cases hv:v.ownBlock with
 |none=>exact .inl rfl
 |some g=>
   refine .inr fun e2=>?_;obtain⟨c1,f1,h1⟩:=ok3 h g hv;obtain⟨c2,f2,h2⟩:=ok3 h' g e2.symm;rw[h1]at h2;cases h2
   exact hne rfl
def LI2(N:Nat)(v:Value)(L:List (List Int))(vs:List Value)(W:World):Prop:=
 vs.length=L.length/\W.ownsRow N 49 1 v L.length vs/\∀i (h:i<L.length) (h':i<vs.length),W.ownsRow N 2 1 vs[i] L[i].length (L[i].map (.int .i64))
def LA2(N:Nat)(v:Value)(o:Option (List (List Int)))(W:World):Prop:=
 match o with
 |none=>v = .slice none 0 0
 |some L=>∃vs,LI2 N v L vs W
theorem LI2.below{N:Nat}{v:Value}{L:List (List Int)}{vs:List Value}{W W':World}(h:LI2 N v L vs W)(hb:Below W.heap.size W W'):LI2 N v L vs W':=
 ⟨h.1,ob2 h.2.1 hb,fun i hi hi'=>ob2 (h.2.2 i hi hi') hb⟩
theorem ra12(s:ByteArray)(n:Nat)(w:World)(hs:s.size<=1000000)(hn:n<=10) :
  Calls Tryz.prog 104 #[.string s,.int .i64 n] w fun e w'=>(∃v,e = .returned v/\LA2 w.heap.size v (Tess.lP2 n [] s) w')/\Below w.heap.size w w':=by
 obtain⟨R,hR⟩:=Xq (Tess.lP2 n [] s)
 rw[<-hR];have HR:=Hd hR;clear hR;obtain⟨i0,hi,Ar,Az,Aw⟩:=zF (P:=Tryz.prog) (e:=49) (z:=.slice none 0 0) (size:=1) (bytes:=24) (by kernel_rfl);go_enter Tryz.func104,Tryz.ntmps104;go_wp2_with (fail)
 go_loopw [0,5,6] (fun vb vo vi wr=>∃(k:Nat) (L:List (List Int)) (r:ByteArray) (vs:List Value),k<=n/\vi = .int .i64 (k:Nat)/\vb = .string r/\r.size<=1000000/\L.length=k/\Tess.lP2 (n-k) L r=R/\LI2 w.heap.size vo L vs wr/\Below w.heap.size w wr) (fun _ _ i _=>n-(intOf i).toNat)
 case atStart=>exact⟨0,[],s,[],qN _,rfl,rfl,hs,rfl,HR.out.symm,⟨rfl,qg _ _ _ _,fun i h=>by cases h⟩,qJ _ _⟩
 case round=>
  obtain⟨k,L,r,vs,hk,rfl,rfl,A5,At,Ae,Ay,hB⟩:=hrel;have As:=Hd Ay;have HB:=Hd hB;have Af:=Hd At;clear Ay hB At;by_cases hlt:k<n
  ·have A4:(k:Int)<(n:Int):=by omega
   have An:=ra36 r wr A5;have A1:=Tess.uWs r;have Am:=Tess.uWf r;rw[show n-k=(n-(k+1))+1 by omega,Tess.lP2]at Ae;obtain⟨⟨l,r',c⟩,hu⟩:∃u,u=Tess.uW r:=⟨_,rfl⟩
   rw[<-hu]at An A1 Am Ae;simp only at An A1 Am Ae;have Au:=Hd An;have Aq:=Hd Ae;clear An hu Ae;by_cases hc:c=0;rotate_left
   ·have Ba:((c:Int) !=0)=true:=by rw[zj];omega
    have HN:=Hd (show R=none by rw[<-Aq.out,qH (fun h=>hc h.1)]);clear hc;go_wp2_with (fail);go_at_call 150;refine Au.out.mono ?_;rintro e w2 ⟨v2,rfl,Ac,Aj⟩;have Ah:=Hd (Bt HB.out Aj);clear Ac Aj;go_wp2_with (fail);go_ret;exact⟨⟨_,rfl,by rw[HN.out];rfl⟩,Ah.out⟩
   subst hc;go_wp2_with (fail);go_at_call 150;refine Au.out.mono ?_;rintro e w2 ⟨v2,rfl,Ac,Aj⟩;have Ah:=Hd (Bt HB.out Aj);have Ad:=Hd (As.out.below Aj);have A8:=Hd (ob4 Ac HB.out.size);obtain⟨ad,c2,rfl,Bb,_,_⟩:=oo Ac;clear Ac Aj
   have HX:RowKit.Hid (k≠0->l.length≠(L.headD []).length->R=none):=Hd fun h1 h2=>by
    rw[<-Aq.out,qH (fun h=>by
     rcases h.2 with h3|h3
     ·have:=Af.out;rw[h3]at this;exact h1 this.symm
     ·exact h2 h3)]
   have HY:RowKit.Hid ((k=0∨l.length=(L.headD []).length)->Tess.lP2 (n-(k+1)) (L++[l]) r'=R):=Hd fun h=>by rw[<-Aq.out,qR ⟨trivial,h.imp (fun h=>jQ (Af.out.trans h)) id⟩]
   have Ai:RowKit.Hid (∀(v':Value) (w3:World),w3.ownsRow w.heap.size 49 1 v' (L.length+1) (vs++[.slice ad l.length c2])->(w2.alloc (.cells #[.slice ad l.length c2] 49)).grownBy w3 u5.ownBlock->LI2 w.heap.size v' (L++[l]) (vs++[.slice ad l.length c2]) w3/\Below w.heap.size w w3):=Hd fun v' w3 ho hg=>by
    have ha:=(qJ w2.heap.size w2).alloc (qC _) (.cells #[.slice ad l.length c2] 49);have Ao:=Ad.out.below ha;have A6:=ob2 A8.out ha;refine⟨⟨by simp[Ad.out.1],by simpa using ho,fun i hi hi'=>?_⟩,(Ah.out.alloc Ah.out.size _).grown hg (by have:=Ah.out.size;simp;omega) (fun j e=>(Ad.out.2.1.lt j e).1)⟩;rw[List.getElem_append,List.getElem_append];by_cases h:i<L.length
    ·rw[dif_pos (by rw[Ad.out.1];exact h),dif_pos h];exact oa2 (Ao.2.2 i h (by rw[Ad.out.1];exact h)) Ao.2.1 (by decide) hg
    ·rw[dif_neg (by rw[Ad.out.1];exact h),dif_neg h];simp only[List.getElem_singleton];exact oa2 A6 Ao.2.1 (by decide) hg
   by_cases hk0:k=0
   ·have A3:¬(0:Int)<(k:Int):=by omega
    have A2:¬0<k:=by omega
    have Ap:=Hd (HY.out (.inl hk0));clear hk0
    go_wp2_with (at_builtin;refine qq _ rfl _ _ 149 rfl w.heap.size 49 i0 (.slice none 0 0) 1 24 Tryz.underlying149 hi Ar Az Aw rfl (by decide) _ _ _ rfl (Ad.out.2.1.alloc _) ⟨w2.heap.size,0,none⟩ 1 1 [.slice ad l.length c2] rfl rfl (zh _ _ _) (by simp[Value.oneCell']) (by have:=Af.out;unfold maxLen;omega) (by have:=Af.out;omega) (by have:=Ah.out.size;simp;omega) ?_);intro v' w3 Ab Aa _
    have HA:=Hd (Ai.out v' w3 Ab Aa);clear Ab Aa;go_wp2_with (fail);go_roundw
    case rel=>exact⟨k+1,L++[l],r',_,by omega,by go_num,rfl,by omega,by rw[qI,Af.out];rfl,Ap.out,HA.out.1,HA.out.2⟩
    case measure=>simp[intOf];omega
   ·have A3:(0:Int)<(k:Int):=by omega
    have A2:0<k:=by omega
    have Al:0<L.length:=by rw[Af.out];exact A2
    obtain⟨g,cp,e5,_,Bc,_,Ag⟩:=oc2 Ad.out.2.1 Al;have Ak:0<vs.length:=by rw[Ad.out.1];exact Al
    have h0:=(Ag 0 Al).1;rw[qD Ak,yD]at h0;obtain⟨Bd,c0,A0,_,_,_⟩:=oo (Ad.out.2.2 0 Al Ak);rw[A0]at h0
    have Av:L.headD []=L[0]:=by cases L with
     |nil=>simp at Al
     |cons a l=>rfl
    rw[Av]at HX HY;have A9:(0:Int)<(L.length:Int):=by omega
    rw[e5]at Ad Ai⊢;generalize L[0].length=z0 at *;clear Ag Av A0 e5;by_cases hz:l.length=z0
    ·have A7:((l.length:Int) !=(z0:Int))=false:=by rw[zg];omega
     have Ap:=Hd (HY.out (.inr hz));clear hz hk0
     go_wp2_with (at_builtin;refine qq _ rfl _ _ 149 rfl w.heap.size 49 i0 (.slice none 0 0) 1 24 Tryz.underlying149 hi Ar Az Aw rfl (by decide) _ _ _ rfl (Ad.out.2.1.alloc _) ⟨w2.heap.size,0,none⟩ 1 1 [.slice ad l.length c2] rfl rfl (zh _ _ _) (by simp[Value.oneCell']) (by have:=Af.out;unfold maxLen;omega) (by have:=Af.out;omega) (by have:=Ah.out.size;simp;omega) ?_);intro v' w3 Ab Aa _
     have HA:=Hd (Ai.out v' w3 Ab Aa);clear Ab Aa;go_wp2_with (fail);go_roundw
     case rel=>exact⟨k+1,L++[l],r',_,by omega,by go_num,rfl,by omega,by rw[qI,Af.out];rfl,Ap.out,HA.out.1,HA.out.2⟩
     case measure=>simp[intOf];omega
    ·have A7:((l.length:Int) !=(z0:Int))=true:=by rw[zj];omega
     have HN:=Hd (HX.out hk0 hz);clear hz hk0;go_wp2_with (fail);go_ret;exact⟨⟨_,rfl,by rw[HN.out];rfl⟩,Ah.out⟩
  ·have A4:¬(k:Int)<(n:Int):=by omega
   obtain rfl:k=n:=by omega
   rw[Nat.sub_self,Tess.lP2]at Ae;by_cases hr0:r.size=0
   ·rw[qR hr0]at Ae
    obtain rfl:r=ByteArray.empty:=by obtain⟨⟨d⟩⟩:=r;have:d=[]:=yl.1 hr0;subst this;rfl
    subst Ae;go_wp2_with (fail);go_ret;exact⟨⟨_,rfl,⟨_,As.out⟩⟩,HB.out⟩
   ·rw[qH hr0]at Ae;subst Ae
    have Ax:¬r.toList=[]:=fun e=>hr0 (by
     have:r.data.toList=[]:=by simpa[jn]using e
     simpa using zM List.length this)
    have Be:r.toList.isEmpty=false:=by cases h:r.toList with
     |nil=>exact absurd h Ax
     |cons a l=>rfl
    clear hr0 Ax;go_wp2_with (fail);go_ret;exact⟨⟨_,rfl,rfl⟩,HB.out⟩
