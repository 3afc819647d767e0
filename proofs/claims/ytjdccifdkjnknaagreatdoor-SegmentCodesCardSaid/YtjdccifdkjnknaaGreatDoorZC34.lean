/- Joined. -/
import Derived.Test.YtjdccifdkjnknaaGreatDoorZC33
set_option maxRecDepth 100000
set_option maxHeartbeats 4000000
namespace Tess
open Go Go.RowKit Go.Proofs.Q9
def pR(D:Nat)(l:List ByteArray):Nat->Option (List Int×List Int×List (List DV)×List (List Int×List Int×List Int))
 |0=>(tR2 (l.getD 1 w0)).map fun x=>(x.1,x.2,[],[])
 |j+1=>(pR D l j).bind fun x=>if j<D then(dimR x.1.length (l.getD (2+j) w0)).map fun d=>(x.1,x.2.1,x.2.2.1++[d],x.2.2.2)
   else(metR x.1.length (l.getD (2+j) w0)).map fun m=>(x.1,x.2.1,x.2.2.1,x.2.2.2++[m])
def celK(x:List Int×List Int×List (List DV)×List (List Int×List Int×List Int))(k:Nat):CK×Pay:=
 ((x.1.getD k 0,x.2.2.1.map (·.getD k none)),⟨x.2.1.getD k 0,x.2.2.2.map (·.1.getD k 0),x.2.2.2.map (·.2.1.getD k 0),x.2.2.2.map (·.2.2.getD k 0)⟩)
theorem mMs{α:Type}(f:Nat->Option α)(n:Nat):(List.range (n+1)).mapM f=((List.range n).mapM f).bind fun xs=>(f n).map fun x=>xs++[x]:=by
 rw[xX,List.mapM_append];cases (List.range n).mapM f with
 |none=>rfl
 |some xs=>
   simp only[qBn,List.mapM_nil,Option.bind_eq_bind,jA,Option.pure_def];cases f n<;>rfl
theorem pRe(D:Nat)(l:List ByteArray):∀j,pR D l j=(tR2 (l.getD 1 w0)).bind fun t=>((List.range (min j D)).mapM fun i=>dimR t.1.length (l.getD (2+i) w0)).bind fun ds=>((List.range (j-D)).mapM fun m=>metR t.1.length (l.getD (2+D+m) w0)).map fun ms=>(t.1,t.2,ds,ms)
 |0=>by unfold pR;rw[Nat.zero_min,Nat.zero_sub];cases tR2 (l.getD 1 w0)<;>rfl
 |j+1=>by
   unfold pR;rw[pRe D l j];cases tR2 (l.getD 1 w0)with
   |none=>rfl
   |some t=>
     simp only[jA];by_cases h:j<D
     ·rw[show min (j+1) D=j+1 by omega,show min j D=j by omega,show j+1-D=0 by omega,show j-D=0 by omega,mMs];cases (List.range j).mapM fun i=>dimR t.1.length (l.getD (2+i) w0)with
      |none=>rfl
      |some ds=>
        simp only[jA,List.range_zero,List.mapM_nil,Option.pure_def,ji,qR h];cases dimR t.1.length (l.getD (2+j) w0)<;>rfl
     ·rw[show min (j+1) D=D by omega,show min j D=D by omega,show j+1-D=(j-D)+1 by omega,mMs];cases (List.range D).mapM fun i=>dimR t.1.length (l.getD (2+i) w0)with
      |none=>rfl
      |some ds=>
        simp only[jA];cases (List.range (j-D)).mapM fun m=>metR t.1.length (l.getD (2+D+m) w0)with
        |none=>rfl
        |some ms=>
          simp only[jA,ji,qH h];rw[show 2+D+(j-D)=2+j by omega];cases metR t.1.length (l.getD (2+j) w0)<;>rfl
theorem rSp(D M:Nat)(l:List ByteArray)(h:l.length=2+D+M):rS2 D M l=(pR D l (D+M)).map fun x=>(List.range x.1.length).map (celK x):=by
 unfold rS2;rw[qR h,pRe,show min (D+M) D=D by omega,show D+M-D=M by omega];cases tR2 (l.getD 1 w0)with
 |none=>rfl
 |some t=>
   simp only[jA];cases (List.range D).mapM fun i=>dimR t.1.length (l.getD (2+i) w0)with
   |none=>rfl
   |some ds=>
     simp only[jA];cases (List.range M).mapM fun m=>metR t.1.length (l.getD (2+D+m) w0)with
     |none=>rfl
     |some ms=>rfl
theorem pRn{D:Nat}{l:List ByteArray}{j:Nat}(h:pR D l j=none):∀m,j<=m->pR D l m=none
 |0,hm=>by rw[show j=0 by omega]at h;exact h
 |m+1,hm=>by
   by_cases e:j=m+1
   ·rw[<-e];exact h
   ·unfold pR;rw[pRn h m (by omega)];rfl
theorem tRf{s:ByteArray}{x:List Int×List Int}(h:tR2 s=some x):x.1.length<=1000/\x.2.length=x.1.length:=by
 rw[tRe]at h;unfold tS2 at h;by_cases hc:(uW s).2.2=0
 ·rw[qR hc]at h;cases hr:nR (uW s).1.length (uW s).2.1 with
  |none=>rw[hr]at h;cases h
  |some y=>
    obtain⟨m,e⟩:=y;rw[hr]at h;dsimp only at h;split at h
    ·cases h
     exact⟨(uWf s).1,(nRl hr).1⟩
    ·cases h
 ·rw[qH hc]at h;cases h
theorem pRf{D:Nat}{l:List ByteArray}:∀{j:Nat} {x:List Int×List Int×List (List DV)×List (List Int×List Int×List Int)},pR D l j=some x->x.1.length<=1000/\x.2.2.1.length<=j/\x.2.2.2.length<=j
 |0,x,h=>by
   unfold pR at h;cases ht:tR2 (l.getD 1 w0)with
   |none=>rw[ht]at h;cases h
   |some t=>
     rw[ht]at h;cases h
     exact⟨(tRf ht).1,qC _,qC _⟩
 |j+1,x,h=>by
   unfold pR at h;cases hj:pR D l j with
   |none=>rw[hj]at h;cases h
   |some y=>
     rw[hj]at h;obtain⟨h1,h2,h3⟩:=pRf hj;simp only[jA]at h;split at h
     ·cases hd:dimR y.1.length (l.getD (2+j) w0)with
      |none=>rw[hd]at h;cases h
      |some d=>
        rw[hd]at h;cases h
        exact⟨h1,by simp;omega,by simp;omega⟩
     ·cases hd:metR y.1.length (l.getD (2+j) w0)with
      |none=>rw[hd]at h;cases h
      |some d=>
        rw[hd]at h;cases h
        exact⟨h1,by simp;omega,by simp;omega⟩
theorem pRz{D:Nat}{l:List ByteArray}{x:ByteArray}(h:l.getD 1 w0=x):pR D l 0=(tS2 x).bind fun y=>if y.2.2.size=0 then some (y.1,y.2.1,[],[])else none:=by
 unfold pR;rw[h,tRe];cases tS2 x with
 |none=>rfl
 |some y=>
   obtain⟨a,b,e⟩:=y;simp only[jA];split<;>rfl
theorem pRd{D j:Nat}{l:List ByteArray}{x:ByteArray}{y:List Int×List Int×List (List DV)×List (List Int×List Int×List Int)}(hj:j<D)(h:l.getD (2+j) w0=x)(hp:pR D l j=some y) :
  pR D l (j+1)=(dimS y.1.length x).bind fun z=>if z.2.size=0 then some (y.1,y.2.1,y.2.2.1++[z.1],y.2.2.2)else none:=by
 unfold pR;rw[hp,h];simp only[jA,qR hj];rw[dRe];cases dimS y.1.length x with
 |none=>rfl
 |some z=>
   obtain⟨a,e⟩:=z;simp only[jA];split<;>rfl
theorem pRm{D j:Nat}{l:List ByteArray}{x:ByteArray}{y:List Int×List Int×List (List DV)×List (List Int×List Int×List Int)}(hj:¬j<D)(h:l.getD (2+j) w0=x)(hp:pR D l j=some y) :
  pR D l (j+1)=(metS y.1.length x).bind fun z=>if z.2.size=0 then some (y.1,y.2.1,y.2.2.1,y.2.2.2++[(List.zipWith wO z.1.1 z.1.2.1,z.1.2.2.1,z.1.2.2.2)])else none:=by
 unfold pR;rw[hp,h];simp only[jA,qH hj];rw[mRe];cases metS y.1.length x with
 |none=>rfl
 |some z=>
   obtain⟨⟨a,b,c,d⟩,e⟩:=z;simp only[jA];split<;>rfl
theorem mSl{n:Nat}{s:ByteArray}{z:(List Int×List Int×List Int×List Int)×ByteArray}(h:metS n s=some z):z.1.1.length=n/\z.1.2.1.length=n/\z.1.2.2.1.length=n/\z.1.2.2.2.length=n:=by
 unfold metS at h;cases h1:nR n s with
 |none=>rw[h1]at h;cases h
 |some y1=>
   obtain⟨a,r1⟩:=y1;rw[h1]at h;dsimp only at h;cases h2:nR n r1 with
   |none=>rw[h2]at h;cases h
   |some y2=>
     obtain⟨b,r2⟩:=y2;rw[h2]at h;dsimp only at h;cases h3:nR n r2 with
     |none=>rw[h3]at h;cases h
     |some y3=>
       obtain⟨c,r3⟩:=y3;rw[h3]at h;dsimp only at h;cases h4:nR n r3 with
       |none=>rw[h4]at h;cases h
       |some y4=>
         obtain⟨d,r4⟩:=y4;rw[h4]at h;cases h
         exact⟨(nRl h1).1,(nRl h2).1,(nRl h3).1,(nRl h4).1⟩
end Tess
namespace Go.Proofs.Q9
open Go.RowKit Go.Sort
open Tess (CK Pay celK pR)
theorem cKd(x:List Int×List Int×List (List Tess.DV)×List (List Int×List Int×List Int))(d:List Tess.DV)(k:Nat):celK (x.1,x.2.1,x.2.2.1++[d],x.2.2.2) k=Tess.pD2 (celK x k) (d.getD k none):=by unfold celK Tess.pD2;simp
theorem cKm(x:List Int×List Int×List (List Tess.DV)×List (List Int×List Int×List Int))(a b c d:List Int)(k:Nat)(ha:k<a.length)(hb:k<b.length):celK (x.1,x.2.1,x.2.2.1,x.2.2.2++[(List.zipWith Tess.wO a b,c,d)]) k=Tess.pM3 (celK x k) (Tess.wO (a.getD k 0) (b.getD k 0)) (c.getD k 0) (d.getD k 0):=by unfold celK Tess.pM3 Tess.pX Tess.pS3;simp[List.getElem?_zipWith,ha,hb]
def RP3(a2:Addr)(r D M:Nat)(fs:List ByteArray)(v1 v2 v3:Value)(w:World)(e:Ending)(w':World):Prop:=
 e = .returned (sErr a2 (Tess.rS2 D M fs).isSome)/\Kept w.heap.size r w w'/\∀C,Tess.rS2 D M fs=some C->∃g E V b,SRd r g C.length E V b v1 v2 v3 w'/\w.heap.size<=g/\∀k (h:k<C.length),E k=C[k]
theorem sa14(a0 a1 a2:Addr)(r D M capd capm:Nat)(ad am:Option Addr)(gr:Int)(b0:ByteArray)(vc vl:Value)(fs:List ByteArray)(w:World)(hv:∀W,Kept w.heap.size r w W->DV2 a0 a1 W/\SV a2 W)(hr:Rdr r b0 (.slice ad D capd) (.slice am M capm) (.int .i64 gr) vc w)
  (hl:w.ownsRow 0 9 1 vl fs.length (fs.map .string)) (hfs:∀x∈fs,x.size<=1000000) (hfl:fs.length<=1000000) (hD:D<=100) (hM:M<=100) :
  Calls Tryz.prog 34 #[.pointer (some ⟨r,0,none⟩),vl] w (RP3 a2 r D M fs (.slice ad D capd) (.slice am M capm) (.int .i64 gr) w):=by
 obtain⟨al,cl,rfl,_⟩:=os4 hl;have HV:=Hd hv;have HR:=Hd hr;have A3:=Hd (fun W (hK:Kept w.heap.size r w W)=>okK hl hK hr (by decide));have Au:=Hd hfs;obtain⟨c0,c1,c2,c3,c4⟩:=hr.cells;clear hv hl hfs hr;go_enter Tryz.func34,Tryz.ntmps34;by_cases hlen:fs.length=2+D+M;rotate_left
 ·have Am:¬(fs.length:Int)=2+(D:Int)+(M:Int):=by omega
  have Ax:IntKind.i64.wrap (2+(D:Int))=2+(D:Int):=by rw[zU];omega
  have A0:IntKind.i64.wrap (2+(D:Int)+(M:Int))=2+(D:Int)+(M:Int):=by rw[zU];omega
  have g3:=(HV.out w (Kept.refl _ _ _)).2.g3;go_wp2_with (fail);refine qBh ?_;go_wp2_with (fail);go_quiet (fail);go_wp2_with (fail);rw[zI];go_ret;unfold RP3;rw[show Tess.rS2 D M fs=none by unfold Tess.rS2;rw[qH hlen]];exact⟨rfl,⟨rfl,rfl,rfl,qC _,fun _ _ _=>rfl⟩,fun C h=>by cases h⟩
 ·have Am:(fs.length:Int)=2+(D:Int)+(M:Int):=by omega
  have A7:((fs.length:Int) !=2+(D:Int)+(M:Int))=false:=by rw[Am];simp
  have Ax:IntKind.i64.wrap (2+(D:Int))=2+(D:Int):=by rw[zU];omega
  have A0:IntKind.i64.wrap (2+(D:Int)+(M:Int))=2+(D:Int)+(M:Int):=by rw[zU];omega
  have A9:=Hd Am;have Aa:=Hd hlen;clear Am hlen;go_wp2_with (fail);refine qBh ?_;go_wp2_with (fail);go_quiet (fail);clear c0 c1 c2 c3 c4;go_wp2_with (fail);refine wp_label ?_;go_wp2_with (fail)
  go_loopw [29] (fun v29 wr=>∃i:Nat,i<=fs.length/\v29 = .int .i64 i/\Kept w.heap.size r w wr/\(i<2->∃b' Ap,Rdr r b' (.slice ad D capd) (.slice am M capm) (.int .i64 gr) Ap wr)/\(2<=i->∃x g V b',pR D fs (i-2)=some x/\SRd r g x.1.length (celK x) V b' (.slice ad D capd) (.slice am M capm) (.int .i64 gr) wr/\w.heap.size<=g)) (fun v29 _=>fs.length-(intOf v29).toNat)
  case atStart=>exact⟨0,qN _,rfl,⟨rfl,rfl,rfl,qC _,fun _ _ _=>rfl⟩,fun _=>⟨b0,vc,HR.out⟩,fun h=>absurd h (by omega)⟩
  case round=>
   obtain⟨i,A5,rfl,hK,h1,h2⟩:=hrel;have Ai:=Hd hK;have H1:=Hd h1;have H2:=Hd h2;clear hK h1 h2;by_cases hi:i<fs.length
   ·have A8:(i:Int)<(fs.length:Int):=by omega
    obtain⟨lb,lc,el,_,A4,_,As⟩:=oc2 (A3.out wr Ai.out) (by omega);obtain⟨Ao,_⟩:=As i hi;rw[qp,qD hi]at Ao;simp only[ji,qj]at Ao;simp only[yQ,qAq]at el;obtain⟨rfl,rfl⟩:=el;obtain⟨x,hx⟩:=Xq (fs[i])
    rw[<-hx]at Ao;have HX:=Hd hx;clear hx As;by_cases hi0:i=0
    ·subst hi0;go_wp2_with (fail);exact⟨⟨1,by omega,rfl,Ai.out,fun _=>H1.out (by omega),fun h=>absurd h (by omega)⟩,by simp[intOf];omega⟩
    ·have Az:¬(i:Int)=0:=by omega
     have Ba:((i:Int)==0)=false:=by rw[qi];exact Az
     by_cases hi1:i=1
     ·subst hi1;obtain⟨b',Ap,hR⟩:=H1.out (by omega);obtain⟨q0,q1,q2,q3,q4⟩:=hR.cells;have z0:=hR.z 0;have Av:=Hd (hR.set0 x);have Ak:=Hd (Ai.out.trans (Kept.setCell _ _ wr 0 (.string x)));clear hR;go_wp2_with (fail);refine(sa13 a0 a1 a2 w r 1 x _ _ _ Ap _ HV.out Ak.out Av.out).mono ?_;have Al:fs.getD 1 Tess.w0=x:=by rw[qE,qD hi,HX.out];rfl
      have An:=Hd (Tess.pRz (D:=D) Al);obtain⟨T,hT⟩:=Xq (Tess.tS2 x)
      rw[<-hT]at An⊢;clear hT q0 q1 q2 q3 q4 z0;rintro e w2 ⟨rfl,Ac,hP⟩;have Ae:=Hd Ac;have g3:=(HV.out w2 Ac).2.g3;cases T with
      |none=>
        rw[show sErr a2 (none:Option (List Int×List Int×ByteArray)).isSome = .iface 314 (.pointer (some a2))from rfl];clear Ac hP;go_wp2_with (fail);rw[zI];go_ret;unfold RP3;rw[show Tess.rS2 D M fs=none by rw[Tess.rSp D M fs Aa.out,Tess.pRn An.out _ (qN _)];rfl];exact⟨rfl,Ae.out,fun C h=>by cases h⟩
      |some y=>
        obtain⟨l,m,e⟩:=y;rw[show sErr a2 (some (l,m,e)).isSome = .nilIface from rfl];obtain⟨g,hS,Ag⟩:=hP _ rfl;have HS:=Hd hS;have Af:=Hd Ag;have q0:=hS.rdr.cells.1;clear Ac hP hS Ag;have Ab:pR D fs 0=if e.size=0 then some (l,m,[],[])else none:=An.out
        by_cases he:e.size=0
        ·rw[qR he]at Ab;have Aj:=sn2 he;have Ad:=Hd Ab;clear he Ab;go_wp2_with (fail);go_roundw
         case rel=>exact⟨2,by have:=Aa.out;omega,by go_num,Ae.out,fun h=>absurd h (by omega),fun _=>⟨_,g,_,_,Ad.out,HS.out,Af.out⟩⟩
         case measure=>simp[intOf];omega
        ·rw[qH he]at Ab;have Aj:=sn3 he;have Ad:=Hd Ab;clear he Ab;go_wp2_with (fail);rw[zI];go_ret;unfold RP3;rw[show Tess.rS2 D M fs=none by rw[Tess.rSp D M fs Aa.out,Tess.pRn Ad.out _ (qN _)];rfl];exact⟨rfl,Ae.out,fun C h=>by cases h⟩
     ·obtain⟨y,g,V,b',hp,hS,Ag⟩:=H2.out (by omega);obtain⟨j,hj⟩:∃j,i=2+j:=⟨i-2,by omega⟩
      rw[show i-2=j by omega]at hp;have A6:¬(i:Int)<2:=by omega
      obtain⟨f1,f2,f3⟩:=Tess.pRf hp;have Al:fs.getD (2+j) Tess.w0=x:=by rw[<-hj,qE,qD hi,HX.out];rfl
      have Bb:j<D+M:=by have:=Aa.out;omega
      have A2:x.size<=1000000:=Au.out x (by rw[HX.out];exact qP hi);have At:=Hd (hS.kR2 (Kept.setCell _ _ wr 0 (.string x)) (hS.rdr.set0 x));have Ak:=Hd (Ai.out.trans (Kept.setCell _ _ wr 0 (.string x)));have Af:=Hd Ag;have HP:=Hd hp;obtain⟨q0,q1,q2,q3,q4⟩:=hS.rdr.cells;have z0:=hS.rdr.z 0;have HF:=Hd (And.intro f1 (And.intro f2 f3));have Ar:=Hd Al;have HJ:=Hd hj;clear hS Ag hp Al f1 f2 f3
      by_cases hjD:j<D
      ·have Ay:(i:Int)<2+(D:Int):=by omega
       have Ah:=Hd (Tess.pRd hjD Ar.out HP.out);clear hj;go_wp2_with (fail);refine(sa17 a0 a1 a2 w r g y.1.length _ (celK y) V x _ _ _ _ HV.out Ak.out At.out Af.out HF.out.1 (fun k hk=>by have:=HF.out.2.1;show(celK y k).1.2.length<=1000;unfold celK;simp;omega) A2).mono ?_;obtain⟨T,hT⟩:=Xq (Tess.dimS y.1.length x)
       rw[<-hT]at Ah⊢;clear hT q0 q1 q2 q3 q4 z0;rintro e w2 ⟨rfl,Ac,hP⟩;have Ae:=Hd Ac;have g3:=(HV.out w2 Ac).2.g3;cases T with
       |none=>
         rw[show sErr a2 (none:Option (List Tess.DV×ByteArray)).isSome = .iface 314 (.pointer (some a2))from rfl];clear Ac hP;go_wp2_with (fail);rw[zI];go_ret;unfold RP3;rw[show Tess.rS2 D M fs=none by rw[Tess.rSp D M fs Aa.out,Tess.pRn Ah.out _ (by omega)];rfl];exact⟨rfl,Ae.out,fun C h=>by cases h⟩
       |some z=>
         obtain⟨dl,e⟩:=z;rw[show sErr a2 (some (dl,e)).isSome = .nilIface from rfl];obtain⟨V2,hS⟩:=hP _ rfl;have HS:=Hd (SRd.congr (E':=celK (y.1,y.2.1,y.2.2.1++[dl],y.2.2.2)) hS fun k _=>cKd y dl k);have q0:=hS.rdr.cells.1;clear Ac hP hS;have Ab:pR D fs (j+1)=if e.size=0 then some (y.1,y.2.1,y.2.2.1++[dl],y.2.2.2)else none:=Ah.out
         by_cases he:e.size=0
         ·rw[qR he]at Ab;have Aj:=sn2 he;have Ad:=Hd Ab;clear he Ab;go_wp2_with (fail);go_roundw
          case rel=>exact⟨i+1,by omega,by go_num,Ae.out,fun h=>absurd h (by omega),fun _=>⟨_,g,_,_,(show i+1-2=j+1 by have:=HJ.out;omega)▸Ad.out,HS.out,Af.out⟩⟩
          case measure=>simp[intOf];omega
         ·rw[qH he]at Ab;have Aj:=sn3 he;have Ad:=Hd Ab;clear he Ab;go_wp2_with (fail);rw[zI];go_ret;unfold RP3;rw[show Tess.rS2 D M fs=none by rw[Tess.rSp D M fs Aa.out,Tess.pRn Ad.out _ (by omega)];rfl];exact⟨rfl,Ae.out,fun C h=>by cases h⟩
      ·have Ay:¬(i:Int)<2+(D:Int):=by omega
       have Ah:=Hd (Tess.pRm hjD Ar.out HP.out);clear hj;go_wp2_with (fail);refine(sa18 a0 a1 a2 w r g y.1.length _ (celK y) V x _ _ _ _ HV.out Ak.out At.out Af.out HF.out.1 (fun k hk=>by have:=HF.out.2.2;unfold celK;simp;omega)).mono ?_;obtain⟨T,hT⟩:=Xq (Tess.metS y.1.length x)
       have Aw:=Hd (fun z (h:T=some z)=>Tess.mSl (hT.symm.trans h));rw[<-hT]at Ah⊢;clear hT q0 q1 q2 q3 q4 z0;rintro e w2 ⟨rfl,Ac,hP⟩;have Ae:=Hd Ac;have g3:=(HV.out w2 Ac).2.g3;cases T with
       |none=>
         rw[show sErr a2 (none:Option ((List Int×List Int×List Int×List Int)×ByteArray)).isSome = .iface 314 (.pointer (some a2))from rfl];clear Ac hP;go_wp2_with (fail);rw[zI];go_ret;unfold RP3;rw[show Tess.rS2 D M fs=none by rw[Tess.rSp D M fs Aa.out,Tess.pRn Ah.out _ (by omega)];rfl];exact⟨rfl,Ae.out,fun C h=>by cases h⟩
       |some z=>
         obtain⟨⟨za,zb,zc,zd⟩,e⟩:=z;obtain⟨n1,n2,n3,n4⟩:=Aw.out _ rfl;rw[show sErr a2 (some ((za,zb,zc,zd),e)).isSome = .nilIface from rfl];obtain⟨V2,hS⟩:=hP _ rfl;have HS:=Hd (SRd.congr (E':=celK (y.1,y.2.1,y.2.2.1,y.2.2.2++[(List.zipWith Tess.wO za zb,zc,zd)])) hS fun k hk=>cKm y za zb zc zd k (by dsimp only at n1;omega) (by dsimp only at n2;omega));have q0:=hS.rdr.cells.1
         clear Ac hP hS n1 n2 n3 n4;have Ab:pR D fs (j+1)=if e.size=0 then some (y.1,y.2.1,y.2.2.1,y.2.2.2++[(List.zipWith Tess.wO za zb,zc,zd)])else none:=Ah.out
         by_cases he:e.size=0
         ·rw[qR he]at Ab;have Aj:=sn2 he;have Ad:=Hd Ab;clear he Ab;go_wp2_with (fail);go_roundw
          case rel=>exact⟨i+1,by omega,by go_num,Ae.out,fun h=>absurd h (by omega),fun _=>⟨_,g,_,_,(show i+1-2=j+1 by have:=HJ.out;omega)▸Ad.out,HS.out,Af.out⟩⟩
          case measure=>simp[intOf];omega
         ·rw[qH he]at Ab;have Aj:=sn3 he;have Ad:=Hd Ab;clear he Ab;go_wp2_with (fail);rw[zI];go_ret;unfold RP3;rw[show Tess.rS2 D M fs=none by rw[Tess.rSp D M fs Aa.out,Tess.pRn Ad.out _ (by omega)];rfl];exact⟨rfl,Ae.out,fun C h=>by cases h⟩
   ·have Aq:i=fs.length:=by omega
    have A1:2<=i:=by have:=Aa.out;omega
    obtain⟨y,g,V,b',hp,hS,Ag⟩:=H2.out A1;have HS:=Hd hS;have HP:=Hd hp;have Af:=Hd Ag;have Bc:=Hd Aq;subst Aq;clear hS hp Ag;go_wp2_with (fail);go_ret;unfold RP3
    have hC:Tess.rS2 D M fs=some ((List.range y.1.length).map (celK y)):=by rw[Tess.rSp D M fs Aa.out,show D+M=fs.length-2 by have:=Aa.out;omega,HP.out];rfl
    rw[hC];refine⟨rfl,Ai.out,fun C h=>?_⟩;cases h
    refine⟨g,celK y,V,b',by rw[qX,xK];exact HS.out,Af.out,fun k hk=>?_⟩;simp
end Go.Proofs.Q9
namespace Tess
open Go Go.RowKit Go.Proofs.Q9
theorem sFs:∀(f:Nat) (out:List ByteArray) (s:ByteArray),(∀x∈(sF f out s).1,x∈out∨x.size<=s.size)/\(sF f out s).1.length<=out.length+s.size
 |0,out,s=>⟨fun x hx=>.inl hx,by simp[sF]⟩
 |f+1,out,s=>by
   unfold sF;split
   ·exact⟨fun x hx=>.inl hx,Nat.le_add_right _ _⟩
   ·split
    ·rename_i h;obtain⟨h1,h2⟩:=rr2 s h;obtain⟨h3,h4⟩:=sFs f (out++[(rd s).1]) (rd s).2.1;refine⟨fun x hx=>?_,?_⟩
     ·rcases h3 x hx with h5|h5
      ·rcases zk.1 h5 with h5|h5
       ·exact .inl h5
       ·rw[zJ.1 h5];exact .inr h2
      ·exact .inr (by omega)
     ·rw[qI,zX]at h4;omega
    ·exact⟨fun x hx=>(by cases hx),qN _⟩
theorem dWs(s:ByteArray):∀x∈(decW s).1,x.size<=100:=by
 unfold decW;split
 ·split
  ·split
   ·rename_i h;intro x hx
    have hr:right (wW (numW s 1000).1 (numW s 1000).2.1 w0).1=true:=by
     have h1:=h.1;unfold encW at h1;split at h1
     ·rename_i h2;exact h2
     ·cases h1
    dsimp only at hx;obtain⟨i,hi,rfl⟩:=qAp.1 hx;have:=rs2 _ hr i hi;rwa [qE,qD hi]at this
   ·intro x hx;cases hx
  ·intro x hx;cases hx
 ·intro x hx;cases hx
def dvOk(d:DV):Prop:=∀s,d=some s->s.size<=100
theorem mMa{α β:Type}(f:α->Option β)(p:β->Prop)(hf:∀x y,f x=some y->p y):∀(l:List α) (r:List β),l.mapM f=some r->∀y∈r,p y
 |[],r,h,y,hy=>by cases h;cases hy
 |x::l,r,h,y,hy=>by
   rw[qBn]at h;cases hx:f x with
   |none=>rw[hx]at h;cases h
   |some z=>
     rw[hx]at h;cases hl:l.mapM f with
     |none=>simp only[Option.bind_eq_bind,jA]at h;rw[hl]at h;cases h
     |some zs=>
       simp only[Option.bind_eq_bind,jA]at h;rw[hl]at h;cases h
       rcases qm.1 hy with rfl|hy
       ·exact hf x _ hx
       ·exact mMa f p hf l zs hl y hy
theorem dRo{n:Nat}{s:ByteArray}{l:List DV}(h:dimR n s=some l):∀d∈l,dvOk d:=by
 unfold dimR at h;split at h
 ·split at h
  ·split at h
   ·refine mMa _ dvOk (fun x y hxy=>?_) _ _ h;unfold vA2 at hxy;split at hxy
    ·cases hxy
    ·split at hxy
     ·cases hxy
      intro b hb;cases hb
      exact dWs s _ (qP _)
     ·cases hxy
      intro b hb;cases hb
   ·cases h
  ·cases h
 ·cases h
def i64s(l:List Int):Prop:=∀x∈l,-9223372036854775808<=x/\x<=9223372036854775807
theorem igD{l:List Int}(h:i64s l)(k:Nat): -9223372036854775808<=l.getD k 0/\l.getD k 0<=9223372036854775807:=by
 rw[qE];cases hk:l[k]? with
 |none=>simp
 |some x=>exact h x (xF hk)
theorem mRo{n:Nat}{s:ByteArray}{x:List Int×List Int×List Int}(h:metR n s=some x):i64s x.2.1/\i64s x.2.2/\∀k,-9223372036854775808<=wHi (x.1.getD k 0)/\wHi (x.1.getD k 0)<=9223372036854775807:=by
 rw[mRe]at h;unfold metS at h;cases h1:nR n s with
 |none=>rw[h1]at h;cases h
 |some y1=>
   obtain⟨a,r1⟩:=y1;rw[h1]at h;dsimp only at h;cases h2:nR n r1 with
   |none=>rw[h2]at h;cases h
   |some y2=>
     obtain⟨b,r2⟩:=y2;rw[h2]at h;dsimp only at h;cases h3:nR n r2 with
     |none=>rw[h3]at h;cases h
     |some y3=>
       obtain⟨c,r3⟩:=y3;rw[h3]at h;dsimp only at h;cases h4:nR n r3 with
       |none=>rw[h4]at h;cases h
       |some y4=>
         obtain⟨d,r4⟩:=y4;rw[h4]at h;dsimp only at h;split at h
         ·cases h
          refine⟨(nRl h3).2,(nRl h4).2,fun k=>?_⟩;dsimp only;have ha:=igD (nRl h1).2 k;have la:=(nRl h1).1;have lb:=(nRl h2).1;by_cases hk:k<n
          ·rw[qE,List.getElem?_zipWith,qD (by omega),qD (by omega)];rw[qE,qD (by omega)]at ha;simp only[yz]at ha⊢;unfold wHi wO;omega
          ·rw[qE,yL (by rw[List.length_zipWith];omega)];unfold wHi;simp
         ·cases h
theorem tRo{s:ByteArray}{x:List Int×List Int}(h:tR2 s=some x):i64s x.1/\i64s x.2:=by
 rw[tRe]at h;unfold tS2 at h;by_cases hc:(uW s).2.2=0
 ·rw[qR hc]at h;cases hr:nR (uW s).1.length (uW s).2.1 with
  |none=>rw[hr]at h;cases h
  |some y=>
    obtain⟨m,e⟩:=y;rw[hr]at h;dsimp only at h;split at h
    ·cases h
     exact⟨(uWf s).2,(nRl hr).2⟩
    ·cases h
 ·rw[qH hc]at h;cases h
theorem pRo{D:Nat}{l:List ByteArray}:∀{j:Nat} {x:List Int×List Int×List (List DV)×List (List Int×List Int×List Int)},pR D l j=some x ->
  i64s x.1/\i64s x.2.1/\(∀d∈x.2.2.1,∀v∈d,dvOk v)/\∀m∈x.2.2.2,i64s m.2.1/\i64s m.2.2/\∀k,-9223372036854775808<=wHi (m.1.getD k 0)/\wHi (m.1.getD k 0)<=9223372036854775807
 |0,x,h=>by
   unfold pR at h;cases ht:tR2 (l.getD 1 w0)with
   |none=>rw[ht]at h;cases h
   |some t=>
     rw[ht]at h;cases h
     exact⟨(tRo ht).1,(tRo ht).2,fun _ h=>(by cases h),fun _ h=>(by cases h)⟩
 |j+1,x,h=>by
   unfold pR at h;cases hj:pR D l j with
   |none=>rw[hj]at h;cases h
   |some y=>
     rw[hj]at h;obtain⟨h1,h2,h3,h4⟩:=pRo hj;simp only[jA]at h;split at h
     ·cases hd:dimR y.1.length (l.getD (2+j) w0)with
      |none=>rw[hd]at h;cases h
      |some d=>
        rw[hd]at h;cases h
        refine⟨h1,h2,fun d' hd'=>?_,h4⟩;rcases zk.1 hd' with h5|h5
        ·exact h3 d' h5
        ·rw[zJ.1 h5];exact dRo hd
     ·cases hd:metR y.1.length (l.getD (2+j) w0)with
      |none=>rw[hd]at h;cases h
      |some d=>
        rw[hd]at h;cases h
        refine⟨h1,h2,h3,fun d' hd'=>?_⟩;rcases zk.1 hd' with h5|h5
        ·exact h4 d' h5
        ·rw[zJ.1 h5];exact mRo hd
structure CR(x:CK×Pay):Prop where
 vals:∀v∈x.1.2,dvOk v
 lens:x.1.2.length<=1000/\x.2.sums.length<=1000/\x.2.mins.length<=1000/\x.2.maxs.length<=1000
 mins:∀z∈x.2.mins,-9223372036854775808<=z/\z<=9223372036854775807
 maxs:∀z∈x.2.maxs,-9223372036854775808<=z/\z<=9223372036854775807
theorem rSr{D M:Nat}{l:List ByteArray}{C:List (CK×Pay)}(hD:D+M<=1000)(h:rS2 D M l=some C):C.length<=1000/\∀x∈C,CR x:=by
 have hl:l.length=2+D+M:=by
  by_cases e:l.length=2+D+M
  ·exact e
  ·unfold rS2 at h;rw[qH e]at h;cases h
 rw[rSp D M l hl]at h;cases hp:pR D l (D+M)with
 |none=>rw[hp]at h;cases h
 |some x=>
   rw[hp]at h;cases h
   obtain⟨f1,f2,f3⟩:=pRf hp;obtain⟨h1,h2,h3,h4⟩:=pRo hp;refine⟨by simpa using f1,fun c hc=>?_⟩;obtain⟨k,_,rfl⟩:=qd.1 hc;refine⟨fun v hv=>?_,⟨by simp[celK];omega,by simp[celK];omega,by simp[celK];omega,by simp[celK];omega⟩,fun z hz=>?_,fun z hz=>?_⟩
   ·obtain⟨d,hd,rfl⟩:=qd.1 hv;intro s hs;rw[qE]at hs;cases hk:d[k]? with
    |none=>rw[hk]at hs;cases hs
    |some y=>
      rw[hk]at hs;exact h3 d hd y (xF hk) s hs
   ·obtain⟨m,hm,rfl⟩:=qd.1 hz;exact igD (h4 m hm).1 k
   ·obtain⟨m,hm,rfl⟩:=qd.1 hz;exact igD (h4 m hm).2.1 k
end Tess
namespace Go.Proofs.Q9
open Go.RowKit Go.Sort
open Tess (CK Pay CR)
theorem vor{p:Nat->Prop}{W:World}{v:Value}{l:List Tess.Val}(h:RA 2 valC p W v l)(hs:∀x∈l,x.s.size<=maxLen):VA2 p W v l:=by
 obtain⟨a,Aa,hv,h1,_,h3,h4⟩:=h;refine⟨a,Aa,hv,h1,hs,h3,fun hl=>?_⟩;obtain⟨b,Ab,ha,hb,hp,hc⟩:=h4 hl;refine⟨b,Ab,ha,hb,hp,fun j hj=>⟨?_,?_⟩⟩
 ·have:=hc j hj 0 (by omega);simpa[valC]using this
 ·have:=hc j hj 1 (by omega);simpa[valC]using this
theorem SRd.cels{r g n:Nat}{E:Nat->CK×Pay}{V:Nat×Nat->Value}{b:ByteArray}{v1 v2 v3:Value}{W:World}(h:SRd r g n E V b v1 v2 v3 W)(C:List (CK×Pay))(hn:C.length=n)(hE:∀k (h:k<C.length),E k=C[k])(hok:∀x∈C,CR x)(hl:C.length<=1000):CA2 (fun y=>g<=y) W (.slice (some ⟨g,0,none⟩) n n) C:=by
 obtain⟨A,hA,hc⟩:=h.arr;refine⟨_,n,by rw[hn],by unfold maxLen;omega,by omega,(fun e=>by cases e),fun _=>⟨g,0,rfl,h.lt,qC _,fun j hj=>?_⟩⟩;have Ad:j<n:=by omega
 have Aa:∀{α:Type} (fd:Nat) (k:Nat) (f:α->List Value) (l:List α),fd<4->celS fd=k->celL E (j,fd)=l.map f->(∀x,(f x).length=k)->l.length<=1000->RA k f (fun y=>g<=y) W (V (j,fd)) l:=fun {α} fd k f l hfd hk he hf hlen=>by have ho:=h.fam.own (j,fd) ⟨Ad,hfd⟩;have Ab:=h.fam.nil (j,fd) ⟨Ad,hfd⟩;rw[he]at ho Ab;have Ae:celS (j,fd).2=k:=hk;rw[Ae,qX,<-qBr]at ho;exact(ro2 (fun x _=>hf x) ho (by unfold maxLen;omega) (fun e=>Ab (by rw[e];rfl))).weak fun y hy=>by omega
 obtain⟨⟨Af,⟨l1,l2,l3,l4⟩,_,_⟩⟩:CR C[j]/\True:=⟨hok _ (qP hj),trivial⟩
 have Ac:=hE j hj;refine⟨celC E V j,rfl,⟨V (j,0),V (j,1),V (j,2),V (j,3),by unfold celC;rw[Ac],?_,⟨?_,?_,?_⟩⟩,fun i hi=>?_⟩
 ·refine vor (Aa 0 2 valC (C[j].1.2.map Tess.valOf) (by omega) rfl (by unfold celL;rw[Ac];rfl) (fun _=>rfl) (by simpa using l1)) fun x hx=>?_;obtain⟨d,hd,rfl⟩:=qd.1 hx;cases d with
  |none=>unfold maxLen;exact qN _
  |some s=>have:=Af (some s) hd s rfl;show s.size<=maxLen;unfold maxLen;omega
 ·exact Aa 1 2 wF C[j].2.sums (by omega) rfl (by unfold celL;rw[Ac];rfl) (fun _=>rfl) l2
 ·exact Aa 2 1 intF C[j].2.mins (by omega) rfl (by unfold celL;rw[Ac];rfl) (fun _=>rfl) l3
 ·exact Aa 3 1 intF C[j].2.maxs (by omega) rfl (by unfold celL;rw[Ac];rfl) (fun _=>rfl) l4
 ·rw[qj,qT _ _ _ _ _ _ hA];exact hc j Ad i hi
end Go.Proofs.Q9
namespace Tess
open Go Kl Go.RowKit Go.Proofs.Q9
theorem dPn{s:Sch}{b:ByteArray}{fs:List ByteArray}(hok:sO s=true)(hf:(fs,0)=sF b.size [] b)(h:rS2 s.dims.length s.mets.length fs=none):decP s b=([],130):=by unfold decP;rw[qH (by simp[hok]),<-hf,qH (by simp)];dsimp only;rw[h]
theorem dPs{s:Sch}{b:ByteArray}{fs:List ByteArray}{C:List (CK×Pay)}(hok:sO s=true)(hf:(fs,0)=sF b.size [] b)(h:rS2 s.dims.length s.mets.length fs=some C):decP s b=if encP s C=(b,0)then(C,0)else([],130):=by unfold decP;rw[qH (by simp[hok]),<-hf,qH (by simp)];dsimp only;rw[h]
end Tess
namespace Go.Proofs.Q9
open Go.RowKit Go.Sort
open Tess (CK Pay RCel toR)
def SP2(s:Tess.Sch)(b:ByteArray)(w:World)(e:Ending)(w':World):Prop:=
 ∃v,e = .returned (.tuple #[v,.int .i64 ((Tess.decP s b).2:Nat)])/\Below w.heap.size w w'/\CA2 (fun y=>w.heap.size<=y) w' v (Tess.decP s b).1
theorem cn2(p:Nat->Prop)(W:World):CA2 p W (.slice none 0 0) []:=LA.nil _ _ _ _
theorem ctR{p:Nat->Prop}{W:World}{v:Value}{C:List (CK×Pay)}(h:CA2 p W v C):LA 6 (RA2 p) p W v (C.map toR):=
 LA.maps toR h fun cs x _ hx=>by obtain⟨vd,vs,vm,vx,e,h1,h2⟩:=hx;exact⟨vd,vs,vm,vx,e,h1,h2.sums,h2.mins,h2.maxs⟩
theorem sa4(a0 a1 a2:Addr)(p:Nat->Prop)(vs:Value)(s:Tess.Sch)(b:ByteArray)(w:World)(hv:DV2 a0 a1 w)(hs:SV a2 w)(hsch:SA p w vs s)(hb:b.size<=1000000) :
  Calls Tryz.prog 14 #[vs,.string b] w (SP2 s b w):=by
 have Am:=Hd (fun(W:World) (hB:Below w.heap.size w W)=>sRa vs s p W (hsch.ag (Ag.new p hB)));have Bb:=Hd (fun(W:World) (hB:Below w.heap.size w W)=>hsch.ag (Ag.new p hB));obtain⟨vd,vm,rfl,hd,hm,_⟩:=hsch;obtain⟨ad,Ae,rfl,Bm⟩:=sl3 hd;obtain⟨am,Ad,rfl,Bs⟩:=sl3 hm;obtain⟨D,hD⟩:=Xq s.dims.length
 obtain⟨M,hM⟩:=Xq s.mets.length
 obtain⟨gr,Ba⟩:=Xq s.grain
 rw[<-hD,<-hM,<-Ba]at Am Bb⊢;have At:=Hd (And.intro hD hM);clear hd hm hD hM Ba Bm Bs;have HV:=Hd hv;have HS:=Hd hs;obtain⟨W1,Bu⟩:=XQ ((w.alloc (.cells #[.slice ad D Ae,.slice am M Ad,.int .i64 gr] 24)).alloc (.cells #[.string { data:=#[] },.slice ad D Ae,.slice am M Ad,.int .i64 gr,.slice none 0 0] 72))
 obtain⟨k0,k1,kS,kB⟩:=la3 w (.cells #[.slice ad D Ae,.slice am M Ad,.int .i64 gr] 24) (.cells #[.string { data:=#[] },.slice ad D Ae,.slice am M Ad,.int .i64 gr,.slice none 0 0] 72);rw[Bu]at k0 k1 kS kB;have Bg:=Hd k0;have Ay:=Hd k1;have Ak:=Hd kB;have Bx:=Hd kS;obtain⟨⟨c0,c1,c2⟩,_⟩:=can3 k0;clear hv hs k0 k1 kS kB;go_enter Tryz.func14,Tryz.ntmps14;go_wp2_with (fail);refine wsf 0 rfl ?_
 by_cases hok:Tess.sO s=true;rotate_left
 ·have hf:Tess.sO s=false:=by simpa using hok
  rw[hf]at Am;go_wp2_with (go_at_call 23;refine(Am.out _ Ak.out).mono ?_;rintro e w2 ⟨rfl,Ac⟩;have An:=Hd (Bt Ak.out Ac);clear Ac);go_step3;refine Exit.tg2 (Exit.fg2 ?_);go_wp2;rw[zI];go_ret2;have e:Tess.decP s b=([],100):=by unfold Tess.decP;rw[qR hok]
  unfold SP2;rw[e];exact⟨_,rfl,An.out,cn2 _ _⟩
 rw[hok]at Am;have Ao:=Hd (fun(W:World)=>so7 b W hb);unfold SPO at Ao;obtain⟨Av,A3⟩:=Tess.sFs b.size [] b;obtain⟨⟨fs,Aj⟩,hF⟩:∃x,x=Tess.sF b.size [] b:=⟨_,rfl⟩
 rw[<-hF]at Ao Av A3;have HF:=Hd hF;dsimp only at Ao Av A3;have Bk:=Hd Av;simp only[zE,qj]at A3;clear hF Av;by_cases hcode:Aj=0;rotate_left
 ·have Bj:¬(Aj:Int)=0:=by omega
  have Bv:((Aj:Int)==0)=false:=by rw[qi];exact Bj
  go_wp2_with (first
   |(go_at_call 23;refine(Am.out _ Ak.out).mono ?_;rintro e w2 ⟨rfl,Ac⟩;have An:=Hd (Bt Ak.out Ac);clear Ac)
   |(go_at_call 32;refine(Ao.out w2).mono ?_;rintro e w3 ⟨v3,rfl,Ai,Ah⟩;obtain⟨a3,c3,rfl,_⟩:=os4 Ai;have Aa:=Hd (Bt An.out Ah);clear Ai Ah))
  go_step3;refine Exit.tg2 (Exit.fg2 ?_);go_wp2;rw[zI];go_ret2;have e:Tess.decP s b=([],Aj):=by unfold Tess.decP;rw[qH (by simp[hok]),<-HF.out,qR hcode]
  unfold SP2;rw[e];exact⟨_,rfl,Aa.out,cn2 _ _⟩
 subst hcode;rcases At.out with⟨A8,Bd⟩
 obtain⟨d1,d2,_⟩:=Tess.sf2 hok;rw[<-A8]at d1;rw[<-Bd]at d2;clear A8 Bd
 have Aw:=Hd (fun(W:World) (a3:Option Addr) (c3:Nat) (hB1:Below w.heap.size w W) (hr:Rdr (w.heap.size+1) { data:=#[] } (.slice ad D Ae) (.slice am M Ad) (.int .i64 gr) (.slice none 0 0) W) (ho:W.ownsRow 0 9 1 (.slice a3 fs.length c3) fs.length (fs.map .string))=>
  sa14 a0 a1 a2 (w.heap.size+1) D M Ae Ad ad am gr _ _ _ fs W (fun W' hK=>by
   have Bf:Below w.heap.size w W':=⟨hK.os.trans hB1.os,hK.tape.trans hB1.tape,hK.output.trans hB1.output,qt hB1.size hK.size,fun k hk=>(hK.block k (qF hk hB1.size) (by omega)).trans (hB1.block k hk)⟩
   exact⟨HV.out.below Bf,HS.out.below Bf⟩) hr ho (fun x hx=>by
   rcases Bk.out x hx with h|h
   ·cases h
   ·omega) (by omega) (by omega) (by omega))
 unfold RP3 at Aw;obtain⟨R,hR⟩:=Xq (Tess.rS2 D M fs)
 rw[<-hR]at Aw;have A1:=Hd hR;clear hR;cases R with
 |none=>
   go_wp2_with (first
    |(go_at_call 23;refine(Am.out _ Ak.out).mono ?_;rintro e w2 ⟨rfl,Ac⟩;have An:=Hd (Bt Ak.out Ac);have As:=Hd ((Ac.block (w.heap.size+1) (qA.1 Ay.out).1).trans Ay.out);clear Ac)
    |(go_at_call 32;refine(Ao.out w2).mono ?_;rintro e w3 ⟨v3,rfl,Ai,Ah⟩;obtain⟨a3,c3,rfl,_⟩:=os4 Ai;have Aa:=Hd (Bt An.out Ah);have A4:=Hd ((Ah.block (w.heap.size+1) (qA.1 As.out).1).trans As.out);have Az:=Hd Ai;clear Ai Ah)
    |(go_at_call 34;refine(Aw.out w3 a3 c3 Aa.out A4.out Az.out).mono ?_;rintro e w4 ⟨rfl,Ab,_⟩;have Ap:=Hd (show Below w.heap.size w w4 from⟨Ab.os.trans Aa.out.os,Ab.tape.trans Aa.out.tape,Ab.output.trans Aa.out.output,qt Aa.out.size Ab.size,fun k hk=>(Ab.block k (qF hk Aa.out.size) (by omega)).trans (Aa.out.block k hk)⟩);clear Ab)
    |(go_at_call 33;refine(sa8 a2 false _ (HS.out.below Ap.out)).mono ?_;rintro e w5 ⟨rfl,rfl⟩))
   go_step3;refine Exit.tg2 (Exit.fg2 ?_);go_wp2;rw[zI];go_ret2;unfold SP2;rw[Tess.dPn hok HF.out (by rw[<-At.out.1,<-At.out.2];exact A1.out.symm)];exact⟨_,rfl,Ap.out,cn2 _ _⟩
 |some C=>
   have Ax:=Tess.rSr (by omega) A1.out.symm;have Aq:=Hd Ax
   have Al:Tess.RRng (C.map toR):=fun x hx=>by obtain⟨y,hy,rfl⟩:=qd.1 hx;exact⟨(Ax.2 y hy).mins,(Ax.2 y hy).maxs⟩
   have Af:=Hd (Tess.dPs hok HF.out (by rw[<-At.out.1,<-At.out.2];exact A1.out.symm));have Ar:=Hd (Tess.eRt (s:=s) Al);have A2:=Hd Al;clear Ax Al
   go_wp2_with (first
    |(go_at_call 23;refine(Am.out _ Ak.out).mono ?_;rintro e w2 ⟨rfl,Ac⟩;have An:=Hd (Bt Ak.out Ac);have As:=Hd ((Ac.block (w.heap.size+1) (qA.1 Ay.out).1).trans Ay.out);have Bi:=Hd ((Ac.block w.heap.size (qA.1 Bg.out).1).trans Bg.out);clear Ac)
    |(go_at_call 32;refine(Ao.out w2).mono ?_;rintro e w3 ⟨v3,rfl,Ai,Ah⟩;obtain⟨a3,c3,rfl,_⟩:=os4 Ai;have Aa:=Hd (Bt An.out Ah);have A4:=Hd ((Ah.block (w.heap.size+1) (qA.1 As.out).1).trans As.out);have Bh:=Hd ((Ah.block w.heap.size (qA.1 Bi.out).1).trans Bi.out);have Az:=Hd Ai;clear Ai Ah)
    |(go_at_call 34;refine(Aw.out w3 a3 c3 Aa.out A4.out Az.out).mono ?_;rintro e w4 ⟨rfl,Ab,hC⟩;obtain⟨g,E,V,b',hS,Bc,A9⟩:=hC C rfl;have Ap:=Hd (show Below w.heap.size w w4 from⟨Ab.os.trans Aa.out.os,Ab.tape.trans Aa.out.tape,Ab.output.trans Aa.out.output,qt Aa.out.size Ab.size,fun k hk=>(Ab.block k (qF hk Aa.out.size) (by omega)).trans (Aa.out.block k hk)⟩);have Au:=Hd ((Ab.block w.heap.size (qA.1 Bh.out).1 (by omega)).trans Bh.out);have Br:=Hd hS;have A7:=Hd (SRd.cels hS C rfl A9 Aq.out.2 Aq.out.1);have Bl:=Hd (qt Aa.out.size Bc);clear Ab hC hS Bc A9)
    |(go_at_call 33;refine(sa8 a2 true _ (HS.out.below Ap.out)).mono ?_;rintro e w5 ⟨rfl,rfl⟩))
   obtain⟨⟨A,K⟩,A6⟩:∃x,x=Tess.encP s C:=⟨_,rfl⟩
   rw[<-A6]at Ar Af;clear A6;have HE:=Hd (fun(W:World) (hB:Below w5.heap.size w5 W)=>sa5 (fun y=>p y∨g<=y) _ _ s (C.map toR) W ((Bb.out W (Bt Ap.out hB)).weak fun y hy=>.inl hy) (ctR ((A7.out.ag (Ag.new _ hB)).weak fun y hy=>.inr hy)) A2.out);rw[Ar.out]at HE;dsimp only at HE Af;have A5:=(qA.1 Au.out).1;have Bq:=Hd (fun V (hV:Below w5.heap.size w5 V)=>(can3 ((hV.block _ A5).trans Au.out)).1)
   have Be:=Hd (fun V (hV:Below w5.heap.size w5 V)=>(Br.out.below hV).rdr.cells.2.2.2.2);clear A5 c0 c1 c2;refine Flow.wrf2 (Flow.sp3 [.inl ?_,.inl ?_,.inl ?_,.inl ?_,.inl ?_,.inl (.tuple #[.string A,.int .i64 (K:Nat)]),.inl ?_,.inl ?_,.inl ?_,.inl ?_,.inl ?_]) (by kernel_rfl) (by kernel_rfl) ?_ ?_;rotate_left 10
   ·refine Flow.sm2 ?_
    repeat(first|exact Flow.ln2|refine Flow.li2 ?_)
   iterate 5 (refine Flow.tvK rfl (fun K hK=>⟨fun V hw hG=>?_,?_⟩);(obtain⟨t0,t1,t2⟩:=Bq.out V hw;have t4:=Be.out V hw;clear hG hw;unfold Flow.Runs Flow.yields;go_simp;try rfl);go_simp;refine hK _ ?_;clear hK K)
   (refine Flow.tvK rfl (fun K hK=>⟨fun V hw hG=>?_,?_⟩);(have HW:=Hd hw;clear hG hw;unfold Flow.Runs Flow.yields;go_simp;refine(HE.out _ HW.out).mono ?_;rintro e w3 ⟨rfl,Bn⟩;exact⟨rfl,Bn⟩);go_simp;refine hK _ ?_;clear hK K)
   iterate 5 (refine Flow.tvK rfl (fun K hK=>⟨fun V hw hG=>?_,?_⟩);(clear hG hw;unfold Flow.Runs Flow.yields;go_simp;try rfl);go_simp;refine hK _ ?_;clear hK K)
   refine Flow.tn2 fun w6 hw6 hG=>?_;clear hG;have A0:=Hd (Bt Ap.out hw6);have Bp:=Hd ((A7.out.ag (Ag.new _ hw6)).weak fun y hy=>(qt Bl.out hy:w.heap.size<=y));have q4:=Be.out w6 hw6;clear hw6;by_cases hK:K=0
   ·subst hK;by_cases hA:A=b
    ·subst hA;have Bo:(A.toList==A.toList)=true:=by simp
     go_wp2_with (fail);go_ret2;unfold SP2;rw[show Tess.decP s A=(C,0) by rw[Af.out];simp];exact⟨_,rfl,A0.out,Bp.out⟩
    ·have Bo:(A.toList==b.toList)=false:=by rw[qi];intro h;exact hA (Tess.toList_inj h)
     go_wp2_with (fail);go_step3;refine Exit.tg2 (Exit.fg2 ?_);go_wp2;rw[zI];go_ret2;unfold SP2;rw[Af.out,qH (fun h=>hA (Prod.mk.inj h).1)];exact⟨_,rfl,A0.out,cn2 _ _⟩
   ·have By:((K:Int) !=0)=true:=by rw[zj];omega
    have Bw:¬(K:Int)=0:=by omega
    go_wp2_with (fail);go_step3;refine Exit.tg2 (Exit.fg2 ?_);go_wp2;rw[zI];go_ret2;unfold SP2;rw[Af.out,qH (fun h=>hK (Prod.mk.inj h).2)];exact⟨_,rfl,A0.out,cn2 _ _⟩
end Go.Proofs.Q9
namespace Go.Proofs.Q9
open Go.RowKit Go.Sort
open Tess (CK Pay)
attribute [local go_sem] jK
theorem ra52(p q:Nat->Prop)(va vb:Value)(l1 l2:List Tess.Val)(w:World)(ha:RW2 2 valF p w va l1)(hb:RW2 2 valF q w vb l2) :
  Calls Tryz.prog 85 #[va,vb] w fun e w'=>e = .returned (.bool (decide (l1=l2)))/\Below w.heap.size w w':=by
 obtain⟨xa,ca,rfl,An,Al⟩:=ha;obtain⟨xb,cb,rfl,Aq,Am⟩:=hb;have Av:l1.length<=9223372036854775807:=by unfold maxLen at An;omega
 have A1:l2.length<=9223372036854775807:=by unfold maxLen at Aq;omega
 have Ay:=Hd Al;have Au:=Hd Am;clear Al Am An Aq;by_cases hl:l1.length=l2.length
 ·have Az:((l1.length:Int) !=(l2.length:Int))=false:=by rw[zg];omega
  have HL:=Hd hl;clear hl;go_enter Tryz.func85,Tryz.ntmps85;go_wp2;go_loopw [5] (fun i wr=>∃k:Nat,k<=l1.length/\i = .int .i64 k/\(∀j (h1:j<l1.length) (h2:j<l2.length),j<k->l1[j]=l2[j])/\Below w.heap.size w wr) (fun i _=>l1.length-(intOf i).toNat)
  case atStart=>exact⟨0,qN _,rfl,fun j _ _ h=>absurd h (zH _),qJ _ _⟩
  case round=>
   obtain⟨k,hk,rfl,Ac,Ap⟩:=hrel;have Ad:=Hd Ac;have Ab:=Hd Ap;clear Ac Ap;by_cases hlt:k<l1.length
   ·have Ag:k<l2.length:=by have:=HL.out;omega
    obtain⟨b,Ae,rfl,hb,_,g1⟩:=Ay.out (by omega);obtain⟨b',Aa,rfl,Ah,_,g2⟩:=Au.out (by omega);have Aw:(k:Int)<(l1.length:Int):=by omega
    have At:(k:Int)<(l2.length:Int):=by omega
    have A2:b<wr.heap.size:=qF hb Ab.out.size;have A0:b'<wr.heap.size:=qF Ah Ab.out.size;have G1:=g1 k hlt;have G2:=g2 k Ag
    have Ai:=Hd (show ∀h:l1[k]=l2[k],∀j (h1:j<l1.length) (h2:j<l2.length),j<k+1->l1[j]=l2[j]from fun h j h1 h2 hj=>by
     by_cases hjk:j<k
     ·exact Ad.out j h1 h2 hjk
     ·obtain rfl:j=k:=by omega
      exact h)
    have Af:=Hd (show l1[k]≠l2[k]->l1≠l2 from fun h e=>h (by subst e;rfl));clear g1 g2;generalize l1[k]=u1 at *;generalize l2[k]=u2 at *;obtain⟨x0,x1⟩:=u1;obtain⟨y0,y1⟩:=u2;have r0:wr.cell? ⟨b,Ae+k*2,none⟩=some (.string x0):=(Ab.out.cell (p:=⟨b,Ae+k*2,none⟩) hb).trans (G1 0 (by omega));have t0:wr.cell? ⟨b',Aa+k*2,none⟩=some (.string y0):=(Ab.out.cell (p:=⟨b',Aa+k*2,none⟩) Ah).trans (G2 0 (by omega))
    have r1:wr.cell? ⟨b,Ae+k*2+1,none⟩=some (.bool x1):=(Ab.out.cell (p:=⟨b,Ae+k*2+1,none⟩) hb).trans (G1 1 (by omega));have t1:wr.cell? ⟨b',Aa+k*2+1,none⟩=some (.bool y1):=(Ab.out.cell (p:=⟨b',Aa+k*2+1,none⟩) Ah).trans (G2 1 (by omega));clear G1 G2;have Aj:=Hd (fun W=>nv2 x0 y0 x1 y1 W);go_wp2_with (fail)
    refine Flow.wrf 8 (Flow.sp3 [.inl ?_,.inl ?_,.inl ?_,.inl ?_,.inl ?_,.inl ?_,.inl ?_,.inl ?_]) (by kernel_rfl) (by kernel_rfl) ?_ ?_;rotate_left 8
    ·refine Flow.sm2 ?_
     repeat(first|exact Flow.ln2|refine Flow.li2 ?_)
    all_goals try simp only[qL,qY,qM,qV]
    iterate 8 (refine Flow.tvK rfl (fun K hK=>⟨fun w hw hG=>?_,?_⟩);(have A3:=Flow.bc4 hw;clear hG hw;unfold Flow.Runs Flow.yields;go_simp;try rfl);go_simp;refine hK _ ?_;clear hK K)
    refine Flow.tn2 fun w2 hw2 hG=>?_;clear hG;have Ak:=Hd (Bt Ab.out hw2);clear hw2;have Ao:=Aj.out;by_cases he:(⟨x0,x1⟩:Tess.Val)=⟨y0,y1⟩
    ·rw[decide_eq_true he]at Ao;have Ax:=Hd (Ai.out he);clear he Aj;go_wp2;go_roundw
     case rel=>exact⟨k+1,by omega,by go_num,Ax.out,Ak.out⟩
     case measure=>simp[intOf];omega
    ·rw[qG he]at Ao;have Ar:=Hd (Af.out he);clear he Aj;go_wp2;go_ret;exact⟨retB (qG Ar.out).symm,Ak.out⟩
   ·have Aw:¬(k:Int)<(l1.length:Int):=by omega
    have As:=Hd (show l1=l2 from xA HL.out fun j h1 h2=>Ad.out j h1 h2 (by omega));go_wp2;go_ret;exact⟨retB (decide_eq_true As.out).symm,Ab.out⟩
 ·have Az:((l1.length:Int) !=(l2.length:Int))=true:=by rw[zj];omega
  have HN:=Hd (show l1≠l2 from fun e=>hl (by rw[e]));clear hl;go_enter Tryz.func85,Tryz.ntmps85;go_wp2;go_ret;exact⟨retB (qG HN.out).symm,qJ _ _⟩
theorem ra48(p q:Nat->Prop)(va vb:Value)(l1 l2:List Int)(w:World)(ha:RW2 2 wF p w va l1)(hb:RW2 2 wF q w vb l2) :
  Calls Tryz.prog 86 #[va,vb] w fun e w'=>e = .returned (.bool (decide (l1=l2)))/\Below w.heap.size w w':=by
 obtain⟨xa,ca,rfl,An,Al⟩:=ha;obtain⟨xb,cb,rfl,Aq,Am⟩:=hb;have Av:l1.length<=9223372036854775807:=by unfold maxLen at An;omega
 have A1:l2.length<=9223372036854775807:=by unfold maxLen at Aq;omega
 have Ay:=Hd Al;have Au:=Hd Am;clear Al Am An Aq;by_cases hl:l1.length=l2.length
 ·have Az:((l1.length:Int) !=(l2.length:Int))=false:=by rw[zg];omega
  have HL:=Hd hl;clear hl;go_enter Tryz.func86,Tryz.ntmps86;go_wp2;go_loopw [5] (fun i wr=>∃k:Nat,k<=l1.length/\i = .int .i64 k/\(∀j (h1:j<l1.length) (h2:j<l2.length),j<k->l1[j]=l2[j])/\Below w.heap.size w wr) (fun i _=>l1.length-(intOf i).toNat)
  case atStart=>exact⟨0,qN _,rfl,fun j _ _ h=>absurd h (zH _),qJ _ _⟩
  case round=>
   obtain⟨k,hk,rfl,Ac,Ap⟩:=hrel;have Ad:=Hd Ac;have Ab:=Hd Ap;clear Ac Ap;by_cases hlt:k<l1.length
   ·have Ag:k<l2.length:=by have:=HL.out;omega
    obtain⟨b,Ae,rfl,hb,_,g1⟩:=Ay.out (by omega);obtain⟨b',Aa,rfl,Ah,_,g2⟩:=Au.out (by omega);have Aw:(k:Int)<(l1.length:Int):=by omega
    have At:(k:Int)<(l2.length:Int):=by omega
    have A2:b<wr.heap.size:=qF hb Ab.out.size;have A0:b'<wr.heap.size:=qF Ah Ab.out.size;have G1:=g1 k hlt;have G2:=g2 k Ag
    have Ai:=Hd (show ∀h:l1[k]=l2[k],∀j (h1:j<l1.length) (h2:j<l2.length),j<k+1->l1[j]=l2[j]from fun h j h1 h2 hj=>by
     by_cases hjk:j<k
     ·exact Ad.out j h1 h2 hjk
     ·obtain rfl:j=k:=by omega
      exact h)
    have Af:=Hd (show l1[k]≠l2[k]->l1≠l2 from fun h e=>h (by subst e;rfl));clear g1 g2;generalize l1[k]=u1 at *;generalize l2[k]=u2 at *;have r0:wr.cell? ⟨b,Ae+k*2,none⟩=some (.int .i64 (wHi u1)):=(Ab.out.cell (p:=⟨b,Ae+k*2,none⟩) hb).trans (G1 0 (by omega));have t0:wr.cell? ⟨b',Aa+k*2,none⟩=some (.int .i64 (wHi u2)):=(Ab.out.cell (p:=⟨b',Aa+k*2,none⟩) Ah).trans (G2 0 (by omega))
    have r1:wr.cell? ⟨b,Ae+k*2+1,none⟩=some (.int .u64 (wLo u1)):=(Ab.out.cell (p:=⟨b,Ae+k*2+1,none⟩) hb).trans (G1 1 (by omega));have t1:wr.cell? ⟨b',Aa+k*2+1,none⟩=some (.int .u64 (wLo u2)):=(Ab.out.cell (p:=⟨b',Aa+k*2+1,none⟩) Ah).trans (G2 1 (by omega));clear G1 G2;have Aj:=Hd (fun W=>nw2 u1 u2 W);go_wp2_with (fail)
    refine Flow.wrf 8 (Flow.sp3 [.inl ?_,.inl ?_,.inl ?_,.inl ?_,.inl ?_,.inl ?_,.inl ?_,.inl ?_]) (by kernel_rfl) (by kernel_rfl) ?_ ?_;rotate_left 8
    ·refine Flow.sm2 ?_
     repeat(first|exact Flow.ln2|refine Flow.li2 ?_)
    all_goals try simp only[qL,qY,qM,qV]
    iterate 8 (refine Flow.tvK rfl (fun K hK=>⟨fun w hw hG=>?_,?_⟩);(have A3:=Flow.bc4 hw;clear hG hw;unfold Flow.Runs Flow.yields;go_simp;try rfl);go_simp;refine hK _ ?_;clear hK K)
    refine Flow.tn2 fun w2 hw2 hG=>?_;clear hG;have Ak:=Hd (Bt Ab.out hw2);clear hw2;have Ao:=Aj.out;by_cases he:u1=u2
    ·rw[decide_eq_true he]at Ao;have Ax:=Hd (Ai.out he);clear he Aj;go_wp2;go_roundw
     case rel=>exact⟨k+1,by omega,by go_num,Ax.out,Ak.out⟩
     case measure=>simp[intOf];omega
    ·rw[qG he]at Ao;have Ar:=Hd (Af.out he);clear he Aj;go_wp2;go_ret;exact⟨retB (qG Ar.out).symm,Ak.out⟩
   ·have Aw:¬(k:Int)<(l1.length:Int):=by omega
    have As:=Hd (show l1=l2 from xA HL.out fun j h1 h2=>Ad.out j h1 h2 (by omega));go_wp2;go_ret;exact⟨retB (decide_eq_true As.out).symm,Ab.out⟩
 ·have Az:((l1.length:Int) !=(l2.length:Int))=true:=by rw[zj];omega
  have HN:=Hd (show l1≠l2 from fun e=>hl (by rw[e]));clear hl;go_enter Tryz.func86,Tryz.ntmps86;go_wp2;go_ret;exact⟨retB (qG HN.out).symm,qJ _ _⟩
theorem ra17(p q:Nat->Prop)(va vb:Value)(l1 l2:List Int)(w:World)(ha:RW2 1 intF p w va l1)(hb:RW2 1 intF q w vb l2) :
  Calls Tryz.prog 87 #[va,vb] w fun e w'=>e = .returned (.bool (decide (l1=l2)))/\Below w.heap.size w w':=by
 obtain⟨xa,ca,rfl,Al,Aj⟩:=ha;obtain⟨xb,cb,rfl,Aq,Ak⟩:=hb;have Av:l1.length<=9223372036854775807:=by unfold maxLen at Al;omega
 have A1:l2.length<=9223372036854775807:=by unfold maxLen at Aq;omega
 have Ay:=Hd Aj;have Au:=Hd Ak;clear Aj Ak Al Aq;by_cases hl:l1.length=l2.length
 ·have Az:((l1.length:Int) !=(l2.length:Int))=false:=by rw[zg];omega
  have HL:=Hd hl;clear hl;go_enter Tryz.func87,Tryz.ntmps87;go_wp2;go_loopw [5] (fun i wr=>∃k:Nat,k<=l1.length/\i = .int .i64 k/\(∀j (h1:j<l1.length) (h2:j<l2.length),j<k->l1[j]=l2[j])/\Below w.heap.size w wr) (fun i _=>l1.length-(intOf i).toNat)
  case atStart=>exact⟨0,qN _,rfl,fun j _ _ h=>absurd h (zH _),qJ _ _⟩
  case round=>
   obtain⟨k,hk,rfl,Ab,Ap⟩:=hrel;have Ad:=Hd Ab;have Aa:=Hd Ap;clear Ab Ap;by_cases hlt:k<l1.length
   ·have Af:k<l2.length:=by have:=HL.out;omega
    obtain⟨b,Am,rfl,hb,_,g1⟩:=Ay.out (by omega);obtain⟨b',Ac,rfl,An,_,g2⟩:=Au.out (by omega);have Aw:(k:Int)<(l1.length:Int):=by omega
    have At:(k:Int)<(l2.length:Int):=by omega
    have A2:b<wr.heap.size:=qF hb Aa.out.size;have A0:b'<wr.heap.size:=qF An Aa.out.size;have G1:=g1 k hlt;have G2:=g2 k Af
    have Ag:=Hd (show ∀h:l1[k]=l2[k],∀j (h1:j<l1.length) (h2:j<l2.length),j<k+1->l1[j]=l2[j]from fun h j h1 h2 hj=>by
     by_cases hjk:j<k
     ·exact Ad.out j h1 h2 hjk
     ·obtain rfl:j=k:=by omega
      exact h)
    have Ae:=Hd (show l1[k]≠l2[k]->l1≠l2 from fun h e=>h (by subst e;rfl));clear g1 g2;generalize l1[k]=u1 at *;generalize l2[k]=u2 at *;have r0:wr.cell? ⟨b,Am+k,none⟩=some (.int .i64 u1):=by simpa[intF]using(Aa.out.cell (p:=⟨b,Am+k*1+0,none⟩) hb).trans (G1 0 (by omega))
    have t0:wr.cell? ⟨b',Ac+k,none⟩=some (.int .i64 u2):=by simpa[intF]using(Aa.out.cell (p:=⟨b',Ac+k*1+0,none⟩) An).trans (G2 0 (by omega))
    clear G1 G2;have Ah:=Hd (show(u1 !=u2)=(!decide (u1=u2)) by by_cases h:u1=u2<;>simp[bne,h]);go_wp2_with (fail);refine Flow.wrf 8 (Flow.sp3 [.inl ?_,.inl ?_,.inl ?_,.inl ?_,.inl ?_,.inl ?_,.inl ?_,.inl ?_]) (by kernel_rfl) (by kernel_rfl) ?_ ?_;rotate_left 8
    ·refine Flow.sm2 ?_
     repeat(first|exact Flow.ln2|refine Flow.li2 ?_)
    all_goals try simp only[qL,qY,qM,qV]
    iterate 8 (refine Flow.tvK rfl (fun K hK=>⟨fun w hw hG=>?_,?_⟩);(have A3:=Flow.bc4 hw;clear hG hw;unfold Flow.Runs Flow.yields;go_simp;try rfl);go_simp;refine hK _ ?_;clear hK K)
    refine Flow.tn2 fun w2 hw2 hG=>?_;clear hG;have Ai:=Hd (Bt Aa.out hw2);clear hw2;have Ao:=Ah.out;by_cases he:u1=u2
    ·rw[decide_eq_true he]at Ao;have Ax:=Hd (Ag.out he);clear he Ah;go_wp2;go_roundw
     case rel=>exact⟨k+1,by omega,by go_num,Ax.out,Ai.out⟩
     case measure=>simp[intOf];omega
    ·rw[qG he]at Ao;have Ar:=Hd (Ae.out he);clear he Ah;go_wp2;go_ret;exact⟨retB (qG Ar.out).symm,Ai.out⟩
   ·have Aw:¬(k:Int)<(l1.length:Int):=by omega
    have As:=Hd (show l1=l2 from xA HL.out fun j h1 h2=>Ad.out j h1 h2 (by omega));go_wp2;go_ret;exact⟨retB (decide_eq_true As.out).symm,Aa.out⟩
 ·have Az:((l1.length:Int) !=(l2.length:Int))=true:=by rw[zj];omega
  have HN:=Hd (show l1≠l2 from fun e=>hl (by rw[e]));clear hl;go_enter Tryz.func87,Tryz.ntmps87;go_wp2;go_ret;exact⟨retB (qG HN.out).symm,qJ _ _⟩
