/- Joined. -/
import Derived.Test.YtjdccifdkjnknaaGreatDoorZC39
namespace Tess
open Go Kl Go.RowKit Go.Proofs.Q9
theorem li4(s:ByteArray):lP2 2 [] s=(tR2 s).map fun t=>[t.1,t.2]:=by
 unfold tR2 nR;obtain⟨⟨l0,r0,c0⟩,h0⟩:∃u,uW s=u:=⟨_,rfl⟩
 obtain⟨⟨l1,r1,c1⟩,h1⟩:∃u,uW r0=u:=⟨_,rfl⟩
 by_cases e0:c0=0
 ·by_cases e1:c1=0/\l1.length=l0.length
  ·by_cases e2:r1.size=0
   ·simp[lP2,h0,h1,e0,e1,e2]
   ·simp[lP2,h0,h1,e0,e1,e2]
  ·simp[lP2,h0,h1,e0,e1]
 ·simp[lP2,h0,e0]
theorem li5(n:Nat)(s:ByteArray):metR n s=(lP2 4 [] s).bind fun L=>if(L.getD 0 []).length=n then some (List.zipWith wO (L.getD 0 []) (L.getD 1 []),L.getD 2 [],L.getD 3 [])else none:=by
 unfold metR nR;obtain⟨⟨l0,r0,c0⟩,h0⟩:∃u,uW s=u:=⟨_,rfl⟩
 obtain⟨⟨l1,r1,c1⟩,h1⟩:∃u,uW r0=u:=⟨_,rfl⟩
 obtain⟨⟨l2,r2,c2⟩,h2⟩:∃u,uW r1=u:=⟨_,rfl⟩
 obtain⟨⟨l3,r3,c3⟩,h3⟩:∃u,uW r2=u:=⟨_,rfl⟩
 by_cases en:l0.length=n
 ·subst en;by_cases e0:c0=0
  ·by_cases e1:c1=0/\l1.length=l0.length
   ·by_cases e2:c2=0/\l2.length=l0.length
    ·by_cases e3:c3=0/\l3.length=l0.length
     ·by_cases e4:r3.size=0
      ·simp[lP2,h0,h1,h2,h3,e0,e1,e2,e3,e4]
      ·simp[lP2,h0,h1,h2,h3,e0,e1,e2,e3,e4]
     ·simp[lP2,h0,h1,h2,h3,e0,e1,e2,e3]
    ·simp[lP2,h0,h1,h2,e0,e1,e2]
   ·simp[lP2,h0,h1,e0,e1]
  ·simp[lP2,h0,e0]
 ·have:(lP2 4 [] s).bind (fun L=>if(L.getD 0 []).length=n then some (List.zipWith wO (L.getD 0 []) (L.getD 1 []),L.getD 2 [],L.getD 3 [])else none)=none:=by
   by_cases e0:c0=0
   ·by_cases e1:c1=0/\l1.length=l0.length
    ·by_cases e2:c2=0/\l2.length=l0.length
     ·by_cases e3:c3=0/\l3.length=l0.length
      ·by_cases e4:r3.size=0
       ·simp[lP2,h0,h1,h2,h3,e0,e1,e2,e3,e4,en]
       ·simp[lP2,h0,h1,h2,h3,e0,e1,e2,e3,e4]
      ·simp[lP2,h0,h1,h2,h3,e0,e1,e2,e3]
     ·simp[lP2,h0,h1,h2,e0,e1,e2]
    ·simp[lP2,h0,h1,e0,e1]
   ·simp[lP2,h0,e0]
  rw[this,h0];simp[en]
theorem mapM_len{α β:Type}(f:α->Option β):∀(l:List α) (L:List β),l.mapM f=some L->L.length=l.length
 |[],L,h=>by cases h;rfl
 |x::l,L,h=>by
   rw[qBn]at h;cases hx:f x with
   |none=>rw[hx]at h;cases h
   |some y=>
     rw[hx]at h;cases hl:l.mapM f with
     |none=>rw[hl]at h;cases h
     |some ys=>
       rw[hl]at h;cases h
       simp[mapM_len f l ys hl]
theorem dRl{n:Nat}{s:ByteArray}{l:List DV}(h:dimR n s=some l):l.length=n:=by
 unfold dimR at h;split at h
 ·split at h
  ·rename_i h2;split at h
   ·exact(mapM_len _ _ _ h).trans h2.2
   ·cases h
  ·cases h
 ·cases h
theorem lPs:∀(n:Nat) (out:List (List Int)) (b:ByteArray) (L:List (List Int)),lP2 n out b=some L->(∀l∈out,l.length=(out.headD []).length)->L.length=out.length+n/\∀l∈L,l.length=(L.headD []).length
 |0,out,b,L,h,ho=>by
   unfold lP2 at h;split at h
   ·cases h;exact⟨rfl,ho⟩
   ·cases h
 |n+1,out,b,L,h,ho=>by
   unfold lP2 at h;split at h
   ·rename_i h1
    obtain⟨h2,h3⟩:=lPs n _ _ L h (by
     intro l hl;rcases zk.1 hl with hl|hl
     ·cases out with
      |nil=>cases hl
      |cons a t=>exact ho l hl
     ·rw[zJ.1 hl];rcases h1.2 with h4|h4
      ·subst h4;rfl
      ·cases out with
       |nil=>rfl
       |cons a t=>exact h4)
    exact⟨by simp at h2;omega,h3⟩
   ·cases h
end Tess
namespace Go.Proofs.Q9
open Go.RowKit Go.Sort
open Tess (CK Pay)
theorem w23(d:Nat)(h:d<=100):wrap64 (2+(d:Int))=((2+d:Nat):Int):=by unfold wrap64;omega
theorem w34(d e:Nat)(h:d<=100)(h2:e<=100):wrap64 (2+(d:Int)+(e:Int))=((2+d+e:Nat):Int):=by unfold wrap64;omega
structure Cel(g n:Nat)(E:Nat->CK×Pay)(V:Nat×Nat->Value)(W:World):Prop where
 arr:∃A,W.heap[g]?=some (.cells A 56 (0,0))/\∀k,k<n->∀i,i<6->A[k*6+i]?=(celC E V k)[i]?
 fam:Fam (g+1) (fun i=>i.1<n/\i.2<4) celT celS V (celL E) W
section
variable {g n:Nat} {E E':Nat->CK×Pay} {V:Nat×Nat->Value} {W W':World}
theorem Cel.lt(h:Cel g n E V W):g<W.heap.size:=by obtain⟨A,hA,_⟩:=h.arr;exact(qA.1 hA).1
theorem Cel.below(h:Cel g n E V W)(hb:Below W.heap.size W W'):Cel g n E V W':=
 ⟨by obtain⟨A,hA,hc⟩:=h.arr;exact⟨A,(hb.block g (qA.1 hA).1).trans hA,hc⟩,h.fam.below hb⟩
theorem Cel.congr(h:Cel g n E V W)(hE:∀k,k<n->E' k=E k):Cel g n E' V W:=by
 have hL:∀i:Nat×Nat,i.1<n->celL E' i=celL E i:=fun i hi=>by unfold celL;rw[hE i.1 hi]
 obtain⟨A,hA,hc⟩:=h.arr;refine⟨⟨A,hA,fun k hk i hi=>?_⟩,fun i hi=>?_,h.fam.apart,fun i hi e=>h.fam.nil i hi (by rw[<-hL i hi.1];exact e)⟩
 ·rw[hc k hk i hi];unfold celC;rw[hE k hk]
 ·rw[hL i hi.1];exact h.fam.own i hi
theorem Cel.low(h:Cel g n E V W){i:Nat×Nat}(hi:i.1<n/\i.2<4):∀x,(V i).ownBlock=some x->g<x/\x<W.heap.size:=fun x e=>(h.fam.own i hi).lt x e
theorem Cel.turn(h:Cel g n E V W){k fd tb:Nat}(hk:k<n)(hfd:fd<4)(x:List Value)(hlow:∀z,(V (k,fd)).ownBlock=some z->z<tb):(∀y,y<=g∨tb<=y->fOf W (V (k,fd)) (celS fd) x y=none) /\
  ∀V2,(turns (fOf W (V (k,fd)) (celS fd) x)).r W V2->V2.cell? ⟨g,k*6+posF fd,none⟩=some (V (k,fd))/\V2.frozen? ⟨g,k*6+posF fd,none⟩=false:=by
 have Ab:∀y,y<=g∨tb<=y->fOf W (V (k,fd)) (celS fd) x y=none:=fun y hy=>fOn fun e=>by have:=(h.low (i:=(k,fd)) ⟨hk,hfd⟩ y e).1;have:=hlow y e;omega
 refine⟨Ab,fun V2 hV=>?_⟩;obtain⟨A,hA,hc⟩:=h.arr;have hp:posF fd<6/\(posF fd=1∨posF fd=3∨posF fd=4∨posF fd=5):=by unfold posF;split<;>omega
 have h0:=hc k hk (posF fd) hp.1;rw[cCa _ _ _ _ hp.1]at h0;have Aa:=(tb2 hV h.lt (Ab g (.inl (qC _)))).trans hA;refine⟨(qT _ _ _ _ _ _ Aa).trans (h0.trans ?_),zY V2 g _ _ _ Aa⟩;unfold posF;rcases fd with _|_|_|_|fd
 ·simp
 ·simp
 ·simp
 ·simp
 ·omega
theorem Cel.push(h:Cel g n E V W){k fd:Nat}(hk:k<n)(hfd:fd<4){x:List Value}{v':Value}(hE:∀i:Nat×Nat,i.2<4->celL E' i=if i=(k,fd)then celL E i++[x]else celL E i)(hT:∀j,(E' j).1.1=(E j).1.1/\(E' j).2.n=(E j).2.n)
  (hW:(turns (fOf W (V (k,fd)) (celS fd) x)).r W W') (ha:appd (fOf W (V (k,fd)) (celS fd) x) W.heap.size (g+1) (celT fd) (celS fd) ((celL E (k,fd)).length+1) ((celL E (k,fd)).flatten++x) (V (k,fd)).ownBlock v' W') :
  Cel g n E' (fun i=>if i=(k,fd)then v' else V i) (W'.setCell ⟨g,k*6+posF fd,none⟩ v'):=by
 have Ab:∀y,y<=g->fOf W (V (k,fd)) (celS fd) x y=none:=fun y hy=>fOn fun e=>by have:=(h.low (i:=(k,fd)) ⟨hk,hfd⟩ y e).1;omega
 obtain⟨A,hA,hc⟩:=h.arr;have Aa:=(tb2 hW (qA.1 hA).1 (Ab g (qC _))).trans hA;refine⟨⟨_,qO _ _ _ _ _ v' Aa,cCs hk hfd hc hT⟩,?_⟩;refine Fam.set ?_ (zQ g) _;refine Fam.puts h.fam hW _ _ (fun i hi=>?_) (fun i j hi hj hne y e1 e2=>?_)
 ·by_cases e:i=(k,fd)
  ·refine .inr ⟨x,by rw[hE i hi.2,qR e],?_⟩;subst e;simpa using ha
  ·refine .inl ⟨qH e,by rw[hE i hi.2,qH e],fun y hy=>fOn fun e3=>?_⟩;rcases h.fam.apart i (k,fd) hi ⟨hk,hfd⟩ e with e4|e4
   ·rw[hy]at e4;cases e4
   ·exact e4 (hy.trans e3.symm)
 ·by_cases e:i=(k,fd)
  ·have e':j≠(k,fd):=fun e'=>hne (e.trans e'.symm);simp only[qH e'];intro e3;have:=(h.low hj y e3).2;omega
  ·simp only[qH e]at e1;have:=(h.low hi y e1).2;omega
theorem va6{N n k:Nat}{v:Value}{l:List Tess.DV}(h:W.ownsRow N 47 2 v n (vC (l.map Tess.valOf)))(hk:k<n)(hl:l.length=n):∃q cap,v = .slice (some ⟨q,0,none⟩) n cap/\N<=q/\q<W.heap.size/\W.cell? ⟨q,k*2,none⟩=some (.string (Tess.valOf (l.getD k none)).s)/\W.cell? ⟨q,k*2+1,none⟩=some (.bool (Tess.valOf (l.getD k none)).null):=by
 obtain⟨q,cap,e,h1,h2,_,_,h3⟩:=oca h (by omega);have h4:=vCa2 (l.map Tess.valOf) k (by simpa[hl]using hk);rw[zL]at h4;have e2:l.getD k none=l[k]'(by omega):=by rw[qE,qD (by omega)];rfl
 rw[e2];exact⟨q,cap,e,h1,h2,(h3 _ (by omega)).trans h4.1,(h3 _ (by omega)).trans h4.2⟩
theorem rs5{N n sz:Nat}{e:TypeId}{v:Value}{xs:List Value}(h:W.ownsRow N e sz v n xs):∃a c,v = .slice a n c:=by
 rcases h.2 with⟨h,h0⟩|⟨_,_,_,h,_⟩
 ·exact⟨none,0,by rw[h,h0]⟩
 ·exact⟨_,_,h⟩
theorem LI2.turn{N:Nat}{v:Value}{L:List (List Int)}{vs:List Value}{f:Nat->Option (Obj×Obj)}(h:LI2 N v L vs W)(hr:(turns f).r W W')(hf:∀y,N<=y->f y=none):LI2 N v L vs W':=
 ⟨h.1,to2 h.2.1 hr fun y e=>hf y (h.2.1.lt y e).1,fun i hi hi'=>to2 (h.2.2 i hi hi') hr fun y e=>hf y ((h.2.2 i hi hi').lt y e).1⟩
theorem LI2.set{N:Nat}{v:Value}{L:List (List Int)}{vs:List Value}(h:LI2 N v L vs W){g i:Nat}(hg:g<N)(u:Value):LI2 N v L vs (W.setCell ⟨g,i,none⟩ u):=
 ⟨h.1,jt h.2.1 (by show g<N;exact hg) _,fun i hi hi'=>jt (h.2.2 i hi hi') (by show g<N;exact hg) _⟩
theorem LI2.at{N:Nat}{v:Value}{L:List (List Int)}{vs:List Value}(h:LI2 N v L vs W){i k:Nat}(hi:i<L.length)(hk:k<(L.getD i []).length):∃q cap p c,v = .slice (some ⟨q,0,none⟩) L.length cap/\N<=q/\q<W.heap.size/\N<=p/\p<W.heap.size /\
  W.cell? ⟨q,i,none⟩=some (.slice (some ⟨p,0,none⟩) (L.getD i []).length c)/\W.cell? ⟨p,k,none⟩=some (.int .i64 ((L.getD i []).getD k 0)):=by
 have Aa:i<vs.length:=by rw[h.1];exact hi
 have e:L.getD i []=L[i]:=by rw[qE,qD hi];rfl
 rw[e]at hk⊢;obtain⟨q,cap,e1,h1,h2,_,h3⟩:=oc2 h.2.1 (by omega);obtain⟨p,c,e2,h4,h5,_,h6⟩:=oc2 (h.2.2 i hi Aa) (by omega);refine⟨q,cap,p,c,e1,h1,h2,h4,h5,?_,?_⟩
 ·have:=(h3 i hi).1;rw[qj,qD Aa]at this;rw[this,e2]
 ·have:=(h6 k hk).1;rw[qj,qp,qD hk]at this;rw[this,qE,qD hk];rfl
end
end Go.Proofs.Q9
namespace Tess
open Go Go.RowKit Go.Proofs.Q9
def pM(c:CK×Pay)(x:Int):CK×Pay:=(c.1,⟨c.2.n,c.2.sums,c.2.mins++[x],c.2.maxs⟩)
def pM2(c:CK×Pay)(y:Int):CK×Pay:=(c.1,⟨c.2.n,c.2.sums,c.2.mins,c.2.maxs++[y]⟩)
def upE(E:Nat->CK×Pay)(k:Nat)(c:CK×Pay):Nat->CK×Pay:=fun j=>if j=k then c else E j
theorem uEs(E:Nat->CK×Pay)(k:Nat)(c:CK×Pay):upE E k c k=c:=qR rfl
theorem uEn(E:Nat->CK×Pay)(k:Nat)(c:CK×Pay){j:Nat}(h:j≠k):upE E k c j=E j:=qH h
theorem uEt(E:Nat->CK×Pay)(k:Nat)(c d:CK×Pay):upE (upE E k c) k d=upE E k d:=by
 funext j;unfold upE;by_cases h:j=k
 ·rw[qR h,qR h]
 ·rw[qH h,qH h,qH h]
theorem uEl(F E:Nat->CK×Pay)(k:Nat):upE (fun j=>if j<k then F j else E j) k (F k)=fun j=>if j<k+1 then F j else E j:=by
 funext j;unfold upE;by_cases h:j=k
 ·subst h;rw[qR rfl,qR (zQ _)]
 ·rw[qH h];show(if j<k then F j else E j)=_;by_cases e:j<k
  ·rw[qR e,qR (by omega)]
  ·rw[qH e,qH (by omega)]
theorem ls2{z:ByteArray}{L:List (List Int)}(h:lP2 4 [] z=some L):L.length=4/\∀l∈L,l.length=(L.getD 0 []).length:=by
 obtain⟨h1,h2⟩:=lPs 4 [] z L h (fun _ h=>by cases h);refine⟨by simpa using h1,fun l hl=>?_⟩;rw[h2 l hl];cases L with
 |nil=>rfl
 |cons a t=>rfl
theorem fpS{c:CK×Pay}{m:Nat}{z:Int}(h:c.1.2.length<=m/\c.2.sums.length<=m/\c.2.mins.length<=m/\c.2.maxs.length<=m):(pS3 c z).1.2.length<=m+1/\(pS3 c z).2.sums.length<=m+1/\(pS3 c z).2.mins.length<=m+1/\(pS3 c z).2.maxs.length<=m+1:=by unfold pS3;simp only[qI,qU,zE];omega
theorem fpM{c:CK×Pay}{m:Nat}{z:Int}(h:c.1.2.length<=m/\c.2.sums.length<=m/\c.2.mins.length<=m/\c.2.maxs.length<=m):(pM c z).1.2.length<=m+1/\(pM c z).2.sums.length<=m+1/\(pM c z).2.mins.length<=m+1/\(pM c z).2.maxs.length<=m+1:=by unfold pM;simp only[qI,qU,zE];omega
theorem fm2{c:CK×Pay}{m:Nat}(h:c.1.2.length<=m/\c.2.sums.length<=m/\c.2.mins.length<=m/\c.2.maxs.length<=m){n:Nat}(hm:m<=n):c.1.2.length<=n/\c.2.sums.length<=n/\c.2.mins.length<=n/\c.2.maxs.length<=n:=by omega
end Tess
namespace Go.Proofs.Q9
open Go.RowKit Go.Sort
open Tess (fpS fpM fm2)
theorem gDm{L:List (List Int)}{m i:Nat}(h:L.length=m)(hi:i<m):L.getD i []∈L:=by rw[qE,qD (by omega)];exact qP _
theorem wFo(x0 x1:Int):wF (Tess.wO x0 x1)=[.int .i64 x0,.int .u64 (IntKind.u64.wrap x1)]:=by unfold wF Tess.wO wHi wLo;rw[wu,show(x0*18446744073709551616+x1%18446744073709551616)/18446744073709551616=x0 by omega,show(x0*18446744073709551616+x1%18446744073709551616)%18446744073709551616=x1%18446744073709551616 by omega]
open Tess (CK Pay pD2 pS3 pM pM2 upE)
theorem cLp4{E E':Nat->CK×Pay}{k:Nat}{x:Int}(h1:E' k=pM (E k) x)(h2:∀j,j≠k->E' j=E j):∀i:Nat×Nat,i.2<4->celL E' i=if i=(k,2)then celL E i++[[.int .i64 x]]else celL E i:=by
 rintro⟨j,fd⟩ Aa;by_cases e:j=k
 ·subst e;unfold celL;rw[h1];rcases fd with _|_|_|_|fd
  ·simp[pM]
  ·simp[pM]
  ·simp[pM,intF]
  ·simp[pM]
  ·simp only at Aa;omega
 ·rw[qH (fun h=>e (by cases h;rfl))];unfold celL;rw[h2 j e]
theorem cLp3{E E':Nat->CK×Pay}{k:Nat}{x:Int}(h1:E' k=pM2 (E k) x)(h2:∀j,j≠k->E' j=E j):∀i:Nat×Nat,i.2<4->celL E' i=if i=(k,3)then celL E i++[[.int .i64 x]]else celL E i:=by
 rintro⟨j,fd⟩ Aa;by_cases e:j=k
 ·subst e;unfold celL;rw[h1];rcases fd with _|_|_|_|fd
  ·simp[pM2]
  ·simp[pM2]
  ·simp[pM2]
  ·simp[pM2,intF]
  ·simp only at Aa;omega
 ·rw[qH (fun h=>e (by cases h;rfl))];unfold celL;rw[h2 j e]
theorem uEk{E:Nat->CK×Pay}{k:Nat}{c:CK×Pay}(h:c.1.1=(E k).1.1/\c.2.n=(E k).2.n)(j:Nat):(upE E k c j).1.1=(E j).1.1/\(upE E k c j).2.n=(E j).2.n:=by
 by_cases e:j=k
 ·subst e;rw[Tess.uEs];exact h
 ·rw[Tess.uEn _ _ _ e];exact⟨rfl,rfl⟩
theorem cLf{E:Nat->CK×Pay}{k m:Nat}(fd:Nat)(h:(E k).1.2.length<=m/\(E k).2.sums.length<=m/\(E k).2.mins.length<=m/\(E k).2.maxs.length<=m):(celL E (k,fd)).length<=m:=by
 unfold celL;dsimp only;split
 ·simpa using h.1
 ·split
  ·simpa using h.2.1
  ·split
   ·simpa using h.2.2.1
   ·simpa using h.2.2.2
theorem cKf{D j m k:Nat}{l:List ByteArray}{y:List Int×List Int×List (List Tess.DV)×List (List Int×List Int×List Int)}(h:Tess.pR D l j=some y)(hm:j<=m):(Tess.celK y k).1.2.length<=m/\(Tess.celK y k).2.sums.length<=m/\(Tess.celK y k).2.mins.length<=m/\(Tess.celK y k).2.maxs.length<=m:=by obtain⟨_,h1,h2⟩:=Tess.pRf h;unfold Tess.celK;simp only[qX];exact⟨by omega,by omega,by omega,by omega⟩
section
variable {g n:Nat} {E:Nat->CK×Pay} {V:Nat×Nat->Value} {W W':World}
theorem Cel.pD2(h:Cel g n E V W){k:Nat}(hk:k<n){d:Tess.DV}{x:List Value}(hx:valC (Tess.valOf d)=x){v':Value}
  (hW:(turns (fOf W (V (k,0)) (celS 0) x)).r W W') (ha:appd (fOf W (V (k,0)) (celS 0) x) W.heap.size (g+1) (celT 0) (celS 0) ((celL E (k,0)).length+1) ((celL E (k,0)).flatten++x) (V (k,0)).ownBlock v' W') :
  Cel g n (upE E k (Tess.pD2 (E k) d)) (fun i=>if i=(k,0)then v' else V i) (W'.setCell ⟨g,k*6+1,none⟩ v'):=by
 subst hx;exact h.push hk (fd:=0) (by omega) (fun i _=>cLp2 (Tess.uEs _ _ _) (fun j hj=>Tess.uEn _ _ _ hj) i) (uEk ⟨rfl,rfl⟩) hW ha
theorem Cel.pS3(h:Cel g n E V W){k:Nat}(hk:k<n){z:Int}{x:List Value}(hx:wF z=x){v':Value}
  (hW:(turns (fOf W (V (k,1)) (celS 1) x)).r W W') (ha:appd (fOf W (V (k,1)) (celS 1) x) W.heap.size (g+1) (celT 1) (celS 1) ((celL E (k,1)).length+1) ((celL E (k,1)).flatten++x) (V (k,1)).ownBlock v' W') :
  Cel g n (upE E k (Tess.pS3 (E k) z)) (fun i=>if i=(k,1)then v' else V i) (W'.setCell ⟨g,k*6+3,none⟩ v'):=by
 subst hx;exact h.push hk (fd:=1) (by omega) (fun i _=>cLp (Tess.uEs _ _ _) (fun j hj=>Tess.uEn _ _ _ hj) i) (uEk ⟨rfl,rfl⟩) hW ha
theorem Cel.pM(h:Cel g n E V W){k:Nat}(hk:k<n){z:Int}{v':Value}
  (hW:(turns (fOf W (V (k,2)) (celS 2) [.int .i64 z])).r W W') (ha:appd (fOf W (V (k,2)) (celS 2) [.int .i64 z]) W.heap.size (g+1) (celT 2) (celS 2) ((celL E (k,2)).length+1) ((celL E (k,2)).flatten++[.int .i64 z]) (V (k,2)).ownBlock v' W') :
  Cel g n (upE E k (Tess.pM (E k) z)) (fun i=>if i=(k,2)then v' else V i) (W'.setCell ⟨g,k*6+4,none⟩ v'):=
 h.push hk (fd:=2) (by omega) (cLp4 (Tess.uEs _ _ _) (fun j hj=>Tess.uEn _ _ _ hj)) (uEk ⟨rfl,rfl⟩) hW ha
theorem Cel.pM2(h:Cel g n E V W){k:Nat}(hk:k<n){z:Int}{v':Value}
  (hW:(turns (fOf W (V (k,3)) (celS 3) [.int .i64 z])).r W W') (ha:appd (fOf W (V (k,3)) (celS 3) [.int .i64 z]) W.heap.size (g+1) (celT 3) (celS 3) ((celL E (k,3)).length+1) ((celL E (k,3)).flatten++[.int .i64 z]) (V (k,3)).ownBlock v' W') :
  Cel g n (upE E k (Tess.pM2 (E k) z)) (fun i=>if i=(k,3)then v' else V i) (W'.setCell ⟨g,k*6+5,none⟩ v'):=
 h.push hk (fd:=3) (by omega) (cLp3 (Tess.uEs _ _ _) (fun j hj=>Tess.uEn _ _ _ hj)) (uEk ⟨rfl,rfl⟩) hW ha
theorem LI2.first{N:Nat}{v:Value}{L:List (List Int)}{vs:List Value}(h:LI2 N v L vs W)(h0:0<L.length):∃q cap a c,v = .slice (some ⟨q,0,none⟩) L.length cap/\W.cell? ⟨q,0,none⟩=some (.slice a (L.getD 0 []).length c):=by
 have Aa:0<vs.length:=by rw[h.1];exact h0
 have e:L.getD 0 []=L[0]:=by rw[qE,qD h0];rfl
 obtain⟨q,cap,e1,_,_,_,h3⟩:=oc2 h.2.1 h0;obtain⟨a,c,e2⟩:=rs5 (h.2.2 0 h0 Aa);refine⟨q,cap,a,c,e1,?_⟩;have:=(h3 0 h0).1;rw[qj,qD Aa]at this;rw[e,this,e2]
theorem LI2.seen{N q m qc n i k:Nat}{L:List (List Int)}{vs:List Value}(h:LI2 N (.slice (some ⟨q,0,none⟩) m qc) L vs W)(hL:L.length=m)(hi:i<m)(hn:∀l∈L,l.length=n)(hk:k<n){f:Nat->Option (Obj×Obj)}(hf:∀y,N<=y->f y=none) :
  ∃p c,∀V,(turns f).r W V->V.cell? ⟨q,i,none⟩=some (.slice (some ⟨p,0,none⟩) n c)/\V.cell? ⟨p,k,none⟩=some (.int .i64 ((L.getD i []).getD k 0)):=by
 have hl:=hn _ (gDm hL hi);obtain⟨q',Aa,p,c,e,h1,h2,h3,h4,h5,h6⟩:=h.at (i:=i) (k:=k) (by omega) (by omega);rw[hl]at h5;cases e
 exact⟨p,c,fun V hV=>⟨(ta2 hV h2 (hf q h1) (o:=i)).trans h5,(ta2 hV h4 (hf p h3) (o:=k)).trans h6⟩⟩
theorem Bn{f:Nat->Option (Obj×Obj)}{N:Nat}{wb w w':World}(h:Below N wb w)(hr:(turns f).r w w')(hN:N<=wb.heap.size)(hf:∀y,y<N->f y=none):Below N wb w':=
 ⟨hr.1.trans h.os,hr.2.1.trans h.tape,hr.2.2.1.trans h.output,qt h.size hr.2.2.2.1,fun k hk=>(tb2 hr (qF hk (qt hN h.size)) (hf k hk)).trans (h.block k hk)⟩
end
